/- Parts of a proof, one behind the other: what a machine reaches, functions decompiled, plain lemmas. Conditions stand with each lemma. -/
import Derived.Test.YtchebnpdnfhenaaGreatDoorBb501fecef1
import Derived.Test.YtchebnpdnfhenaaGreatDoorBcf9365863c
import Derived.RecoverIn

set_option linter.unusedVariables false
set_option linter.unusedSimpArgs false
set_option linter.unusedSectionVars false
set_option maxRecDepth 100000
set_option maxHeartbeats 8000000
variable {aN aA a0_10 a0_12 a0_16 aW a0_20 a0_22 jr iF jd jL yJ:Option Go.Addr}{pq uM b_ b0_11 fG aK aY c0_11 c0_13 c0_17 ay c0_21 c0_23 jm iD jc EW jK:Nat}

noncomputable section
namespace Go.E
open Go
def fltV(T:TypeId)(k:Int):Value:= .iface T (.agg #[.int .i64 k])
def ConF(P:Program)(f:FuncId)(args:Array Value)(σ:aj)(H:List Res)(v:Value):Prop:=
  ∀w,Reach w (iG H) σ σ w H->Calls P f args w λe w'=>e= .panicked [{v:=v,recovered:=false}]/\ ∃σ',Reach w (iG H) σ σ' w' []
def tX(P:Program)(f:FuncId)(args:Array Value)(σ:aj)(H:List Res){α:Type}(T:TypeId)(Post:α->Value->aj->List Res->Prop):Int⊕α->Prop
  | .inr x=>Con P f args σ H (Post x)
  | .inl k=>ConF P f args σ H (fltV T k)
theorem tX.l{P:Program}{f:FuncId}{args:Array Value}{σ:aj}{H:List Res}{α:Type}{T:TypeId}{Post:α->Value->aj->List Res->Prop}{k:Int}(h:tX P f args σ H T Post (.inl k)):ConF P f args σ H (fltV T k):=h
theorem tX.r{P:Program}{f:FuncId}{args:Array Value}{σ:aj}{H:List Res}{α:Type}{T:TypeId}{Post:α->Value->aj->List Res->Prop}{x:α}(h:tX P f args σ H T Post (.inr x)):Con P f args σ H (Post x):=h
@[reducible]def RetX{α:Type}(P:Program)(fn:Func)(n:Nat)(T:TypeId)(Post:α->Value->aj->List Res->Prop):Int⊕α->QP
  | .inr x=>RetOk P fn n (Post x)
  | .inl k=>λex _ _ _=>ex= .panic [{v:=fltV T k,recovered:=false}]
theorem tX.mk{α:Type}{P:Program}{f:FuncId}{fn:Func}{c:Code}{args:List Value}{n:Nat}{σ:aj}{H:List Res}{T:TypeId}{Post:α->Value->aj->List Res->Prop}{r:Int⊕α}
    (hf:P.funcs[f]? =some fn) (hb:fn.body=some c) (hn:fn.ntmps=n) (ha:Nat.ble args.length n=true)
    (h: ∀w0,TC ⟨P,w0,iG H,σ,n,none,some []⟩ (RetX P fn n T Post r) c (Ph args) σ H):tX P f args.toArray σ H T Post r:=by
  cases r with
  |inr x=>exact Con.mkD hf hb hn ha λw0=>TB.fin tr_ (h w0)
  |inl k=>
    intro w hw
    refine Z7.1 (callsIn_of_wp_marks (F:=fence none) (n:=0) hf hb trivial (Go.wpIn_mono (h w w _ ⟨hw,MarksOk.start⟩ (s4_ hn ha)) ?_))
    rintro ex a w' ⟨e',σ',H',h1,h2,h3⟩
    have h3:ex= .panic [{v:=fltV T k,recovered:=false}]:=h3
    subst h3
    have hd:a.defers=[]:=h2.marks.is _ rfl
    show LeavesInM (fence none) 0 P fn a.tmps _ a.defers _ w'
    rw [hd]
    exact ⟨rfl,σ',h2.toReach.sub (List.nil_sublist _)⟩
def rV{α β γ:Type}(x:α⊕β)(f:α->γ)(g:β->γ):γ:=match x with| .inl a=>f a| .inr b=>g b
section rules
variable {X:Ctx} {ops:Array Oper} {Q:QP} {e:Env} {σ:aj} {H F:List Res} {o:Oper} {rest:List Oper} {x:Operand} {K:Env->aj->List Res->Prop}
theorem OpOk.YW{α:Type}{y:α}{T:TypeId}{f d:Nat}{opds:Array Operand}{ts:Array TypeId}{first cap:Array Value}{args:List Value}{Post:α->Value->aj->List Res->Prop}{H1:List Res}(hc:tX X.P f args.toArray σ H1 T Post (.inr y))(ho:o.op= .call {callee:= .value x,args:=opds,argTypes:=ts})
    (hx:ev e x= .func (.func f) first cap) (hp:plainF X.P f=true) (hargs:first.toList++(opds.toList.map (ev e)++cap.toList)=args) (hd:o.dst=some d) (hn:Nat.blt d X.n=true) (hH:H1++F=H)
    (k: ∀r σ' Ij,σ.le σ'->Post y r σ' Ij->K (upd e d r) σ' (Ij++F)):OpOk X o e σ H K:=OpOk.call hc ho hx hp hargs hd hn hH k
theorem OpOk.cv_{α:Type}{y:α}{T:TypeId}{f d:Nat}{opds:Array Operand}{ts:Array TypeId}{first cap:Array Value}{args:List Value}{v:Value}{Post:α->Value->aj->List Res->Prop}(hc:tX X.P f args.toArray σ [] T Post (.inr y))(hq:Post y=kZ v σ)(ho:o.op= .call {callee:= .value x,args:=opds,argTypes:=ts})
    (hx:ev e x= .func (.func f) first cap) (hp:plainF X.P f=true) (hargs:first.toList++(opds.toList.map (ev e)++cap.toList)=args) (hd:o.dst=some d) (hn:Nat.blt d X.n=true) (k:K (upd e d v) σ H):OpOk X o e σ H K:=
  OpOk.YW hc ho hx hp hargs hd hn rfl (λr σ' Ij _ h=>by
    rw [hq]at h
    obtain ⟨h1,h2,h3⟩:=h
    subst h1 h3
    rw [h2]
    exact k)
theorem TL.PV{f:Nat}{opds:Array Operand}{ts:Array TypeId}{first cap:Array Value}{args:List Value}{v:Value}{H1:List Res}(hg:o.guard=none)(hc:ConF X.P f args.toArray σ H1 v)(ho:o.op= .call {callee:= .value x,args:=opds,argTypes:=ts})
    (hx:ev e x= .func (.func f) first cap) (hp:plainF X.P f=true) (hargs:first.toList++(opds.toList.map (ev e)++cap.toList)=args) (hH:H1++F=H)
    (k: ∀σ',σ.le σ'->Q (.panic [{v:=v,recovered:=false}]) e σ' F):TL X ops Q (o::rest) e σ H:=by
  subst hargs hH
  intro w a hw ha
  refine wpListIn_plain hg λK hK=> ?_
  have hr:(execOp a.eval o).run X.P w= .ok (.enter f (first.toList++(opds.toList.map (ev e)++cap.toList)).toArray) w:=by
    rw [ha.eval']
    have hl:(first.toList++(opds.toList.map (ev e)++cap.toList)).toArray=first++(opds.map (ev e)++cap):=by
      apply Array.ext';simp
    rw [hl]
    simp [execOp,ho,resolve,hx,Deferred.ofValue,invoke,U8 hp,Array.append_assoc]
  refine Oper.b0_ hr (λ_=>by simp) ⟨λh=>(by cases h),Z7.2 ((hc w (hw.toReach.sub (List.sublist_append_left H1 F)).self).mono ?_)⟩
  rintro e' w' ⟨rfl,σ',h3⟩
  exact ⟨e,σ',F,ha,hw.step (hw.toReach.self.call h3) rfl,k σ' h3.le⟩
theorem TL.panic{T:TypeId}{v:Value}(hg:o.guard=none)(ho:o.op= .panic x)(hx:ev e x= .iface T v)
    (k:Q (.panic [{v:= .iface T v,recovered:=false}]) e σ H):TL X ops Q (o::rest) e σ H:=by
  intro w a hw ha
  refine wpListIn_plain hg λK hK=> ?_
  have hr:(execOp a.eval o).run X.P w= .halt (.panic (.iface T v)) w:=by
    rw [ha.eval']
    have hp:Sem.run X.P (Instr.panic (.iface T v)) w= .halt (.panic (.iface T v)) w:=rfl
    simp only [execOp,ho,hx,Sem.run_bind,hp,Result.andThen]
  refine ⟨λ_ _=>trivial,?_⟩
  rw [Oper.semAt_eq _ _ _ (λc hc=>by rw [ho]at hc;cases hc),hr]
  exact ⟨e,σ,H,ha,hw,k⟩
theorem OpVal.bu_{P:Program}{n T:Nat}{v:Value}{fs:Array Field}(ho:o.op= .makeInterface T x)(hu:P.underlying T=some (.struct fs))(hx:ev e x=v):OpVal P n o e σ H (.iface T v):=λw _=>by
  simp [execOp,ho,hx,Instr.makeInterface,run_underlying hu]
theorem OpVal.dp_{P:Program}{n T:Nat}{S:TypeId}{v:Value}{fs:Array Field}(ho:o.op= .typeAssert x S T true)(hu:P.underlying T=some (.struct fs))(hx:ev e x= .iface T v):OpVal P n o e σ H (.tuple #[v,.bool true]):=λw _=>by
  simp [execOp,ho,hx,Instr.typeAssert,run_underlying hu]
theorem OpVal.dl_{P:Program}{n T:Nat}{S:TypeId}{z:Value}{fs:Array Field}(ho:o.op= .typeAssert x S T true)(hu:P.underlying T=some (.struct fs))(hz: ∀w,(zeroValue T).run P w= .ok z w)(hx:ev e x= .nilIface):OpVal P n o e σ H (.tuple #[z,.bool false]):=λw _=>by
  simp [execOp,ho,hx,Instr.typeAssert,run_underlying hu,hz]
end rules
def Q_(P:Program)(f:FuncId)(args:Array Value)(v:Value)(σ:aj)(H:List Res)(Post:Value->aj->List Res->Prop):Prop:=
  ∀w,Reach w (iG H) σ σ w H->CallsDIn (fence none) 0 P f args (.panicking [{v:=v,recovered:=false}]) w λe u w'=>u= .panicking [{v:=v,recovered:=true}]/\ ∃r σ' H',e= .returned r/\Post r σ' H'/\Reach w (iG H) σ σ' w' H'
@[reducible]def weakQ(Q:QP):QP:=λex e σ H=> ∃F,Sub F H/\Q ex e σ F
theorem qt_{P:Program}{Q:Exit->Act->List Frame->World->Prop}{Q0:Exit->Act->World->Prop}{a:Act}{cs cs':List Frame}{w:World}{id d:Nat}{o0:Oper}{l:List Oper}{rv:Value}
    (hop:o0.op= .call {callee:= .builtin .recover,args:= #[],argTypes:= #[]}) (hg:o0.guard=none) (hd:o0.dst=some d)
    (hrec:(recoverD cs=some (rv,cs')\/(recoverD cs=none/\rv= .nilIface/\cs'=cs)))
    (h:wpListIn (fence none) 0 P (o0::l).toArray Q0 l (a.put (some d) rv) w) (hQ: ∀e a' w',Q0 e a' w'->Q e a' cs' w'):(Code.region id (o0::l).toArray false).wpSIn (fence none) 0 P Q a cs w:=by
  intro b k hb hro hF hroom
  have hlen:cs'.length=cs.length:=by
    rcases hrec with h1|⟨-, -,h1⟩
    · exact recoverD_length h1
    rw [h1]
  have h2:wpOpsIn (fence none) 0 P (o0::l).toArray Q0 (List.range' 1 l.length) (a.put (some d) rv) w:=by
    rw [wpOpsIn_eq_wpListIn l 1 (λj=>by simp [Nat.add_comm 1 j])]
    exact h
  obtain ⟨e,a',w',hq,harr⟩:=wp_opsIn _ _ _ h2 b k cs' hro trivial (hlen▸hroom)
  refine ⟨e,a',cs',w',hlen,hQ _ _ _ hq,?_⟩
  have hr:List.range (o0::l).toArray.size=0::List.range' 1 l.length:=by
    rw [List.range_eq_range'];simp [List.range'_succ]
  refine ArrivesIn.of_steps (.head (fenced_calm hF hroom rfl) stepR_region (.one ?_ ?_)) harr
  · rw [hr]
    exact fenced_oper (o:=o0) hF hroom rfl (λ_ _=>trivial)
  rw [hr]
  have hw:Region.wanted o0 (yielded (o0::l).toArray a.tmps)=true:=by simp [Region.wanted,hg]
  have hgr:=stepGR_op (P:=P) (b:=b) (k:=k) (cs:=cs) (w:=w) (rest:=List.range' 1 l.length) (ops:=(o0::l).toArray) (i:=0) (o:=o0) rfl hw
  rw [hro,Oper.semAt_none]at hgr
  have hfin: ∀v,(b.atR a (.inRegion (o0::l).toArray (0::List.range' 1 l.length)::k)).finish v=b.atR (a.put o0.dst v) (.inRegion (o0::l).toArray (List.range' 1 l.length)::k):=by
    intro v;rw [Frame.finish_atR];rfl
  have hk:(b.atR a (.inRegion (o0::l).toArray (0::List.range' 1 l.length)::k)).kind= .deferred:=hb
  have htr:=tryRecover_deferred hk cs
  have hrun:(execOp a.eval o0).run P w= .ok .recover w:=by
    simp only [execOp,hop,resolve,Sem.run_bind];rfl
  apply step_lone_go
  rw [hgr,<-hd,<-hfin]
  simp only [Frame.atR,hro]at htr ⊢
  rcases hrec with h1|⟨h1,rfl,rfl⟩
  · simp [stepG.apply,hrun,htr,h1]
  simp [stepG.apply,hrun,htr,h1]
theorem recD{P:Program}{f:FuncId}{fn:Func}{c2:Code}{args:List Value}{n d id:Nat}{o0:Oper}{l:List Oper}{σ:aj}{H:List Res}{Post:Value->aj->List Res->Prop}{w:World}{u u':FrameMode}{rv:Value}
    (hw:Reach w (iG H) σ σ w H) (hf:P.funcs[f]? =some fn) (hb:fn.body=some (.seq (.region id (o0::l).toArray false) c2)) (hn:fn.ntmps=n) (ha:Nat.ble args.length n=true)
    (hop:o0.op= .call {callee:= .builtin .recover,args:= #[],argTypes:= #[]}) (hg:o0.guard=none) (hd:o0.dst=some d) (hdn:Nat.blt d n=true)
    (hrec: ∀(c₀:Frame) (cs:List Frame),c₀.mode=u->(recoverD (c₀::cs)=some (rv,{c₀ with mode:=u'}::cs)\/(recoverD (c₀::cs)=none/\rv= .nilIface/\({c₀ with mode:=u'}:Frame)::cs=c₀::cs)))
    (h:TL ⟨P,w,iG H,σ,n,none,some []⟩ (o0::l).toArray (seqQ (TC ⟨P,w,iG H,σ,n,none,some []⟩ (weakQ (retQ P fn n Post)) c2) (weakQ (retQ P fn n Post))) l (upd (Ph args) d rv) σ H):
    CallsDIn (fence none) 0 P f args.toArray u w λe u1 w'=>u1=u'/\ ∃r σ' H',e= .returned r/\Post r σ' H'/\Reach w (iG H) σ σ' w' H':=by
  refine callsDIn_of_wpSIn hf hb trivial λc₀ cs hu=> ?_
  apply wpSIn_seq
  refine qt_ (cs':={c₀ with mode:=u'}::cs) hop hg hd (hrec c₀ cs hu) (h w _ ⟨hw,MarksOk.start⟩ ((s4_ hn ha).put (by simpa [Nat.blt_eq]using hdn) rv)) ?_
  have hfin: ∀(ex:Exit) (a:Act) (w':World),(ex= .normal\/ex= .ret\/True)->low ⟨P,w,iG H,σ,n,none,some []⟩ (weakQ (retQ P fn n Post)) ex a w'->bodyPostS P fn c₀ cs (λe u1 w'=>u1=u'/\ ∃r σ' H',e= .returned r/\Post r σ' H'/\Reach w (iG H) σ σ' w' H') ex a ({c₀ with mode:=u'}::cs) w':=by
    rintro ex a w' - ⟨e',σ',H',h1,h2,F,hs,⟨hex,r,H'',h3,h4,h5⟩⟩
    have hd:a.defers=[]:=h2.marks.is _ rfl
    have h6:=h2.toReach.qR hs
    rcases hex with rfl|rfl
    · exact ⟨hd,u',rfl,r,h3 w' a h1 h6.holds,rfl,r,σ',H'',rfl,h5,h6.sub h4⟩
    exact ⟨hd,u',rfl,r,h3 w' a h1 h6.holds,rfl,r,σ',H'',rfl,h5,h6.sub h4⟩
  rintro ex a' w' ⟨e',σ',H',h1,h2,h3⟩
  cases ex with
  |normal=>exact wpSIn_of_wpIn rfl (Go.wpIn_mono (h3 w' a' h2 h1) λex a w' hq=>hfin ex a w' (.inr (.inr trivial)) hq)
  |exit id=>exact hfin _ _ _ (.inr (.inr trivial)) ⟨e',σ',H',h1,h2,h3⟩
  |goto l=>exact hfin _ _ _ (.inr (.inr trivial)) ⟨e',σ',H',h1,h2,h3⟩
  |ret=>exact hfin _ _ _ (.inr (.inr trivial)) ⟨e',σ',H',h1,h2,h3⟩
  |panic ch=>exact hfin _ _ _ (.inr (.inr trivial)) ⟨e',σ',H',h1,h2,h3⟩
  |outgrown=>exact hfin _ _ _ (.inr (.inr trivial)) ⟨e',σ',H',h1,h2,h3⟩
theorem RD.rec{P:Program}{f:FuncId}{fn:Func}{c2:Code}{args:List Value}{n d id:Nat}{o0:Oper}{l:List Oper}{σ:aj}{H:List Res}{Post:Value->aj->List Res->Prop}
    (hf:P.funcs[f]? =some fn) (hb:fn.body=some (.seq (.region id (o0::l).toArray false) c2)) (hn:fn.ntmps=n) (ha:Nat.ble args.length n=true)
    (hop:o0.op= .call {callee:= .builtin .recover,args:= #[],argTypes:= #[]}) (hg:o0.guard=none) (hd:o0.dst=some d) (hdn:Nat.blt d n=true)
    (h: ∀w0,TL ⟨P,w0,iG H,σ,n,none,some []⟩ (o0::l).toArray (seqQ (TC ⟨P,w0,iG H,σ,n,none,some []⟩ (weakQ (retQ P fn n Post)) c2) (weakQ (retQ P fn n Post))) l (upd (Ph args) d .nilIface) σ H):RD P f args.toArray σ H Post:=λw hw=>
  recD hw hf hb hn ha hop hg hd hdn (λc₀ cs hu=> .inr ⟨by simp [recoverD,hu],rfl,by cases c₀;simp_all⟩) (h w)
theorem Q_.rec{P:Program}{f:FuncId}{fn:Func}{c2:Code}{args:List Value}{n d id:Nat}{o0:Oper}{l:List Oper}{σ:aj}{H:List Res}{v:Value}{Post:Value->aj->List Res->Prop}
    (hf:P.funcs[f]? =some fn) (hb:fn.body=some (.seq (.region id (o0::l).toArray false) c2)) (hn:fn.ntmps=n) (ha:Nat.ble args.length n=true)
    (hop:o0.op= .call {callee:= .builtin .recover,args:= #[],argTypes:= #[]}) (hg:o0.guard=none) (hd:o0.dst=some d) (hdn:Nat.blt d n=true)
    (h: ∀w0,TL ⟨P,w0,iG H,σ,n,none,some []⟩ (o0::l).toArray (seqQ (TC ⟨P,w0,iG H,σ,n,none,some []⟩ (weakQ (retQ P fn n Post)) c2) (weakQ (retQ P fn n Post))) l (upd (Ph args) d v) σ H):Q_ P f args.toArray v σ H Post:=λw hw=>
  recD hw hf hb hn ha hop hg hd hdn (λc₀ cs hu=> .inl (by simp [recoverD,hu])) (h w)
theorem Q_.mono{P:Program}{f:FuncId}{args:Array Value}{v:Value}{σ:aj}{H:List Res}{Post Post':Value->aj->List Res->Prop}
    (h:Q_ P f args v σ H Post) (hp: ∀r σ' H',σ.le σ'->Post r σ' H'->Post' r σ' H'):Q_ P f args v σ H Post':=λw hw=>
  (h w hw).mono λ_ _ _ ⟨h0,r,σ',H',h1,h2,h3⟩=>⟨h0,r,σ',H',h1,hp _ _ _ h3.le h2,h3⟩
def dfrX(P:Program)(fn:Func)(n:Nat)(Post:Value->aj->List Res->Prop)(f:FuncId)(args:List Value):QP:=λex e σ H=>
  dfrQ P fn n Post f args ex e σ H\/ ∃v,ex= .panic [{v:=v,recovered:=false}]/\ ∃F,Sub F H/\Q_ P f args.toArray v σ F λ_ σ' H'=>RetOk P fn n Post .ret e σ' H'
theorem xb_{P:Program}{fn:Func}{w0:World}{C:List Nat}{σ0:aj}{n:Nat}{Post:Value->aj->List Res->Prop}{f:FuncId}{cap dargs:List Value}(hp:plainF P f=true):
    ∀ex a w,low ⟨P,w0,C,σ0,n,none,some [⟨.fn (.func f) cap.toArray,dargs.toArray⟩]⟩ (dfrX P fn n Post f (dargs++cap)) ex a w->endR P fn w0 C σ0 Post ex a w:=by
  rintro ex a w ⟨e,σ,H,h1,h2,h|⟨v,rfl,F,hs,hcon⟩⟩
  · exact y6_ hp ex a w ⟨e,σ,H,h1,h2,h⟩
  have hd:a.defers=[⟨.fn (.func f) cap.toArray,dargs.toArray⟩]:=h2.marks.is _ rfl
  have h3:Reach w0 C σ0 σ w F:=h2.toReach.qR hs
  show LeavesInM (fence none) 0 P fn a.tmps (endE w0 C σ0 Post) a.defers (.panicking [{v:=v,recovered:=false}]) w
  rw [hd]
  refine ⟨by simp,.inr ⟨(λh=>by cases h),.func f,cap.toArray,f,(dargs++cap).toArray,rfl,?_,(λ_ _=>trivial),(hcon w h3.self).mono ?_⟩⟩
  · simp [invoke,U8 hp]
  rintro _ _ w' ⟨rfl,r,σ',H',rfl,⟨-,v',H'',h4,h5,h6⟩,h7⟩
  have h8:Reach w0 C σ0 σ' w' H':=by
    have:=(show Reach w0 C σ0 σ w (F++[]) by rwa [List.append_nil]).call h7
    rwa [List.append_nil]at this
  exact ⟨v',h4 w' a h1 h8.holds,v',σ',H'',rfl,h6,h8.sub h5⟩
structure Flt where
  e:Int
  deriving DecidableEq
def Flt.zero:Flt:=⟨0⟩
structure Maker where
  arcs:List (List Arc)
  ends:List (List (List UInt8))
  most:Int
  rows:List (List Tip)
  places:FM (List UInt8) Int
  q:Seq
def Maker.zero:Maker:=⟨[],[],0,[],FM.emp,Seq.zero⟩
structure RMaker where
  rows:List (List Tip)
  most:Int
  e:Int
def RMaker.zero:RMaker:=⟨[],0,0⟩
structure Numb where
  places:FM (List UInt8) Int
def Numb.zero:Numb:=⟨FM.emp⟩
theorem pk_{α:Type}{enc:α->List Value}{size:Nat}(hl: ∀x,(enc x).length=size)(d q:α)(off:Nat)(u:List Value)(ho:off+u.length<=size):
    ∀(l:List α) (i:Nat),i<l.length->oM (enc (nth l i d)) off u=enc q->oM (l.flatMap enc) (i * size+off) u=(l.set i q).flatMap enc
  |[],i,h,_=>by simp at h
  |y::l,0,_,hq=>by
    have h0:oM (enc y) off u=enc q:=hq
    have h1:off+u.length<=(enc y).length:=by rw [hl];exact ho
    rw [Nat.zero_mul,Nat.zero_add,List.set_cons_zero,List.flatMap_cons,List.flatMap_cons,<-h0]
    simp only [oM]
    rw [List.take_append_of_le_length (by omega),List.drop_append_of_le_length h1,<-qA]
  |y::l,i+1,h,hq=>by
    have h0:oM (enc (nth l i d)) off u=enc q:=hq
    have ih:=pk_ hl d q off u ho l i (by simpa using h) h0
    rw [List.set_cons_succ,List.flatMap_cons,List.flatMap_cons,<-ih]
    simp only [oM]
    have e1:(i+1) * size+off=size+(i * size+off):=by rw [Nat.add_mul,Nat.one_mul];omega
    have e2:size+(i * size+off)=(enc y).length+(i * size+off):=by rw [hl]
    have e3:(enc y).length+(i * size+off)+u.length=(enc y).length+(i * size+off+u.length):=by omega
    rw [e1,e2,e3,List.take_length_add_append,List.drop_length_add_append]
    simp only [qA]
section
variable {X:Ctx} {e:Env} {σ:aj} {F:List Res} {o:Oper} {x y:Operand} {K:Env->aj->List Res->Prop}
theorem OpOk.c1_{α:Type}{T E size i off s:Nat}{enc:α->List Value}{v u:Value}{l:List α}(d q:α)(ho:o.op= .store T x y)(hs:szOf X.P T=some s)(hd:o.dst=none)(hx:ev e x=oK v (i * size+off))(hv:ev e y=u)
    (hu:oM (enc (nth l i d)) off u.cells.toList=enc q) (hus:u.cells.size=s) (h1: ∀c∈u.cells.toList,c.oneCell'=true) (hl: ∀x,(enc x).length=size) (h0:0<s) (hof:off+s<=size) (hi:i<l.length)
    (kk:K e σ (φ E size enc v (l.set i q)::F)):OpOk X o e σ (φ E size enc v l::F) K:=by
  refine OpOk.cf_ ho hs hd hx hv hus h1 h0 ?_ ?_
  · rw [tK hl]
    have h1:(i+1) * size<=l.length * size:=Nat.mul_le_mul_right _ hi
    rw [Nat.add_mul]at h1;omega
  rw [pk_ hl d q off u.cells.toList (by rw [Array.length_toList,hus];exact hof) l i hi hu]
  simpa only [φ,fQ]using kk
end
end Go.E
end

noncomputable section
namespace Go.Proofs.YtchebnpdnfhenaaGreatDoor
open Go Go.E Go.E.OpVal Go.E.OpOk Go.Proofs.Tryz
open List (replicate)
theorem Ic:aggOf Tryz.prog 33=some false:=by kernel_rfl
theorem RH:aggOf Tryz.prog 70=some false:=by kernel_rfl
theorem Y_:aggOf Tryz.prog 71=some false:=by kernel_rfl
theorem PZ:aggOf Tryz.prog 72=some false:=by kernel_rfl
theorem by22:byOf Tryz.prog 22=some 24:=by kernel_rfl
theorem by23:byOf Tryz.prog 23=some 24:=by kernel_rfl
theorem RJ:byOf Tryz.prog 30=some 24:=by kernel_rfl
theorem zo:byOf Tryz.prog 9=some 16:=by kernel_rfl
theorem aab_:foOf Tryz.prog 142 0=some 0:=by kernel_rfl
theorem rc_:foOf Tryz.prog 74 0=some 0:=by kernel_rfl
theorem ZK:foOf Tryz.prog 74 1=some 1:=by kernel_rfl
theorem fo74_2:foOf Tryz.prog 74 2=some 2:=by kernel_rfl
theorem rr_:foOf Tryz.prog 74 3=some 3:=by kernel_rfl
theorem zt_:foOf Tryz.prog 74 4=some 4:=by kernel_rfl
theorem MZ:foOf Tryz.prog 74 5=some 5:=by kernel_rfl
theorem pf102:plainF Tryz.prog 102=true:=by kernel_rfl
theorem SI:plainF Tryz.prog 127=true:=by kernel_rfl
theorem ZG:plainF Tryz.prog 128=true:=by kernel_rfl
theorem pf129:plainF Tryz.prog 129=true:=by kernel_rfl
theorem SH:plainF Tryz.prog 130=true:=by kernel_rfl
theorem pf131:plainF Tryz.prog 131=true:=by kernel_rfl
theorem vn_:plainF Tryz.prog 150=true:=by kernel_rfl
theorem ZH:plainF Tryz.prog 151=true:=by kernel_rfl
theorem pf155:plainF Tryz.prog 155=true:=by kernel_rfl
theorem pf44:plainF Tryz.prog 44=true:=by kernel_rfl
theorem pf45:plainF Tryz.prog 45=true:=by kernel_rfl
theorem pf86:plainF Tryz.prog 86=true:=by kernel_rfl
theorem Oo:plainF Tryz.prog 87=true:=by kernel_rfl
theorem Om:plainF Tryz.prog 89=true:=by kernel_rfl
theorem pf90:plainF Tryz.prog 90=true:=by kernel_rfl
theorem ym_:plOf Tryz.prog 142=some #[(0,1)]:=by kernel_rfl
theorem wH:plOf Tryz.prog 32=some #[(0,1),(1,1),(2,1),(3,1),(4,1)]:=by kernel_rfl
theorem pl74:plOf Tryz.prog 74=some #[(0,1),(1,1),(2,1),(3,1),(4,1),(5,5)]:=by kernel_rfl
theorem RX:szOf Tryz.prog 142=some 1:=by kernel_rfl
theorem RN:szOf Tryz.prog 28=some 1:=by kernel_rfl
theorem VU:szOf Tryz.prog 33=some 1:=by kernel_rfl
theorem VT:szOf Tryz.prog 71=some 1:=by kernel_rfl
theorem sz72:szOf Tryz.prog 72=some 1:=by kernel_rfl
theorem VN:zeroOf Tryz.prog 142=some (.agg #[.int .i64 0]):=by kernel_rfl
theorem ze22:zeroOf Tryz.prog 22=some (bM):=by kernel_rfl
theorem ze23:zeroOf Tryz.prog 23=some (bM):=by kernel_rfl
theorem Hg:zeroOf Tryz.prog 30=some (bM):=by kernel_rfl
theorem nD:zeroOf Tryz.prog 32=some (.agg #[.string ByteArray.empty,bM,bM,bM,bM]):=by kernel_rfl
theorem ze33:zeroOf Tryz.prog 33=some (.int .i64 0):=by kernel_rfl
theorem ze74:zeroOf Tryz.prog 74=some (.agg #[bM,bM,.int .i64 0,bM,.map none,.string ByteArray.empty,bM,bM,bM,bM]):=by kernel_rfl
theorem sG:zeroOf Tryz.prog 9=some (.string ByteArray.empty):=by kernel_rfl
def Ql(x0:aB)(Dz:T_1)(jW:Nat):Option ((T_1×Nat)⊕(T_1)):=
 aQ (decide ((jW:Int)<(((x0.drop 1).length:Nat):Int))) (bnd (E8_ Dz (nth (x0.drop 1) jW [])) (λv21=>grd (0<=v21/\0<=v21.toNat/\v21.toNat<=Dz.length) (nxt ((Dz.take v21.toNat),(jW+1))))) (fin (some Dz))
def Zt(x0:aB):Option (T_1):=
 aQ (decide (((x0.length:Nat):Int)=0)) (some ([]:T_1)) (grd (0<x0.length) (grd (1<=x0.length/\x0.length<=x0.length) (bC (λq:T_1×Nat=>Ql x0 q.1 q.2) ((nth x0 0 []),0))))
theorem G4_{σ:aj}{x0:aB}(au:dH σ aI aN aK x0){r:T_1}(hh:Zt x0=some r):
  Con prog 127 #[.slice aN x0.length aK] σ [] (kZ (.string (bs r)) σ):=by
 dsimp only [Zt]at hh
 have f0_0b:=au.rv.big
 refine Con.mk (n:=26) Tryz.func127 z z z (λw0=> ?_)
 refine ξ (ω z (dX (.inr z) z) (ε (θ (ξ (Ξ z z (ω z (lenC z fF z) (ω z (OpVal.eql z z z) (ε (TC.cD z hh (λgI hh=> ?_) (λgI hh=> ?_))))))))))
 ·refine ξ (ω z (dX (.inr z) z) (ε (TC.ret (S.r ?_))))
  obtain rfl:=so hh
  exact rq [2] ⟨z,z,z⟩
 refine ι (S.n (ξ (Ξ z z ?_)))
 obtain ⟨u7,hh⟩:=aP hh
 refine ω z (bT (i:=0) z fF fK z z au.rv.sl (by omega)) (ω z (fD ([]:T_1) z iK z au (by omega) z) (ω z (dX (.inr z) z) (ε (θ (ξ (Ξ z z ?_))))))
 obtain ⟨u11,hh⟩:=aP hh
 obtain ⟨a102,xY,J4,hv102⟩:=au.subL 1 (by omega)
 have hr102b:=J4.rv.big
 refine ω z (hv102 z fF fK z z) (ω z (lenC z fF z) (ψ z z (ε (υ (TC.iE (α:=(T_1×Nat)×(Unit)) (rgs [(3,1),(5,1),(15,10)]) (λg=>[(3,.string (bs g.1.1)),(15,.int .i64 ((g.1.2:Nat):Int))]) (λg=>[]) (λg=>σ) (λg=>bC (λq:T_1×Nat=>Ql x0 q.1 q.2) g.1=some r) (λg=>fZ (λq:T_1×Nat=>Ql x0 q.1 q.2) g.1) (((nth x0 0 []),0),()) (Sub.pre 0 z) z (by repeat (first|exact trivial|refine ⟨z,?_⟩)) hh (λg1 j1 hg1=> ?_))))))
 obtain ⟨⟨Dz,jW⟩,_⟩:=g1
 have hh:=hg1;clear hg1
 try dsimp only
 obtain ⟨z1,hh,hR1⟩:=iq hh
 dsimp only [Ql]at hh
 refine ξ (ω z (OpVal.lss z z z) (ε (θ (TC.cD z hh (λlY hh=> ?_) (λlY hh=> ?_)))))
 ·refine ι (S.n (θ (υ (ξ (ω z (bT z fF fK z z J4.rv.sl (by omega)) (ω z (fD ([]:T_1) z iK z J4 (by omega) z) (ω z (dX (.inr z) z) (ε (η (ω z (dX (.inl z) z) (ω z (dX (.inl z) z) (ω z (dX (.inl z) z) ?_))))))))))))
  obtain ⟨v21,u21,hh⟩:=dJ hh
  refine ν z (kD (Ho_ u21) z z pf155 z z z ?_)
  obtain ⟨u22,hh⟩:=aP hh
  refine ω rfl (bn_ (l:=Dz) (j:=v21.toNat) rfl kG rfl (by show Value.int _ _=_;rw [Int.toNat_of_nonneg (by omega)]) (by omega) (by omega)) (ω z (dX (.inr z) z) (TL.nil (B.n (S.n (η (ω z (OpVal.succ z z z (by omega)) (ψ z z (ε ?_))))))))
  obtain ⟨hh,Ed⟩:=dL hR1 hh
  exact lf (((Dz.take v21.toNat),(jW+1)),()) Ed hh (Sub.pre 0 z)
 refine TC.exit (S.x (S.x ?_))
 replace hh:=dI hR1 hh
 refine Δ (S.n (ξ (ω z (dX (.inl z) z) (ω z (dX (.inr z) z) (ε (TC.ret ?_))))))
 obtain rfl:=so hh
 exact rq [2] ⟨z,z,z⟩
def Vg(x0:T_1):Option (Int⊕(Unit)):=
 grd (x0.length<=281474976710656) (aQ (decide (4096<((x0.length:Nat):Int))) (some (.inl 2)) (some (.inr ())))
theorem Dl_{σ:aj}{x0:T_1}{r:Int⊕(Unit)}(hh:Vg x0=some r):
  tX prog 128 #[.string (bs x0)] σ [] 142 (λr:Unit=>(kZ (.tuple #[]) σ)) r:=by
 dsimp only [Vg]at hh
 refine tX.mk (n:=7) Tryz.func128 z z z (λw0=> ?_)
 have x0b:=Hl hh
 replace hh:=Hw hh
 refine ξ (ω z (dX (.inl z) z) (ω z (rQ z kG z) (ω z (OpVal.gtr z z z) (ε (TC.cD z hh (λgI hh=> ?_) (λgI hh=> ?_))))))
 ·refine η (ω z (ny z ym_ VN z) (ω z (bu_ (v:= .agg #[.int .i64 2]) z underlying142 z) (TL.panic z z z ?_)))
  obtain rfl:=so hh
  exact z
 refine ι ?_
 obtain rfl:=so hh
 exact RetOk.mk' (rs:=[]) [] z (.inr z) RVs.nil (List.sublist_append_left _ _) ⟨z,z,z⟩
def Dz_(lQ:Nat)(vk:aB)(v6:(List Tip)):Option ((aB×Nat)⊕(Int⊕(T_1×(List Tip)))):=
 grd (lQ<vk.length) (nxt ((vk.set lQ ((nth v6 lQ aG).out)),(lQ+1)))
def Nw(v6:(List Tip))(v47:T_1)(dA:List Tip)(bU:Nat):Option (((List Tip)×Nat)⊕(Int⊕(T_1×(List Tip)))):=
 aQ (decide ((bU:Int)<((v6.length:Nat):Int))) (grd (bU<dA.length) (grd (v47.length<=((nth dA bU aG).out).length/\((nth dA bU aG).out).length<=((nth dA bU aG).out).length) (grd (bU<dA.length) (grd (bU<(dA.set bU (⟨(nth dA bU aG).state,(((nth dA bU aG).out).drop v47.length)⟩:Tip)).length) (bnd (Vg ((nth (dA.set bU (⟨(nth dA bU aG).state,(((nth dA bU aG).out).drop v47.length)⟩:Tip)) bU aG).out)) (λv75=>rV v75 (λv75k=>fin (some (.inl v75k))) (λv75r=>nxt ((dA.set bU (⟨(nth dA bU aG).state,(((nth dA bU aG).out).drop v47.length)⟩:Tip)),(bU+1))))))))) (fin (some (.inr (v47,dA))))
def Iy(v6:(List Tip))(vk:aB)(lQ:Nat):Option ((aB×Nat)⊕(Int⊕(T_1×(List Tip)))):=
 aQ (decide ((lQ:Int)<((v6.length:Nat):Int))) (aQ (decide (0<(lQ:Int))) (grd (0<=(IntKind.i64.wrap ((lQ:Int) - 1))/\(IntKind.i64.wrap ((lQ:Int) - 1))<(v6.length:Int)) (aQ (decide (((nth v6 ((IntKind.i64.wrap ((lQ:Int) - 1)).toNat) aG).state)=((nth v6 lQ aG).state))) (fin (some (.inl 12))) (Dz_ lQ vk v6))) (Dz_ lQ vk v6)) (fin (bnd (Zt vk) (λv47=>bnd (Vg v47) (λv50=>rV v50 (λv50k=>some (.inl v50k)) (λv50r=>bC (λq:(List Tip)×Nat=>Nw v6 v47 q.1 q.2) (v6,0))))))
def E2_(x0:List Tip):Option (Int⊕(T_1×(List Tip))):=
 bnd (ZT (rY nG x0)) (λv6=>grd (16 * v6.length<=281474976710656) (bC (λq:aB×Nat=>Iy v6 q.1 q.2) ((replicate v6.length ([]:T_1)),0)))
theorem Ey_{σ:aj}{x0:List Tip}{r:Int⊕(T_1×(List Tip))}(hh:E2_ x0=some r):
  tX prog 87 #[.slice aA x0.length ay] σ [φ 76 2 dD (.slice aA x0.length ay) x0] 142 (λr:T_1×(List Tip)=>(λv σ' H'=> ∃a1 c1,v= .tuple #[.string (bs r.1),.slice a1 r.2.length c1]/\RS σ' 2 dD (.slice a1 r.2.length c1) r.2/\H'=[])) r:=by
 dsimp only [E2_]at hh
 refine tX.mk (n:=74) Tryz.func87 z z z (λw0=> ?_)
 refine ξ (ω z (dX (.inr z) z) (Ξ z z (ε (ξ (Ξ z z ?_)))))
 have hn102:(rY nG x0).length=x0.length:=List.length_mergeSort _
 refine ν z (OpOk.call (Il_ (l:=x0)) z z SL z z z z ?_)
 rintro _ _ _ _ ⟨rfl,hz_,rfl⟩
 rw [<-hz_]
 refine ε (ξ (Ξ z z ?_))
 rw [<-hn102]
 obtain ⟨v6,u6,hh⟩:=dJ hh
 refine ν z (OpOk.call (G7_ u6) z z SK z z z z ?_)
 rintro _ _ _ hle103 ⟨a103_1,c103_2,rfl,rfl,rfl⟩
 refine Ξ z z (ε (ξ (Ξ z z (ω z (lenC z kS z) ?_))))
 obtain ⟨u10,hh⟩:=aP hh
 refine ν z (oW (enc:=aI) ([]:T_1) z fF fK zo sG z z z z (by omega) (by decide) bF (by decide) z qX (λa105 c106=> ?_))
 refine Ξ z z (ε (θ (ξ (Ξ z z (ω z (lenC z kS z) (ψ z z (ε (υ (TC.iE (α:=(aB×Nat)×(Unit)) (rgs [(5,2),(18,26)]) (λg=>[(18,.int .i64 ((g.1.2:Nat):Int))]) (λg=>[φ 76 2 dD (.slice a103_1 v6.length c103_2) v6,φ 9 1 aI (.slice a105 (replicate v6.length ([]:T_1)).length c106) g.1.1]) (λg=>σ) (λg=>bC (λq:aB×Nat=>Iy v6 q.1 q.2) g.1=some r/\g.1.1.length=(replicate v6.length ([]:T_1)).length) (λg=>fZ (λq:aB×Nat=>Iy v6 q.1 q.2) g.1) (((replicate v6.length ([]:T_1)),0),()) (Θ [1] 2) z (by repeat (first|exact trivial|refine ⟨z,?_⟩)) ⟨hh,z⟩ (λg1 j1 hg1=> ?_))))))))))
 obtain ⟨⟨vk,lQ⟩,_⟩:=g1
 obtain ⟨hh,Gt⟩:=hg1
 try dsimp only at Gt ⊢
 obtain ⟨z1,hh,hR1⟩:=iq hh
 dsimp only [Iy]at hh
 refine χ (i:=0) z (λ_ hb117 _=> ?_)
 refine χ (i:=1) z (λ_ hb118 _=> ?_)
 refine ξ (ω z (OpVal.lss z z z) (ε (θ (TC.cD z hh (λh119 hh=> ?_) (λh119 hh=> ?_)))))
 ·refine ι (S.n (θ (υ (ξ (ψ z z (TL.isSl (i:=0) z (λhs120 _ _=> ?_)))))))
  refine ω z (bT z kS jQ z z hs120 (by omega)) (ω z (LW aG z DC jQ z (q:=0) z gQ (by omega) (by omega)) (ν z (OpOk.alloc z vC z z (λb121=> ?_))))
  refine ψ z z (ν z (storeAll z jQ z z z z z z ?_))
  refine ε (TC.cutG (α:=(Unit)×(Unit)) (rgs [(23,15)]) (λg=>[]) (λg=>[φ 76 2 dD (.slice a103_1 v6.length c103_2) v6,φ 9 1 aI (.slice a105 (replicate v6.length ([]:T_1)).length c106) vk,κ b121 #[.int .i64 ((nth v6 lQ aG).state),.string (bs ((nth v6 lQ aG).out))] 76]) (λg=>σ) (λg=>Dz_ lQ vk v6=some z1/\vk.length=(replicate v6.length ([]:T_1)).length) ?_ (λg j hg=> ?_))
  ·skip
   refine θ (TC.draw [] (by kernel_rfl) (TA.a 0 z (cO (.inl z) z) z (TA.a 1 z (OpVal.gtr z z z) z (TA.a 2 z (moveB (.inl z) z) z (TA.split 25 z (λrM=> ?_) (λrM=> ?_))))))
   ·replace hh:=ig rM hh
    replace rM:=jk rM
    refine TA.on 3 z z z z (gK (.inl z) z) z (TA.on 4 z z z z (cO (.inl z) z) z (TA.on 5 z z z z (subW z z z) z ?_))
    obtain ⟨u28,hh⟩:=aP hh
    refine TA.isSl (i:=1) z (λhs125 _ _=> ?_)
    refine TA.on 6 z z z z (OpVal.index z kS jQ z z hs125 u28.1 u28.2) z (TA.isSl (i:=1) z (λhs126 _ _=> ?_))
    refine TA.on 7 z z z z (bk_ z EN z hs126 (by omega)) z (TA.on 8 z z z z (cl_ aG z fC z (q:=1) z gQ (by omega) (by omega) z) z (TA.on 9 z z z z (aU z EN z) z (TA.on 10 z z z z (bg z fC z (i:=0) z z) z (TA.on 11 z z z z (OpVal.eql z z z) z (TA.a 12 z (dQ z z z) z (TA.dn (S.n (TC.cD z hh (λh127 hh=> ?_) (λh127 hh=> ?_)))))))))
    ·refine η (ω z (ny z ym_ VN z) (ω z (bu_ (v:= .agg #[.int .i64 12]) z underlying142 z) (TL.panic z z z ?_)))
     replace hh:=dI hR1 hh
     obtain rfl:=so hh
     exact z
    exact ι (S.n (cf ((),()) ⟨hh,Gt⟩ (Θ [2,2] 3)))
   replace hh:=iw rM hh
   replace rM:=jy rM
   exact TA.off 3 z z z z z z (TA.off 4 z z z z z z (TA.off 5 z z z z z z (TA.off 6 z z z z z z (TA.off 7 z z z z z z (TA.off 8 z z z z z z (TA.off 9 z z z z z z (TA.off 10 z z z z z z (TA.off 11 z z z z z z (TA.a 12 z (dU z z z) z (TA.dn (S.n (TC.f z (ι (S.n (cf ((),()) ⟨hh,Gt⟩ (Θ [2,2] 3))))))))))))))))
  skip
  obtain ⟨_,_⟩:=g
  obtain ⟨hh,fV⟩:=hg
  try dsimp only at fV ⊢
  dsimp only [Dz_]at hh
  refine χ (i:=0) z (λ_ Dc _=> ?_)
  refine χ (i:=1) z (λ_ hb129 _=> ?_)
  refine η (Ξ z z (ψ z z (ω z (aU z Az z) (ω z (bg z iK z (i:=2) z z) ?_))))
  obtain ⟨u42,hh⟩:=aP hh
  refine TL.isSl (i:=1) z (λwP _ _=> ?_)
  refine ω z (bT z fF fK z z wP (by omega)) (ζ 1 z z ?_)
  have BU:(vk.set lQ ((nth v6 lQ aG).out)).length=(replicate v6.length ([]:T_1)).length:=by rw [fQ];exact fV
  refine ν z (lF ((nth v6 lQ aG).out) z fK z z z z bF qX (by omega) (by omega) ?_)
  refine TL.nil (B.n (S.n (η (ω z (OpVal.succ z z z (by omega)) (ψ z z (ε ?_))))))
  obtain ⟨hh,Ea⟩:=dL hR1 hh
  exact lf (((vk.set lQ ((nth v6 lQ aG).out)),(lQ+1)),()) Ea ⟨hh,BU⟩ (Θ [1] 2)
 refine TC.exit (S.x (S.x ?_))
 replace hh:=dI hR1 hh
 refine Δ (S.n (ξ (Ξ z z ?_)))
 rw [<-Gt]
 obtain ⟨v47,MQ,hh⟩:=dJ hh
 refine ζ 1 z z (ν z (U_ (Con.lend bF (λ_ rH hr133=>G4_ hr133 MQ)) z z SI z z z z ?_))
 refine ω z (dX (.inr z) z) (ε (ξ (ω z (dX (.inl z) z) ?_)))
 obtain ⟨v50,N7,hh⟩:=dJ hh
 rcases v50 with v50k|v50r
 ·dsimp only [rV]at hh
  refine TL.PV z (tX.l (Dl_ N7)) z z ZG z z (λτ135 hle135=> ?_)
  obtain rfl:=so hh
  exact z
 dsimp only [rV]at hh
 refine ν z (cv_ (Dl_ N7) z z z ZG z z z ?_)
 refine ε (θ (ξ (Ξ z z (ω z (lenC z kS z) (ψ z z (ε (υ (TC.iE (α:=((List Tip)×Nat)×(Unit)) (rgs [(8,1),(50,22)]) (λg=>[(50,.int .i64 ((g.1.2:Nat):Int))]) (λg=>[φ 76 2 dD (.slice a103_1 v6.length c103_2) g.1.1]) (λg=>σ) (λg=>bC (λq:(List Tip)×Nat=>Nw v6 v47 q.1 q.2) g.1=some r/\g.1.1.length=v6.length) (λg=>fZ (λq:(List Tip)×Nat=>Nw v6 v47 q.1 q.2) g.1) ((v6,0),()) (Θ [1] 1) z (by repeat (first|exact trivial|refine ⟨z,?_⟩)) ⟨hh,z⟩ (λg2 j2 hg2=> ?_)))))))))
 obtain ⟨⟨dA,bU⟩,_⟩:=g2
 obtain ⟨hh,mO⟩:=hg2
 try dsimp only at mO ⊢
 obtain ⟨z1,hh,hR1⟩:=iq hh
 dsimp only [Nw]at hh
 refine χ (i:=0) z (λ_ C_ _=> ?_)
 refine ξ (ω z (OpVal.lss z z z) (ε (θ (TC.cD z hh (λEF hh=> ?_) (λEF hh=> ?_)))))
 ·refine ι (S.n (θ (υ (ξ (ψ z z (ψ z z (ε (ξ (Ξ z z (ψ z z (Ξ z z (ψ z z ?_))))))))))))
  obtain ⟨u61,hh⟩:=aP hh
  refine TL.isSl (i:=0) z (λhs147 _ _=> ?_)
  refine ω z (bT z kS jQ z z hs147 (by omega)) (TL.isSl (i:=0) z (λJO _ _=> ?_))
  refine ω z (bk_ z Az z JO (by omega)) (ω z (cl_ aG z iK z (q:=0) z gQ (by omega) (by omega) z) (ω z (dX (.inl z) z) (ω z (rQ z kG z) ?_)))
  obtain ⟨u66,hh⟩:=aP hh
  refine ω z (bh_ (l:=(nth dA bU aG).out) (i:=v47.length) z kG z z (by omega) (by omega)) ?_
  obtain ⟨u67,hh⟩:=aP hh
  refine TL.isSl (i:=0) z (λwO _ _=> ?_)
  refine ω z (bT z kS jQ z z wO (by omega)) (TL.isSl (i:=0) z (λhs150 _ _=> ?_))
  refine ω z (bk_ z Az z hs150 (by omega)) ?_
  have Gm:(dA.set bU (⟨(nth dA bU aG).state,(((nth dA bU aG).out).drop v47.length)⟩:Tip)).length=v6.length:=by rw [fQ];exact mO
  refine ν rfl (c1_ (u:= .string (bs (((nth dA bU aG).out).drop v47.length))) aG (⟨(nth dA bU aG).state,(((nth dA bU aG).out).drop v47.length)⟩:Tip) rfl fK rfl rfl rfl rfl rfl (λc hc=>by rw [List.mem_singleton.1 (show c∈[_]from hc)];rfl) gQ (by decide) (by decide) (by omega) ?_)
  refine ε (η (Ξ z z (ψ z z ?_)))
  obtain ⟨u72,hh⟩:=aP hh
  refine TL.isSl (i:=0) z (λhs152 _ _=> ?_)
  refine ω z (bT z kS jQ z z hs152 (by omega)) (TL.isSl (i:=0) z (λhs153 _ _=> ?_))
  refine ω z (bk_ z Az z hs153 (by omega)) (ω z (cl_ aG z iK z (q:=0) z gQ (by omega) (by omega) z) ?_)
  obtain ⟨v75,u75,hh⟩:=dJ hh
  rcases v75 with v75k|v75r
  ·dsimp only [rV]at hh
   refine TL.PV z (tX.l (Dl_ u75)) z z ZG z z (λτ154 hle154=> ?_)
   replace hh:=dI hR1 hh
   obtain rfl:=so hh
   exact z
  dsimp only [rV]at hh
  refine ν z (cv_ (Dl_ u75) z z z ZG z z z ?_)
  refine TL.nil (B.n (S.n (η (ω z (OpVal.succ z z z (by omega)) (ψ z z (ε ?_))))))
  obtain ⟨hh,D5⟩:=dL hR1 hh
  exact lf (((dA.set bU (⟨(nth dA bU aG).state,(((nth dA bU aG).out).drop v47.length)⟩:Tip)),(bU+1)),()) D5 ⟨hh,Gm⟩ (Sub.pre 1 z)
 refine TC.exit (S.x (S.x ?_))
 replace hh:=dI hR1 hh
 refine Δ (S.n (ξ (ω z (dX (.inl z) z) (Ξ z z (ω z (dX (.inr z) z) (Ξ z z (ε ?_)))))))
 rw [<-mO]
 refine TC.og gQ (λτ158 hle157 Ug=> ?_)
 have hr156b:=Ug.rv.big
 refine TC.ret ?_
 obtain rfl:=so hh
 exact rq [2,3] ⟨a103_1,c103_2,z,Ug,z⟩
def Qv(x0:List Tip)(lC:T_1)(wK:Nat):Option ((T_1×Nat)⊕(T_1)):=
 aQ (decide ((wK:Int)<((x0.length:Nat):Int))) (grd (-9223372036854775808<=((nth x0 wK aG).state)/\((nth x0 wK aG).state)<=9223372036854775807) (bnd (zh (⟨lC⟩:SB) (Lib.itoa ((nth x0 wK aG).state))) (λv14=>bnd (GL (⟨v14.2.2.buf⟩:SB) (58:UInt8)) (λv15=>grd (-9223372036854775808<=((((nth x0 wK aG).out).length:Nat):Int)/\((((nth x0 wK aG).out).length:Nat):Int)<=9223372036854775807) (bnd (zh (⟨v15.2.buf⟩:SB) (Lib.itoa ((((nth x0 wK aG).out).length:Nat):Int))) (λv20=>bnd (GL (⟨v20.2.2.buf⟩:SB) (58:UInt8)) (λv21=>bnd (zh (⟨v21.2.buf⟩:SB) ((nth x0 wK aG).out)) (λv24=>nxt (v24.2.2.buf,(wK+1)))))))))) (fin (bnd (WE (⟨lC⟩:SB)) (λv27=>some v27)))
def Gf_(x0:List Tip):Option (T_1):=
 bC (λq:T_1×Nat=>Qv x0 q.1 q.2) (([]:T_1),0)
theorem H9_{σ:aj}{x0:List Tip}(hgl:Dx σ 1 2)(au:RS σ 2 dD (.slice aN x0.length aK) x0){r:T_1}(hh:Gf_ x0=some r):
  Con prog 129 #[.slice aN x0.length aK] σ [] (kZ (.string (bs r)) σ):=by
 dsimp only [Gf_]at hh
 have f0_0b:=au.rv.big
 refine Con.mk (n:=28) Tryz.func129 z z z (λw0=> ?_)
 refine ξ (ω z (dX (.inr z) z) (ε (ξ (ν z (OpOk.alloc z Vy z z (λbG=> ?_))))))
 refine TL.asH (H':=[κ bG #[tV false bG,bM] 92]) z (ε (θ (ξ (Ξ z z (ω z (lenC z kS z) (ψ z z (ε (υ (TC.nilS 5 1 ku (TC.iE (α:=(T_1×Nat)×(Bool×(Option Addr)×Nat)) (rgs [(5,1),(8,19)]) (λg=>[(8,.int .i64 ((g.1.2:Nat):Int))]) (λg=>[κ bG #[tV g.2.1 bG,.slice g.2.2.1 g.1.1.length g.2.2.2] 92,φ 5 1 ku (.slice g.2.2.1 g.1.1.length g.2.2.2) g.1.1]) (λg=>σ) (λg=>bC (λq:T_1×Nat=>Qv x0 q.1 q.2) g.1=some r) (λg=>fZ (λq:T_1×Nat=>Qv x0 q.1 q.2) g.1) ((([]:T_1),0),(false,none,0)) (Θ [1] 2) z (by repeat (first|exact trivial|refine ⟨z,?_⟩)) hh (λg1 j1 hg1=> ?_)))))))))))
 obtain ⟨⟨lC,wK⟩,⟨u115,qG,c119⟩⟩:=g1
 have hh:=hg1;clear hg1
 try dsimp only
 obtain ⟨z1,hh,hR1⟩:=iq hh
 dsimp only [Qv]at hh
 refine χ (i:=1) z (λ_ hb122 _=> ?_)
 refine ξ (ω z (OpVal.lss z z z) (ε (θ (TC.cD z hh (λAc hh=> ?_) (λAc hh=> ?_)))))
 ·refine ι (S.n (θ (υ (ξ (ω z (bT z kS jQ z z au.rv.sl (by omega)) (ω z (Ie aG z DC jQ z au (by omega) (by omega)) (ν z (OpOk.alloc z vC z z (λb124=> ?_)))))))))
  refine ν z (storeAll z jQ z z z z z z ?_)
  refine ε (ξ (ω z (aU z EN z) (ω z (bg z fC z (i:=0) z z) ?_)))
  obtain ⟨u13,hh⟩:=aP hh
  refine ν z (kD (mx_ hgl u13) z z vn_ z z z ?_)
  refine ζ 2 z z (ζ 2 z z ?_)
  obtain ⟨v14,u14,hh⟩:=dJ hh
  refine ν z (OpOk.call (Pq u14) z z NT z z z z ?_)
  rintro _ _ _ Ym ⟨u126_1,a126_2,c126_3,rfl,rfl,rfl⟩
  refine ε (ξ (ζ 1 z z (ζ 1 z z ?_)))
  obtain ⟨v15,u15,hh⟩:=dJ hh
  refine ν z (OpOk.call (ZY u15) z z ZH z z z z ?_)
  rintro _ _ _ kT ⟨u128_1,a128_2,c128_3,rfl,rfl,rfl⟩
  refine ε (ξ (ω z (aU z Az z) (ω z (bg z iK z (i:=2) z z) (ω z (rQ z kG z) ?_))))
  obtain ⟨yh,hh⟩:=aP hh
  refine ν z (kD (mx_ hgl yh) z z vn_ z z z ?_)
  refine ζ 1 z z (ζ 1 z z ?_)
  obtain ⟨v20,u20,hh⟩:=dJ hh
  refine ν z (OpOk.call (Pq u20) z z NT z z z z ?_)
  rintro _ _ _ pV ⟨u130_1,a130_2,c130_3,rfl,rfl,rfl⟩
  refine ε (ξ (ζ 1 z z (ζ 1 z z ?_)))
  obtain ⟨v21,u21,hh⟩:=dJ hh
  refine ν z (OpOk.call (ZY u21) z z ZH z z z z ?_)
  rintro _ _ _ xK ⟨u132_1,a132_2,c132_3,rfl,rfl,rfl⟩
  refine ε (η (ω z (aU z Az z) (ω z (bg z iK z (i:=2) z z) (ζ 1 z z (ζ 1 z z ?_)))))
  obtain ⟨v24,u24,hh⟩:=dJ hh
  refine ν z (OpOk.call (Pq u24) z z NT z z z z ?_)
  rintro _ _ _ rH ⟨u134_1,a134_2,c134_3,rfl,rfl,rfl⟩
  refine TL.nil (B.n (S.n (η (ω z (OpVal.succ z z z (by omega)) (ψ z z (ε ?_))))))
  obtain ⟨hh,xg⟩:=dL hR1 hh
  exact lf ((v24.2.2.buf,(wK+1)),(u134_1,a134_2,c134_3)) xg hh (Θ [1,1] 2)
 refine TC.exit (S.x (S.x ?_))
 replace hh:=dI hR1 hh
 refine Δ (S.n (ξ (ζ 1 z z (ζ 1 z z ?_))))
 obtain ⟨v27,u27,hh⟩:=dJ hh
 refine ν z (OpOk.call (j2_ u27) z z V8 z z z z ?_)
 rintro _ _ _ hle137 ⟨rfl,rfl,rfl⟩
 refine ω z (dX (.inr z) z) (ε (TC.ret ?_))
 obtain rfl:=so hh
 exact rq [2] ⟨z,z,z⟩
def Iz(x0:Maker)(x1:List Tip):Option (Int⊕(Int×Maker)):=
 bnd (Gf_ x1) (λv3=>aQ (x0.places.has v3) (some (.inr ((x0.places.get v3 0),x0))) (aQ (decide (x0.most<=((x0.rows.length:Nat):Int))) (some (.inl 2)) (grd ((x0.rows.length+[x1].length) * 24<=140737488355328) (some (.inr (((x0.rows.length:Nat):Int),(⟨x0.arcs,x0.ends,x0.most,(x0.rows++[x1]),(x0.places.put v3 ((x0.rows.length:Nat):Int)),x0.q⟩:Maker)))))))
theorem Di_{σ:aj}{x0:Maker}{iH:List (List Tip×(aC 2 dD gQ).P)}{z0_14:List (ak×(aC 1 aF bn).P)}{z0_18:List (aB×(aC 1 aI bF).P)}{x1:List Tip}(hgl:Dx σ 1 2)(aO:RZ σ (aC 8 kC vV) (.slice aA x0.arcs.length ay) x0.arcs)(eP:RZ σ (aC 1 aI bF) (.slice jr x0.ends.length jm) x0.ends)(zf0_10:ZOk σ (aC 2 dD gQ) iH x0.rows)(zf0_15:ZOk σ (aC 1 aF bn) z0_14 x0.q.next)(zf0_19:ZOk σ (aC 1 aI bF) z0_18 x0.q.outs)(dN:RS σ 2 dD (.slice jd x1.length jc) x1){r:Int⊕(Int×Maker)}(hh:Iz x0 x1=some r):
  tX prog 89 #[loc b_ 0,.slice jd x1.length jc] σ [κ b_ #[.slice aA x0.arcs.length ay,.slice jr x0.ends.length jm,.int .i64 x0.most,.slice iF x0.rows.length iD,.map (some b0_11),.string (bs x0.q.front),.slice a0_12 x0.q.next.length c0_13,.slice a0_16 x0.q.outs.length c0_17,.slice a0_20 x0.q.fin.length c0_21,.slice a0_22 x0.q.tail.length c0_23] pq,φ 22 1 (aC 2 dD gQ).en (.slice iF x0.rows.length iD) iH,Res.mapB l7 nR (some b0_11) x0.places,φ 86 1 (aC 1 aF bn).en (.slice a0_12 x0.q.next.length c0_13) z0_14,φ 30 1 (aC 1 aI bF).en (.slice a0_16 x0.q.outs.length c0_17) z0_18,dR 4 eq_ a0_20 c0_21 x0.q.fin,dR 9 aI a0_22 c0_23 x0.q.tail] 142 (λr:Int×Maker=>(λv σ' H'=> ∃Dp Dh, ∃(zo3:List (List Tip×(aC 2 dD gQ).P)), ∃bo5,v= .int .i64 r.1/\ZOk σ' (aC 2 dD gQ) zo3 r.2.rows/\H'=[κ b_ #[.slice aA x0.arcs.length ay,.slice jr x0.ends.length jm,.int .i64 x0.most,.slice Dp r.2.rows.length Dh,.map (some bo5),.string (bs x0.q.front),.slice a0_12 x0.q.next.length c0_13,.slice a0_16 x0.q.outs.length c0_17,.slice a0_20 x0.q.fin.length c0_21,.slice a0_22 x0.q.tail.length c0_23] pq,φ 22 1 (aC 2 dD gQ).en (.slice Dp r.2.rows.length Dh) zo3,Res.mapB l7 nR (some bo5) r.2.places,φ 86 1 (aC 1 aF bn).en (.slice a0_12 x0.q.next.length c0_13) z0_14,φ 30 1 (aC 1 aI bF).en (.slice a0_16 x0.q.outs.length c0_17) z0_18,dR 4 eq_ a0_20 c0_21 x0.q.fin,dR 9 aI a0_22 c0_23 x0.q.tail])) r:=by
 dsimp only [Iz]at hh
 have f0_3b:=aO.big
 have f0_6b:=eP.big
 have zf0_10b:=zf0_10.length
 have zf0_15b:=zf0_15.length
 have zf0_19b:=zf0_19.length
 have f1_0b:=dN.rv.big
 refine tX.mk (n:=52) Tryz.func89 z z z (λw0=> ?_)
 refine ξ (ψ z z (ε (ξ (Ξ z z ?_))))
 obtain ⟨v3,u3,hh⟩:=dJ hh
 refine ν z (kD (H9_ hgl dN u3) z z pf129 z z z ?_)
 refine ω z (dX (.inr z) z) (ε (θ (ξ (TL.l z z (ω z (nH z z) (ω z (aU z zt_ z) (ω z (bg z RH z (i:=0) z z) (ω z (dX (.inl z) z) (ω z (OpVal.of (lookB 0 (q:=v3) z underlying70 lq z (i:=2) z z (mw_ kG)) (v':= .tuple #[.int .i64 (x0.places.get v3 0),.bool (x0.places.has v3)]) z) (ω z (vS (.inl z) z) (ω z (OpVal.extract z z z) (ω z (OpVal.extract z z z) (ψ z z (TL.j z z (ε ?_)))))))))))))))
 refine ξ (TL.j z z (ε (TC.cB z hh (λh112 hh=> ?_) (λh112 hh=> ?_))))
 ·refine ξ (ψ z z (ψ z z (ε (TC.ret (S.r ?_)))))
  obtain rfl:=so hh
  exact ro [κ b_ #[.slice aA x0.arcs.length ay,.slice jr x0.ends.length jm,.int .i64 x0.most,.slice iF x0.rows.length iD,.map (some b0_11),.string (bs x0.q.front),.slice a0_12 x0.q.next.length c0_13,.slice a0_16 x0.q.outs.length c0_17,.slice a0_20 x0.q.fin.length c0_21,.slice a0_22 x0.q.tail.length c0_23] pq,φ 22 1 (aC 2 dD gQ).en (.slice iF x0.rows.length iD) iH,Res.mapB l7 nR (some b0_11) x0.places,φ 86 1 (aC 1 aF bn).en (.slice a0_12 x0.q.next.length c0_13) z0_14,φ 30 1 (aC 1 aI bF).en (.slice a0_16 x0.q.outs.length c0_17) z0_18,dR 4 eq_ a0_20 c0_21 x0.q.fin,dR 9 aI a0_22 c0_23 x0.q.tail] z (RVs.tmp z RVs.nil) ⟨iF,iD,iH,b0_11,z,zf0_10,z⟩
 refine ι (S.n (ξ (TL.l z z (ω z (nH z z) (ω z (aU z rr_ z) (ω z (bg z PZ z (i:=0) z z) (ω z (lenC z underlying72 z) (ψ z z (ε (θ (ξ (ψ z z (TL.l z z (ω z (nH z z) (ω z (aU z fo74_2 z) ?_)))))))))))))))
 refine ω z (bg z fC z (i:=0) z z) (ω z (OpVal.geq z z z) (ε (TC.cD z hh (λAd hh=> ?_) (λAd hh=> ?_))))
 ·refine η (ω z (ny z ym_ VN z) (ω z (bu_ (v:= .agg #[.int .i64 2]) z underlying142 z) (TL.panic z z z ?_)))
  obtain rfl:=so hh
  exact z
 refine ι (S.n (ξ (TL.l z z (ω z (nH z z) (ω z (aU z zt_ z) (ω z (bg z RH z (i:=0) z z) (ω z (dX (.inl z) z) (ψ z z (ζ 2 z z (ν z (updB v3 ((x0.rows.length:Nat):Int) z underlying70 z z z z (mw_ kG) ?_)))))))))))
 refine ε (ξ (TL.l z z (TL.l z z (ω z (nH z z) (ω z (aU z rr_ z) (ω z (bg z PZ z (i:=1) z z) (Ξ z z ?_)))))))
 have wB:ZOk _ (aC 2 dD gQ) ([(x1,(jd,jc))]:List (List Tip×(aC 2 dD gQ).P)) [x1]:=ZOk.cons (dN) (ZOk.nil _ _)
 refine ν z (litZ wB z underlying72 Jo z ze22 z z z (by decide) (by decide) z (by decide) z (by decide) (λoZ oV=> ?_))
 refine ζ 3 z z ?_
 obtain ⟨u48,hh⟩:=aP hh
 refine ν z (L8 (k:=(aC 2 dD gQ)) zf0_10 wB z z underlying72 Jo by22 ze22 z z (by decide) z z z (.inr ⟨_,0,z⟩) (by simpa using u48) (by decide) (λqG c119 AX=> ?_))
 refine ω z (nH z z) (ω z (aU z rr_ z) (ζ 3 z z (ν z (f_ z sz72 z z z z z ?_))))
 refine ε (ξ (ψ z z (ψ z z (ε (TC.qR (Θ [7,7,7,7,7,6,6] 7) (TC.ret ?_))))))
 obtain rfl:=so hh
 exact ro [κ b_ #[.slice aA x0.arcs.length ay,.slice jr x0.ends.length jm,.int .i64 x0.most,.slice qG ((x0.rows++[x1]).length) c119,.map (some b0_11),.string (bs x0.q.front),.slice a0_12 x0.q.next.length c0_13,.slice a0_16 x0.q.outs.length c0_17,.slice a0_20 x0.q.fin.length c0_21,.slice a0_22 x0.q.tail.length c0_23] pq,φ 22 1 (aC 2 dD gQ).en (.slice qG (x0.rows++[x1]).length c119) (iH++([(x1,(jd,jc))]:List (List Tip×(aC 2 dD gQ).P))),Res.mapB l7 nR (some b0_11) (x0.places.put v3 ((x0.rows.length:Nat):Int)),φ 86 1 (aC 1 aF bn).en (.slice a0_12 x0.q.next.length c0_13) z0_14,φ 30 1 (aC 1 aI bF).en (.slice a0_16 x0.q.outs.length c0_17) z0_18,dR 4 eq_ a0_20 c0_21 x0.q.fin,dR 9 aI a0_22 c0_23 x0.q.tail] z (RVs.tmp z RVs.nil) ⟨qG,c119,(iH++([(x1,(jd,jc))]:List (List Tip×(aC 2 dD gQ).P))),b0_11,z,AX,z⟩
def C7_(x1:List Tip)(eU:Nat)(x0:Maker)(vG:Nat):Option ((Bool×T_1×Nat)⊕((Bool×T_1×Nat)⊕(Int⊕(Bool×T_1)))):=
 nxt (true,((nth x1 eU aG).out++(nth (nth x0.ends (((nth x1 eU aG).state).toNat) []) vG [])),(vG+1))
def NK(x0:Maker)(x1:List Tip)(eU:Nat)(Ob:Bool)(Oe:T_1)(vG:Nat):Option ((Bool×T_1×Nat)⊕((Bool×T_1×Nat)⊕(Int⊕(Bool×T_1)))):=
 aQ (decide ((vG:Int)<(((nth x0.ends (((nth x1 eU aG).state).toNat) []).length:Nat):Int))) (grd (((nth x1 eU aG).out).length+(nth (nth x0.ends (((nth x1 eU aG).state).toNat) []) vG []).length<=9223372036854775807) (aQ Ob (aQ (decide (((nth x1 eU aG).out++(nth (nth x0.ends (((nth x1 eU aG).state).toNat) []) vG []))≠Oe)) (fin (fin (some (.inl 12)))) (C7_ x1 eU x0 vG)) (C7_ x1 eU x0 vG))) (fin (nxt (Ob,Oe,(eU+1))))
def QD(x1:List Tip)(x0:Maker)(Oc:Bool)(Jr:T_1)(eU:Nat):Option ((Bool×T_1×Nat)⊕(Int⊕(Bool×T_1))):=
 aQ (decide ((eU:Int)<((x1.length:Nat):Int))) (grd (0<=((nth x1 eU aG).state)/\((nth x1 eU aG).state)<(x0.ends.length:Int)) (bC (λq:Bool×T_1×Nat=>NK x0 x1 eU q.1 q.2.1 q.2.2) (Oc,Jr,0))) (fin (bnd (Vg Jr) (λv49=>rV v49 (λv49k=>some (.inl v49k)) (λv49r=>some (.inr (Oc,Jr))))))
def D0_(x0:Maker)(x1:List Tip):Option (Int⊕(Bool×T_1)):=
 bC (λq:Bool×T_1×Nat=>QD x1 x0 q.1 q.2.1 q.2.2) (false,([]:T_1),0)
theorem Fu_{σ:aj}{x0:Maker}{iH:List (List Tip×(aC 2 dD gQ).P)}{z0_14:List (ak×(aC 1 aF bn).P)}{z0_18:List (aB×(aC 1 aI bF).P)}{x1:List Tip}(aO:RZ σ (aC 8 kC vV) (.slice aA x0.arcs.length ay) x0.arcs)(eP:RZ σ (aC 1 aI bF) (.slice jr x0.ends.length jm) x0.ends)(zf0_10:ZOk σ (aC 2 dD gQ) iH x0.rows)(zf0_15:ZOk σ (aC 1 aF bn) z0_14 x0.q.next)(zf0_19:ZOk σ (aC 1 aI bF) z0_18 x0.q.outs)(dN:RS σ 2 dD (.slice jd x1.length jc) x1){r:Int⊕(Bool×T_1)}(hh:D0_ x0 x1=some r):
  tX prog 130 #[loc b_ 0,.slice jd x1.length jc] σ [κ b_ #[.slice aA x0.arcs.length ay,.slice jr x0.ends.length jm,.int .i64 x0.most,.slice iF x0.rows.length iD,.map (some b0_11),.string (bs x0.q.front),.slice a0_12 x0.q.next.length c0_13,.slice a0_16 x0.q.outs.length c0_17,.slice a0_20 x0.q.fin.length c0_21,.slice a0_22 x0.q.tail.length c0_23] pq,φ 22 1 (aC 2 dD gQ).en (.slice iF x0.rows.length iD) iH,Res.mapB l7 nR (some b0_11) x0.places,φ 86 1 (aC 1 aF bn).en (.slice a0_12 x0.q.next.length c0_13) z0_14,φ 30 1 (aC 1 aI bF).en (.slice a0_16 x0.q.outs.length c0_17) z0_18,dR 4 eq_ a0_20 c0_21 x0.q.fin,dR 9 aI a0_22 c0_23 x0.q.tail] 142 (λr:Bool×T_1=>(λv σ' H'=>v= .tuple #[.bool r.1,.string (bs r.2)]/\σ=σ'/\H'=[κ b_ #[.slice aA x0.arcs.length ay,.slice jr x0.ends.length jm,.int .i64 x0.most,.slice iF x0.rows.length iD,.map (some b0_11),.string (bs x0.q.front),.slice a0_12 x0.q.next.length c0_13,.slice a0_16 x0.q.outs.length c0_17,.slice a0_20 x0.q.fin.length c0_21,.slice a0_22 x0.q.tail.length c0_23] pq,φ 22 1 (aC 2 dD gQ).en (.slice iF x0.rows.length iD) iH,Res.mapB l7 nR (some b0_11) x0.places,φ 86 1 (aC 1 aF bn).en (.slice a0_12 x0.q.next.length c0_13) z0_14,φ 30 1 (aC 1 aI bF).en (.slice a0_16 x0.q.outs.length c0_17) z0_18,dR 4 eq_ a0_20 c0_21 x0.q.fin,dR 9 aI a0_22 c0_23 x0.q.tail])) r:=by
 dsimp only [D0_]at hh
 have f0_3b:=aO.big
 have f0_6b:=eP.big
 have zf0_10b:=zf0_10.length
 have zf0_15b:=zf0_15.length
 have zf0_19b:=zf0_19.length
 have f1_0b:=dN.rv.big
 refine tX.mk (n:=51) Tryz.func130 z z z (λw0=> ?_)
 refine ξ (TL.j z z (ω z (dX (.inr z) z) (ε (ξ (TL.j z z (ω z (dX (.inr z) z) (ε (θ (ξ (Ξ z z (ω z (lenC z kS z) (ψ z z (ε (υ (TC.iE (α:=(Bool×T_1×Nat)×(aj)) (rgs [(6,2),(9,1),(11,2),(15,32)]) (λg=>[(6,.bool g.1.1),(7,.string (bs g.1.2.1)),(15,.int .i64 ((g.1.2.2:Nat):Int))]) (λg=>[κ b_ #[.slice aA x0.arcs.length ay,.slice jr x0.ends.length jm,.int .i64 x0.most,.slice iF x0.rows.length iD,.map (some b0_11),.string (bs x0.q.front),.slice a0_12 x0.q.next.length c0_13,.slice a0_16 x0.q.outs.length c0_17,.slice a0_20 x0.q.fin.length c0_21,.slice a0_22 x0.q.tail.length c0_23] pq,φ 22 1 (aC 2 dD gQ).en (.slice iF x0.rows.length iD) iH,Res.mapB l7 nR (some b0_11) x0.places,φ 86 1 (aC 1 aF bn).en (.slice a0_12 x0.q.next.length c0_13) z0_14,φ 30 1 (aC 1 aI bF).en (.slice a0_16 x0.q.outs.length c0_17) z0_18,dR 4 eq_ a0_20 c0_21 x0.q.fin,dR 9 aI a0_22 c0_23 x0.q.tail]) (λg=>g.2) (λg=>bC (λq:Bool×T_1×Nat=>QD x1 x0 q.1 q.2.1 q.2.2) g.1=some r/\ZOk g.2 (aC 2 dD gQ) iH x0.rows/\ZOk g.2 (aC 1 aF bn) z0_14 x0.q.next/\ZOk g.2 (aC 1 aI bF) z0_18 x0.q.outs/\aj.le σ g.2) (λg=>fZ (λq:Bool×T_1×Nat=>QD x1 x0 q.1 q.2.1 q.2.2) g.1) ((false,([]:T_1),0),σ) (Θ [6,6,6,6,6,6,6] 7) z (by repeat (first|exact trivial|refine ⟨z,?_⟩)) ⟨hh,zf0_10,zf0_15,zf0_19,(aj.le.refl _)⟩ (λg1 j1 hg1=> ?_))))))))))))))))
 obtain ⟨⟨Oc,Jr,eU⟩,τ131⟩:=g1
 obtain ⟨hh,I7,I5,I4,xK⟩:=hg1
 try dsimp only at I7
 try dsimp only at I5
 try dsimp only at I4
 dsimp only at xK
 replace eP:=eP.mono xK
 replace dN:=dN.mono xK
 try dsimp only
 obtain ⟨z1,hh,hR1⟩:=iq hh
 dsimp only [QD]at hh
 have zf125b:=I7.length
 have zf126b:=I5.length
 have zf127b:=I4.length
 refine χ (i:=1) z (λ_ hb133 _=> ?_)
 refine χ (i:=3) z (λ_ U6 _=> ?_)
 refine χ (i:=4) z (λ_ hb135 _=> ?_)
 refine χ (i:=5) z (λ_ hb136 _=> ?_)
 refine χ (i:=6) z (λ_ U5 _=> ?_)
 refine ξ (ω z (OpVal.lss z z z) (ε (θ (TC.cD z hh (λqj hh=> ?_) (λqj hh=> ?_)))))
 ·refine ι (S.n (θ (υ (ξ (ω z (bT z kS jQ z z dN.rv.sl (by omega)) (ω z (Ie aG z DC jQ z dN (by omega) (by omega)) (ν z (OpOk.alloc z vC z z (λb139=> ?_)))))))))
  refine ν z (storeAll z jQ z z z z z z ?_)
  refine ε (θ ?_)
  obtain ⟨yh,hh⟩:=aP hh
  refine TC.draw [] (by kernel_rfl) (TA.a 0 z (L9 (.inl z) z) z (TA.a 1 z (nH z z) z (TA.a 2 z (aU z ZK z) z (TA.b 3 z (bg z qx z (i:=1) z z) z (TA.a 4 z (aU z EN z) z (TA.b 5 z (bg z fC z (i:=0) z z) z (TA.b 6 z (OpVal.index z mY nC z z eP.isSl yh.1 yh.2) z ?_)))))))
  obtain ⟨OJ,xO,hg142⟩:=RZ.seg eP (((nth x1 eU aG).state).toNat) (by omega)
  replace xO:RS _ 1 aI (.slice OJ.1 (nth x0.ends (((nth x1 eU aG).state).toNat) []).length OJ.2) (nth x0.ends (((nth x1 eU aG).state).toNat) []):=xO
  have hk142b:=xO.rv.big
  refine TA.b 7 z (OpVal.of (lZ z mJ z hg142 z) (v':= .slice OJ.1 ((nth x0.ends (((nth x1 eU aG).state).toNat) []).length) OJ.2) z) z (TA.b 8 z (lenC z fF z) z (TA.a 9 z (cO (.inl z) z) z (TA.dn (S.n (υ (TC.iE (α:=(Bool×T_1×Nat)×(aj)) (rgs [(6,2),(11,2),(28,18)]) (λg=>[(6,.bool g.1.1),(7,.string (bs g.1.2.1)),(28,.int .i64 ((g.1.2.2:Nat):Int))]) (λg=>[κ b_ #[.slice aA x0.arcs.length ay,.slice jr x0.ends.length jm,.int .i64 x0.most,.slice iF x0.rows.length iD,.map (some b0_11),.string (bs x0.q.front),.slice a0_12 x0.q.next.length c0_13,.slice a0_16 x0.q.outs.length c0_17,.slice a0_20 x0.q.fin.length c0_21,.slice a0_22 x0.q.tail.length c0_23] pq,φ 22 1 (aC 2 dD gQ).en (.slice iF x0.rows.length iD) iH,Res.mapB l7 nR (some b0_11) x0.places,φ 86 1 (aC 1 aF bn).en (.slice a0_12 x0.q.next.length c0_13) z0_14,φ 30 1 (aC 1 aI bF).en (.slice a0_16 x0.q.outs.length c0_17) z0_18,dR 4 eq_ a0_20 c0_21 x0.q.fin,dR 9 aI a0_22 c0_23 x0.q.tail,κ b139 #[.int .i64 ((nth x1 eU aG).state),.string (bs ((nth x1 eU aG).out))] 76]) (λg=>g.2) (λg=>bC (λq:Bool×T_1×Nat=>NK x0 x1 eU q.1 q.2.1 q.2.2) g.1=some z1/\ZOk g.2 (aC 2 dD gQ) iH x0.rows/\ZOk g.2 (aC 1 aF bn) z0_14 x0.q.next/\ZOk g.2 (aC 1 aI bF) z0_18 x0.q.outs/\aj.le τ131 g.2) (λg=>fZ (λq:Bool×T_1×Nat=>NK x0 x1 eU q.1 q.2.1 q.2.2) g.1) ((Oc,Jr,0),τ131) (Θ [7,7,7,7,7,7,7] 8) z (by repeat (first|exact trivial|refine ⟨z,?_⟩)) ⟨hh,I7,I5,I4,(aj.le.refl _)⟩ (λg2 j2 hg2=> ?_)))))))
  obtain ⟨⟨Ob,Oe,vG⟩,τ164⟩:=g2
  obtain ⟨hh,sD,wz,wu,zT⟩:=hg2
  try dsimp only at sD
  try dsimp only at wz
  try dsimp only at wu
  dsimp only at zT
  replace xO:=xO.mono zT
  try dsimp only
  obtain ⟨z2,hh,hR2⟩:=iq hh
  dsimp only [NK]at hh
  have zf158b:=sD.length
  have zf159b:=wz.length
  have zf160b:=wu.length
  refine χ (i:=1) z (λ_ hb166 _=> ?_)
  refine χ (i:=3) z (λ_ hb167 _=> ?_)
  refine χ (i:=4) z (λ_ hb168 _=> ?_)
  refine χ (i:=5) z (λ_ hb169 _=> ?_)
  refine χ (i:=6) z (λ_ hb170 _=> ?_)
  refine ξ (ω z (OpVal.lss z z z) (ε (θ (TC.cD z hh (λh171 hh=> ?_) (λh171 hh=> ?_)))))
  ·refine ι (S.n (θ (υ (ξ (ω z (bT z fF fK z z xO.rv.sl (by omega)) (ω z (fD ([]:T_1) z iK z xO (by omega) z) (ω z (dX (.inr z) z) (ε (ξ (ω z (aU z Az z) (ω z (bg z iK z (i:=7) z z) (ω z (dX (.inl z) z) ?_))))))))))))
   obtain ⟨u30,hh⟩:=aP hh
   refine ω z (PU z z z u30) (ω z (dX (.inr z) z) (ε (TC.cutG (α:=(Unit)×(aj)) (rgs [(36,8)]) (λg=>[]) (λg=>[κ b_ #[.slice aA x0.arcs.length ay,.slice jr x0.ends.length jm,.int .i64 x0.most,.slice iF x0.rows.length iD,.map (some b0_11),.string (bs x0.q.front),.slice a0_12 x0.q.next.length c0_13,.slice a0_16 x0.q.outs.length c0_17,.slice a0_20 x0.q.fin.length c0_21,.slice a0_22 x0.q.tail.length c0_23] pq,φ 22 1 (aC 2 dD gQ).en (.slice iF x0.rows.length iD) iH,Res.mapB l7 nR (some b0_11) x0.places,φ 86 1 (aC 1 aF bn).en (.slice a0_12 x0.q.next.length c0_13) z0_14,φ 30 1 (aC 1 aI bF).en (.slice a0_16 x0.q.outs.length c0_17) z0_18,dR 4 eq_ a0_20 c0_21 x0.q.fin,dR 9 aI a0_22 c0_23 x0.q.tail,κ b139 #[.int .i64 ((nth x1 eU aG).state),.string (bs ((nth x1 eU aG).out))] 76]) (λg=>g.2) (λg=>C7_ x1 eU x0 vG=some z2/\ZOk g.2 (aC 2 dD gQ) iH x0.rows/\ZOk g.2 (aC 1 aF bn) z0_14 x0.q.next/\ZOk g.2 (aC 1 aI bF) z0_18 x0.q.outs/\aj.le τ164 g.2) ?_ (λg j hg=> ?_))))
   ·skip
    refine ξ (TL.j z z (TL.j z z (TL.split 37 z (λLj=> ?_) (λLj=> ?_))))
    ·replace hh:=ig Lj hh
     refine Ψ z (dX (.inl z) z) (Ψ z (dX (.inl z) z) (Ψ z (Iw z z z) (ω z (dQ z z z) (ε (TC.cD z hh (λh176 hh=> ?_) (λh176 hh=> ?_))))))
     ·refine η (ω z (ny z ym_ VN z) (ω z (bu_ (v:= .agg #[.int .i64 12]) z underlying142 z) (TL.panic z z z ?_)))
      replace hh:=dI hR2 hh
      replace hh:=dI hR1 hh
      obtain rfl:=so hh
      exact z
     exact ι (S.n (cf ((),τ164) ⟨hh,sD,wz,wu,(aj.le.refl _)⟩ (Θ [7,7,7,7,7,7,7,7] 8)))
    replace hh:=iw Lj hh
    exact π z (π z (π z (ω z (dU z z z) (ε (TC.f z (ι (S.n (cf ((),τ164) ⟨hh,sD,wz,wu,(aj.le.refl _)⟩ (Θ [7,7,7,7,7,7,7,7] 8)))))))))
   skip
   obtain ⟨_,τ177⟩:=g
   obtain ⟨hh,qH,AV,IW,xI⟩:=hg
   try dsimp only at qH
   try dsimp only at AV
   try dsimp only at IW
   dsimp only at xI
   replace sD:=sD.mono xI
   replace wz:=wz.mono xI
   replace wu:=wu.mono xI
   try dsimp only
   dsimp only [C7_]at hh
   have zf172b:=qH.length
   have zf173b:=AV.length
   have zf174b:=IW.length
   refine χ (i:=1) z (λ_ hb179 _=> ?_)
   refine χ (i:=3) z (λ_ hb180 _=> ?_)
   refine χ (i:=4) z (λ_ hb181 _=> ?_)
   refine χ (i:=5) z (λ_ hb182 _=> ?_)
   refine χ (i:=6) z (λ_ hb183 _=> ?_)
   refine η (ω z (dX (.inl z) z) (TL.j z z (ω z (dX (.inr z) z) (TL.nil (B.n (S.n (η (ω z (OpVal.succ z z z (by omega)) (ψ z z (ε ?_))))))))))
   obtain ⟨hh,DY⟩:=dL hR2 hh
   exact lf ((true,((nth x1 eU aG).out++(nth (nth x0.ends (((nth x1 eU aG).state).toNat) []) vG [])),(vG+1)),τ177) DY ⟨hh,qH,AV,IW,(zT.trans xI)⟩ (Θ [7,7,7,7,7,7,7,7] 8)
  refine TC.exit (S.x (S.x ?_))
  replace hh:=dI hR2 hh
  refine Δ (B.n (S.n (η (ω z (OpVal.succ z z z (by omega)) (ψ z z (ε ?_))))))
  obtain ⟨hh,DX⟩:=dL hR1 hh
  exact lf ((Ob,Oe,(eU+1)),τ164) DX ⟨hh,sD,wz,wu,(xK.trans zT)⟩ (Θ [6,6,6,6,6,6,6] 7)
 refine TC.exit (S.x (S.x ?_))
 replace hh:=dI hR1 hh
 refine Δ (S.n (ξ (ω z (dX (.inl z) z) ?_)))
 obtain ⟨v49,u49,hh⟩:=dJ hh
 rcases v49 with v49k|v49r
 ·dsimp only [rV]at hh
  refine TL.PV z (tX.l (Dl_ u49)) z z ZG z z (λτ186 hle186=> ?_)
  obtain rfl:=so hh
  exact z
 dsimp only [rV]at hh
 refine ν z (cv_ (Dl_ u49) z z z ZG z z z ?_)
 refine ε (ξ (TL.j z z (ω z (dX (.inl z) z) (TL.j z z (ω z (dX (.inr z) z) (ε (TC.back (TC.ret ?_))))))))
 obtain rfl:=so hh
 exact ro [κ b_ #[.slice aA x0.arcs.length ay,.slice jr x0.ends.length jm,.int .i64 x0.most,.slice iF x0.rows.length iD,.map (some b0_11),.string (bs x0.q.front),.slice a0_12 x0.q.next.length c0_13,.slice a0_16 x0.q.outs.length c0_17,.slice a0_20 x0.q.fin.length c0_21,.slice a0_22 x0.q.tail.length c0_23] pq,φ 22 1 (aC 2 dD gQ).en (.slice iF x0.rows.length iD) iH,Res.mapB l7 nR (some b0_11) x0.places,φ 86 1 (aC 1 aF bn).en (.slice a0_12 x0.q.next.length c0_13) z0_14,φ 30 1 (aC 1 aI bF).en (.slice a0_16 x0.q.outs.length c0_17) z0_18,dR 4 eq_ a0_20 c0_21 x0.q.fin,dR 9 aI a0_22 c0_23 x0.q.tail] z (RVs.tmp z (RVs.tmp z RVs.nil)) ⟨z,z,z⟩
def ZA(kP:Nat)(Wu:List Tip):Option (((List Tip)×Nat)⊕(((List Tip)×Nat)⊕((List Tip)))):=
 nxt (Wu,(kP+1))
def Cr_(fA:List Tip)(kP:Nat)(Jd:Tip):Option (((List Tip)×Nat)⊕(((List Tip)×Nat)⊕((List Tip)))):=
 grd ((fA.length+[Jd].length) * 24<=140737488355328) (ZA kP (fA++[Jd]))
def NC(x0:Maker)(x1:List Tip)(eG:Nat)(x2:UInt8)(fA:List Tip)(kP:Nat):Option (((List Tip)×Nat)⊕(((List Tip)×Nat)⊕((List Tip)))):=
 aQ (decide ((kP:Int)<(((nth x0.arcs (((nth x1 eG aG).state).toNat) []).length:Nat):Int))) (aQ (!(((nth (nth x0.arcs (((nth x1 eG aG).state).toNat) []) kP aZ).set).has x2.toNat)) (ZA kP fA) (grd (((nth x1 eG aG).out).length+((nth (nth x0.arcs (((nth x1 eG aG).state).toNat) []) kP aZ).out).length<=9223372036854775807) (aQ ((nth (nth x0.arcs (((nth x1 eG aG).state).toNat) []) kP aZ).copy) (grd (((nth x1 eG aG).out++(nth (nth x0.arcs (((nth x1 eG aG).state).toNat) []) kP aZ).out).length+[x2].length<=9223372036854775807) (Cr_ fA kP (⟨(nth (nth x0.arcs (((nth x1 eG aG).state).toNat) []) kP aZ).to,(((nth x1 eG aG).out++(nth (nth x0.arcs (((nth x1 eG aG).state).toNat) []) kP aZ).out)++[x2])⟩:Tip))) (Cr_ fA kP (⟨(nth (nth x0.arcs (((nth x1 eG aG).state).toNat) []) kP aZ).to,((nth x1 eG aG).out++(nth (nth x0.arcs (((nth x1 eG aG).state).toNat) []) kP aZ).out)⟩:Tip))))) (fin (nxt (fA,(eG+1))))
def QL(x1:List Tip)(x0:Maker)(x2:UInt8)(vg:List Tip)(eG:Nat):Option (((List Tip)×Nat)⊕((List Tip))):=
 aQ (decide ((eG:Int)<((x1.length:Nat):Int))) (grd (0<=((nth x1 eG aG).state)/\((nth x1 eG aG).state)<(x0.arcs.length:Int)) (bC (λq:(List Tip)×Nat=>NC x0 x1 eG x2 q.1 q.2) (vg,0))) (fin (some vg))
def Dg_(x0:Maker)(x1:List Tip)(x2:UInt8):Option ((List Tip)):=
 bC (λq:(List Tip)×Nat=>QL x1 x0 x2 q.1 q.2) (([]:List Tip),0)
theorem Gm_{σ:aj}{x0:Maker}{iH:List (List Tip×(aC 2 dD gQ).P)}{z0_14:List (ak×(aC 1 aF bn).P)}{z0_18:List (aB×(aC 1 aI bF).P)}{x1:List Tip}{x2:UInt8}(aO:RZ σ (aC 8 kC vV) (.slice aA x0.arcs.length ay) x0.arcs)(eP:RZ σ (aC 1 aI bF) (.slice jr x0.ends.length jm) x0.ends)(zf0_10:ZOk σ (aC 2 dD gQ) iH x0.rows)(zf0_15:ZOk σ (aC 1 aF bn) z0_14 x0.q.next)(zf0_19:ZOk σ (aC 1 aI bF) z0_18 x0.q.outs)(dN:RS σ 2 dD (.slice jd x1.length jc) x1){r:(List Tip)}(hh:Dg_ x0 x1 x2=some r):
  Con prog 131 #[loc b_ 0,.slice jd x1.length jc,.int .u8 ((x2.toNat:Nat):Int)] σ [κ b_ #[.slice aA x0.arcs.length ay,.slice jr x0.ends.length jm,.int .i64 x0.most,.slice iF x0.rows.length iD,.map (some b0_11),.string (bs x0.q.front),.slice a0_12 x0.q.next.length c0_13,.slice a0_16 x0.q.outs.length c0_17,.slice a0_20 x0.q.fin.length c0_21,.slice a0_22 x0.q.tail.length c0_23] pq,φ 22 1 (aC 2 dD gQ).en (.slice iF x0.rows.length iD) iH,Res.mapB l7 nR (some b0_11) x0.places,φ 86 1 (aC 1 aF bn).en (.slice a0_12 x0.q.next.length c0_13) z0_14,φ 30 1 (aC 1 aI bF).en (.slice a0_16 x0.q.outs.length c0_17) z0_18,dR 4 eq_ a0_20 c0_21 x0.q.fin,dR 9 aI a0_22 c0_23 x0.q.tail] (λv σ' H'=> ∃a1 c1,v= .slice a1 r.length c1/\σ=σ'/\H'=[φ 76 2 dD (.slice a1 r.length c1) r,κ b_ #[.slice aA x0.arcs.length ay,.slice jr x0.ends.length jm,.int .i64 x0.most,.slice iF x0.rows.length iD,.map (some b0_11),.string (bs x0.q.front),.slice a0_12 x0.q.next.length c0_13,.slice a0_16 x0.q.outs.length c0_17,.slice a0_20 x0.q.fin.length c0_21,.slice a0_22 x0.q.tail.length c0_23] pq,φ 22 1 (aC 2 dD gQ).en (.slice iF x0.rows.length iD) iH,Res.mapB l7 nR (some b0_11) x0.places,φ 86 1 (aC 1 aF bn).en (.slice a0_12 x0.q.next.length c0_13) z0_14,φ 30 1 (aC 1 aI bF).en (.slice a0_16 x0.q.outs.length c0_17) z0_18,dR 4 eq_ a0_20 c0_21 x0.q.fin,dR 9 aI a0_22 c0_23 x0.q.tail]):=by
 dsimp only [Dg_]at hh
 have f0_3b:=aO.big
 have f0_6b:=eP.big
 have zf0_10b:=zf0_10.length
 have zf0_15b:=zf0_15.length
 have zf0_19b:=zf0_19.length
 have f1_0b:=dN.rv.big
 refine Con.mk (n:=61) Tryz.func131 z z z (λw0=> ?_)
 refine ξ (Ξ z z (ε (ξ (Ξ z z (ε (θ (ξ (Ξ z z (ω z (lenC z kS z) (ψ z z (ε (υ (TC.nilS 76 2 dD (TC.iE (α:=((List Tip)×Nat)×((Option Addr)×Nat×aj)) (rgs [(7,1),(9,1),(11,2),(15,45)]) (λg=>[(7,.slice g.2.1 g.1.1.length g.2.2.1),(15,.int .i64 ((g.1.2:Nat):Int))]) (λg=>[κ b_ #[.slice aA x0.arcs.length ay,.slice jr x0.ends.length jm,.int .i64 x0.most,.slice iF x0.rows.length iD,.map (some b0_11),.string (bs x0.q.front),.slice a0_12 x0.q.next.length c0_13,.slice a0_16 x0.q.outs.length c0_17,.slice a0_20 x0.q.fin.length c0_21,.slice a0_22 x0.q.tail.length c0_23] pq,φ 22 1 (aC 2 dD gQ).en (.slice iF x0.rows.length iD) iH,Res.mapB l7 nR (some b0_11) x0.places,φ 86 1 (aC 1 aF bn).en (.slice a0_12 x0.q.next.length c0_13) z0_14,φ 30 1 (aC 1 aI bF).en (.slice a0_16 x0.q.outs.length c0_17) z0_18,dR 4 eq_ a0_20 c0_21 x0.q.fin,dR 9 aI a0_22 c0_23 x0.q.tail,φ 76 2 dD (.slice g.2.1 g.1.1.length g.2.2.1) g.1.1]) (λg=>g.2.2.2) (λg=>bC (λq:(List Tip)×Nat=>QL x1 x0 x2 q.1 q.2) g.1=some r/\ZOk g.2.2.2 (aC 2 dD gQ) iH x0.rows/\ZOk g.2.2.2 (aC 1 aF bn) z0_14 x0.q.next/\ZOk g.2.2.2 (aC 1 aI bF) z0_18 x0.q.outs/\aj.le σ g.2.2.2) (λg=>fZ (λq:(List Tip)×Nat=>QL x1 x0 x2 q.1 q.2) g.1) ((([]:List Tip),0),(none,0,σ)) (Θ [7,7,7,7,7,7,7] 8) z (by repeat (first|exact trivial|refine ⟨z,?_⟩)) ⟨hh,zf0_10,zf0_15,zf0_19,(aj.le.refl _)⟩ (λg1 j1 hg1=> ?_)))))))))))))))
 obtain ⟨⟨vg,eG⟩,⟨Fa,EX,τ138⟩⟩:=g1
 obtain ⟨hh,IZ,IY,IX,zV⟩:=hg1
 try dsimp only at IZ
 try dsimp only at IY
 try dsimp only at IX
 dsimp only at zV
 replace aO:=aO.mono zV
 replace dN:=dN.mono zV
 try dsimp only
 obtain ⟨z1,hh,hR1⟩:=iq hh
 dsimp only [QL]at hh
 have zf129b:=IZ.length
 have zf130b:=IY.length
 have zf131b:=IX.length
 refine χ (i:=1) z (λ_ hb140 _=> ?_)
 refine χ (i:=3) z (λ_ hb141 _=> ?_)
 refine χ (i:=4) z (λ_ hb142 _=> ?_)
 refine χ (i:=5) z (λ_ U4 _=> ?_)
 refine χ (i:=6) z (λ_ U3 _=> ?_)
 refine χ (i:=7) z (λ_ C_ _=> ?_)
 refine ξ (ω z (OpVal.lss z z z) (ε (θ (TC.cD z hh (λEF hh=> ?_) (λEF hh=> ?_)))))
 ·refine ι (S.n (θ (υ (ξ (ω z (bT z kS jQ z z dN.rv.sl (by omega)) (ω z (Ie aG z DC jQ z dN (by omega) (by omega)) (ν z (OpOk.alloc z vC z z (λY6=> ?_)))))))))
  refine ν z (storeAll z jQ z z z z z z ?_)
  refine ε (θ ?_)
  obtain ⟨RQ,hh⟩:=aP hh
  refine TC.draw [] (by kernel_rfl) (TA.a 0 z (L9 (.inl z) z) z (TA.a 1 z (nH z z) z (TA.a 2 z (aU z rc_ z) z (TA.b 3 z (bg z Y_ z (i:=1) z z) z (TA.a 4 z (aU z EN z) z (TA.b 5 z (bg z fC z (i:=0) z z) z (TA.b 6 z (OpVal.index z underlying71 NU z z aO.isSl RQ.1 RQ.2) z ?_)))))))
  obtain ⟨yx,nT,KU⟩:=RZ.seg aO (((nth x1 eG aG).state).toNat) (by omega)
  replace nT:RS _ 8 kC (.slice yx.1 (nth x0.arcs (((nth x1 eG aG).state).toNat) []).length yx.2) (nth x0.arcs (((nth x1 eG aG).state).toNat) []):=nT
  have hk150b:=nT.rv.big
  refine TA.b 7 z (OpVal.of (lZ z MO z KU z) (v':= .slice yx.1 ((nth x0.arcs (((nth x1 eG aG).state).toNat) []).length) yx.2) z) z (TA.b 8 z (lenC z qw z) z (TA.a 9 z (cO (.inl z) z) z (TA.dn (S.n (υ (TC.iE (α:=((List Tip)×Nat)×((Option Addr)×Nat×aj)) (rgs [(7,1),(11,2),(28,31)]) (λg=>[(7,.slice g.2.1 g.1.1.length g.2.2.1),(28,.int .i64 ((g.1.2:Nat):Int))]) (λg=>[κ b_ #[.slice aA x0.arcs.length ay,.slice jr x0.ends.length jm,.int .i64 x0.most,.slice iF x0.rows.length iD,.map (some b0_11),.string (bs x0.q.front),.slice a0_12 x0.q.next.length c0_13,.slice a0_16 x0.q.outs.length c0_17,.slice a0_20 x0.q.fin.length c0_21,.slice a0_22 x0.q.tail.length c0_23] pq,φ 22 1 (aC 2 dD gQ).en (.slice iF x0.rows.length iD) iH,Res.mapB l7 nR (some b0_11) x0.places,φ 86 1 (aC 1 aF bn).en (.slice a0_12 x0.q.next.length c0_13) z0_14,φ 30 1 (aC 1 aI bF).en (.slice a0_16 x0.q.outs.length c0_17) z0_18,dR 4 eq_ a0_20 c0_21 x0.q.fin,dR 9 aI a0_22 c0_23 x0.q.tail,φ 76 2 dD (.slice g.2.1 g.1.1.length g.2.2.1) g.1.1,κ Y6 #[.int .i64 ((nth x1 eG aG).state),.string (bs ((nth x1 eG aG).out))] 76]) (λg=>g.2.2.2) (λg=>bC (λq:(List Tip)×Nat=>NC x0 x1 eG x2 q.1 q.2) g.1=some z1/\ZOk g.2.2.2 (aC 2 dD gQ) iH x0.rows/\ZOk g.2.2.2 (aC 1 aF bn) z0_14 x0.q.next/\ZOk g.2.2.2 (aC 1 aI bF) z0_18 x0.q.outs/\aj.le τ138 g.2.2.2) (λg=>fZ (λq:(List Tip)×Nat=>NC x0 x1 eG x2 q.1 q.2) g.1) ((vg,0),(Fa,EX,τ138)) (Θ [8,8,8,8,8,8,8,8] 9) z (by repeat (first|exact trivial|refine ⟨z,?_⟩)) ⟨hh,IZ,IY,IX,(aj.le.refl _)⟩ (λg2 j2 hg2=> ?_)))))))
  obtain ⟨⟨fA,kP⟩,⟨Aj,c173,τ175⟩⟩:=g2
  obtain ⟨hh,qI,iY,kF,zS⟩:=hg2
  try dsimp only at qI
  try dsimp only at iY
  try dsimp only at kF
  dsimp only at zS
  replace nT:=nT.mono zS
  try dsimp only
  obtain ⟨z2,hh,hR2⟩:=iq hh
  dsimp only [NC]at hh
  have zf168b:=qI.length
  have zf169b:=iY.length
  have zf170b:=kF.length
  refine χ (i:=1) z (λ_ U0 _=> ?_)
  refine χ (i:=3) z (λ_ hb178 _=> ?_)
  refine χ (i:=4) z (λ_ hb179 _=> ?_)
  refine χ (i:=5) z (λ_ hb180 _=> ?_)
  refine χ (i:=6) z (λ_ hb181 _=> ?_)
  refine χ (i:=7) z (λ_ hb182 _=> ?_)
  refine ξ (ω z (OpVal.lss z z z) (ε (θ (TC.cD z hh (λh183 hh=> ?_) (λh183 hh=> ?_)))))
  ·refine ι (S.n (TC.cutG (α:=((List Tip))×((Option Addr)×Nat×aj)) (rgs [(7,1),(11,2),(30,28)]) (λg=>[(7,.slice g.2.1 g.1.length g.2.2.1)]) (λg=>[κ b_ #[.slice aA x0.arcs.length ay,.slice jr x0.ends.length jm,.int .i64 x0.most,.slice iF x0.rows.length iD,.map (some b0_11),.string (bs x0.q.front),.slice a0_12 x0.q.next.length c0_13,.slice a0_16 x0.q.outs.length c0_17,.slice a0_20 x0.q.fin.length c0_21,.slice a0_22 x0.q.tail.length c0_23] pq,φ 22 1 (aC 2 dD gQ).en (.slice iF x0.rows.length iD) iH,Res.mapB l7 nR (some b0_11) x0.places,φ 86 1 (aC 1 aF bn).en (.slice a0_12 x0.q.next.length c0_13) z0_14,φ 30 1 (aC 1 aI bF).en (.slice a0_16 x0.q.outs.length c0_17) z0_18,dR 4 eq_ a0_20 c0_21 x0.q.fin,dR 9 aI a0_22 c0_23 x0.q.tail,φ 76 2 dD (.slice g.2.1 g.1.length g.2.2.1) g.1,κ Y6 #[.int .i64 ((nth x1 eG aG).state),.string (bs ((nth x1 eG aG).out))] 76]) (λg=>g.2.2.2) (λg=>ZA kP g.1=some z2/\ZOk g.2.2.2 (aC 2 dD gQ) iH x0.rows/\ZOk g.2.2.2 (aC 1 aF bn) z0_14 x0.q.next/\ZOk g.2.2.2 (aC 1 aI bF) z0_18 x0.q.outs/\aj.le τ175 g.2.2.2) ?_ (λg j hg=> ?_)))
   ·skip
    refine υ (ξ (ω z (bT z qw nY z z nT.rv.sl (by omega)) (ω z (Ie aZ z Ji nY z nT (by omega) (by omega)) (ν z (OpOk.alloc z Au z z (λb190=> ?_))))))
    refine ν z (storeAll z nY z z z z z z ?_)
    refine ε (θ (ξ (ω z (aU z l3_ z) (ω z (bg_ z LZ He z (i:=0) z z z) (ψ z z (ν z (kD (has_con _ ((nth (nth x0.arcs (((nth x1 eG aG).state).toNat) []) kP aZ).set) x2.toNat (BSet.isOk _) (UInt8.toNat_lt _)) z z pf102 z z z ?_)))))))
    refine ω z (OpVal.not z z) (ε (TC.cB z hh (λh192 hh=> ?_) (λh192 hh=> ?_)))
    ·exact TC.exit (S.x (Δ (S.n (cf (fA,(Aj,c173,τ175)) ⟨hh,qI,iY,kF,(aj.le.refl _)⟩ (Θ [9,9,9,9,9,9,9,9,9] 9)))))
    refine ι (S.n (ξ (ω z (aU z S_ z) (ω z (bg z fC z (i:=0) z z) (ω z (aU z Az z) (ω z (bg z iK z (i:=9) z z) (ω z (aU z l1_ z) (ω z (bg z iK z (i:=0) z z) ?_))))))))
    obtain ⟨u37,hh⟩:=aP hh
    refine ω z (PU z z z u37) (ω z (ny z Jt vC z) (ν z (OpOk.alloc z vC z z (λb193=> ?_))))
    refine ν z (storeAll z jQ z z z z z z ?_)
    refine ε (TC.cutG (α:=(Tip)×(aj)) (rgs [(45,9)]) (λg=>[]) (λg=>[κ b_ #[.slice aA x0.arcs.length ay,.slice jr x0.ends.length jm,.int .i64 x0.most,.slice iF x0.rows.length iD,.map (some b0_11),.string (bs x0.q.front),.slice a0_12 x0.q.next.length c0_13,.slice a0_16 x0.q.outs.length c0_17,.slice a0_20 x0.q.fin.length c0_21,.slice a0_22 x0.q.tail.length c0_23] pq,φ 22 1 (aC 2 dD gQ).en (.slice iF x0.rows.length iD) iH,Res.mapB l7 nR (some b0_11) x0.places,φ 86 1 (aC 1 aF bn).en (.slice a0_12 x0.q.next.length c0_13) z0_14,φ 30 1 (aC 1 aI bF).en (.slice a0_16 x0.q.outs.length c0_17) z0_18,dR 4 eq_ a0_20 c0_21 x0.q.fin,dR 9 aI a0_22 c0_23 x0.q.tail,φ 76 2 dD (.slice Aj fA.length c173) fA,κ Y6 #[.int .i64 ((nth x1 eG aG).state),.string (bs ((nth x1 eG aG).out))] 76,κ b193 #[.int .i64 g.1.state,.string (bs g.1.out)] 76]) (λg=>g.2) (λg=>Cr_ fA kP g.1=some z2/\ZOk g.2 (aC 2 dD gQ) iH x0.rows/\ZOk g.2 (aC 1 aF bn) z0_14 x0.q.next/\ZOk g.2 (aC 1 aI bF) z0_18 x0.q.outs/\aj.le τ175 g.2) ?_ (λg j hg=> ?_))
    ·skip
     refine ξ (ω z (aU z pf_ z) (ω z (bg z nX z (i:=1) z z) (ε (TC.cB z hh (λh199 hh=> ?_) (λh199 hh=> ?_)))))
     ·refine η (ω z (aU z Az z) (ω z (bg z iK z (i:=0) z z) (ψ z z (ν z (OpOk.lit (enc:=ku) [x2] z G7 Jm MJ z z z UJ (by decide) (by decide) (0:UInt8) z (by decide) z (by decide) UL (λIh c201=> ?_))))))
      refine TL.isSl (i:=0) z (λhs203 _ _=> ?_)
      refine ω z (ca_ (l:=[x2]) z G7 underlying5 kG z hs203 (λw hw=>rdb_row (q:=0) z hw)) ?_
      obtain ⟨u48,hh⟩:=aP hh
      refine ω z (PU z z z u48) (ω z (aU z Az z) (ζ 1 z z (ν z (b6_ z fK z z z z z ?_))))
      exact ε (cf ((⟨(nth (nth x0.arcs (((nth x1 eG aG).state).toNat) []) kP aZ).to,(((nth x1 eG aG).out++(nth (nth x0.arcs (((nth x1 eG aG).state).toNat) []) kP aZ).out)++[x2])⟩:Tip),τ175) ⟨hh,qI,iY,kF,(aj.le.refl _)⟩ (Θ [11,11,11,11,11,11,11,11,11] 10))
     exact ι (S.n (cf ((⟨(nth (nth x0.arcs (((nth x1 eG aG).state).toNat) []) kP aZ).to,((nth x1 eG aG).out++(nth (nth x0.arcs (((nth x1 eG aG).state).toNat) []) kP aZ).out)⟩:Tip),τ175) ⟨hh,qI,iY,kF,(aj.le.refl _)⟩ (Θ [10,10,10,10,10,10,10,10,10] 10)))
    skip
    obtain ⟨Jd,τ204⟩:=g
    obtain ⟨hh,vZ,iO,yT,xH⟩:=hg
    try dsimp only at vZ
    try dsimp only at iO
    try dsimp only at yT
    dsimp only at xH
    replace qI:=qI.mono xH
    replace iY:=iY.mono xH
    replace kF:=kF.mono xH
    try dsimp only
    dsimp only [Cr_]at hh
    have zf195b:=vZ.length
    have zf196b:=iO.length
    have zf197b:=yT.length
    refine χ (i:=1) z (λ_ hb206 _=> ?_)
    refine χ (i:=3) z (λ_ hb207 _=> ?_)
    refine χ (i:=4) z (λ_ UZ _=> ?_)
    refine χ (i:=5) z (λ_ Ld _=> ?_)
    refine χ (i:=6) z (λ_ Lc _=> ?_)
    refine χ (i:=7) z (λ_ UY _=> ?_)
    refine η (Ξ z z (ω z (lG z DC jQ z (i:=9) z z) (ν z (OpOk.lit (enc:=dD) [Jd] z kS jQ vC z z z gQ (by decide) (by decide) aG z (by decide) z (by decide) Px (λa212 c213=> ?_)))))
    refine ζ 8 z z ?_
    obtain ⟨Jj,hh⟩:=aP hh
    refine ν z (as_ z z kS jQ PL vC z z (by decide) z z z (.inr ⟨_,0,z⟩) (by simpa using Jj) (by decide) (λa215 c216=> ?_))
    exact Ξ z z (TL.nil (B.n (S.n (cf ((fA++[Jd]),(a215,c216,τ204)) ⟨hh,vZ,iO,yT,xH⟩ (Θ [9,1,9,9,9,9,9,9,9] 9)))))
   skip
   obtain ⟨Wu,⟨tu,sZ,τ217⟩⟩:=g
   obtain ⟨hh,IV,AU,IU,xE⟩:=hg
   try dsimp only at IV
   try dsimp only at AU
   try dsimp only at IU
   dsimp only at xE
   replace qI:=qI.mono xE
   replace iY:=iY.mono xE
   replace kF:=kF.mono xE
   try dsimp only
   dsimp only [ZA]at hh
   have zf184b:=IV.length
   have zf185b:=AU.length
   have zf186b:=IU.length
   refine χ (i:=1) z (λ_ hb219 _=> ?_)
   refine χ (i:=3) z (λ_ hb220 _=> ?_)
   refine χ (i:=4) z (λ_ UW _=> ?_)
   refine χ (i:=5) z (λ_ La _=> ?_)
   refine χ (i:=6) z (λ_ K_ _=> ?_)
   refine χ (i:=7) z (λ_ UU _=> ?_)
   refine η (ω z (OpVal.succ z z z (by omega)) (ψ z z (ε ?_)))
   obtain ⟨hh,Xv⟩:=dL hR2 hh
   exact lf ((Wu,(kP+1)),(tu,sZ,τ217)) Xv ⟨hh,IV,AU,IU,(zS.trans xE)⟩ (Θ [8,8,8,8,8,8,8,8,8] 9)
  refine TC.exit (S.x (S.x ?_))
  replace hh:=dI hR2 hh
  refine Δ (B.n (S.n (η (ω z (OpVal.succ z z z (by omega)) (ψ z z (ε ?_))))))
  obtain ⟨hh,Xu⟩:=dL hR1 hh
  exact lf ((fA,(eG+1)),(Aj,c173,τ175)) Xu ⟨hh,qI,iY,kF,(zV.trans zS)⟩ (Θ [7,7,7,7,7,7,7,7] 8)
 refine TC.exit (S.x (S.x ?_))
 replace hh:=dI hR1 hh
 refine Δ (S.n (ξ (Ξ z z (Ξ z z (ε (TC.qR (Θ [6,6,6,6,6,6,6,7] 8) (TC.back (TC.ret ?_))))))))
 obtain rfl:=so hh
 exact ro [φ 76 2 dD (.slice Fa vg.length EX) vg,κ b_ #[.slice aA x0.arcs.length ay,.slice jr x0.ends.length jm,.int .i64 x0.most,.slice iF x0.rows.length iD,.map (some b0_11),.string (bs x0.q.front),.slice a0_12 x0.q.next.length c0_13,.slice a0_16 x0.q.outs.length c0_17,.slice a0_20 x0.q.fin.length c0_21,.slice a0_22 x0.q.tail.length c0_23] pq,φ 22 1 (aC 2 dD gQ).en (.slice iF x0.rows.length iD) iH,Res.mapB l7 nR (some b0_11) x0.places,φ 86 1 (aC 1 aF bn).en (.slice a0_12 x0.q.next.length c0_13) z0_14,φ 30 1 (aC 1 aI bF).en (.slice a0_16 x0.q.outs.length c0_17) z0_18,dR 4 eq_ a0_20 c0_21 x0.q.fin,dR 9 aI a0_22 c0_23 x0.q.tail] z (RVs.tmp z RVs.nil) ⟨Fa,EX,z,z,z⟩
def MI(x0:Maker)(x1:Int)(v11r:Bool×T_1)(wJ:List (List Tip))(yC:FM T_1 Int)(eu:ak)(jF:aB)(gu:Nat):Option (((List (List Tip))×(FM T_1 Int)×ak×aB×Nat)⊕(Int⊕(Maker))):=
 aQ (decide ((gu:Int)<256)) (grd (gu<eu.length) (bnd (Dg_ (⟨x0.arcs,x0.ends,x0.most,wJ,yC,x0.q⟩:Maker) (nth x0.rows x1.toNat []) (qK (gu:Int))) (λv33=>aQ (decide (0<((v33.length:Nat):Int))) (bnd (E2_ v33) (λv41=>rV v41 (λv41k=>fin (some (.inl v41k))) (λv41r=>grd (gu<jF.length) (bnd (Iz (⟨x0.arcs,x0.ends,x0.most,wJ,yC,x0.q⟩:Maker) v41r.2) (λv52=>rV v52 (λv52k=>fin (some (.inl v52k))) (λv52r=>grd (gu<(eu.set gu (-1)).length) (nxt (v52r.2.rows,v52r.2.places,((eu.set gu (-1)).set gu v52r.1),(jF.set gu v41r.1),(gu+1))))))))) (nxt (wJ,yC,(eu.set gu (-1)),jF,(gu+1)))))) (fin (grd ((x0.q.next.length+[eu].length) * 24<=140737488355328) (grd ((x0.q.outs.length+[jF].length) * 24<=140737488355328) (grd ((x0.q.fin.length+[v11r.1].length) * 1<=140737488355328) (grd ((x0.q.tail.length+[v11r.2].length) * 16<=140737488355328) (some (.inr (⟨x0.arcs,x0.ends,x0.most,wJ,yC,(⟨x0.q.front,(x0.q.next++[eu]),(x0.q.outs++[jF]),(x0.q.fin++[v11r.1]),(x0.q.tail++[v11r.2])⟩:Seq)⟩:Maker))))))))
def Dn_(x0:Maker)(x1:Int)(v11r:Bool×T_1):Option (Int⊕(Maker)):=
 bC (λq:(List (List Tip))×(FM T_1 Int)×ak×aB×Nat=>MI x0 x1 v11r q.1 q.2.1 q.2.2.1 q.2.2.2.1 q.2.2.2.2) (x0.rows,x0.places,(replicate 256 (0:Int)),(replicate 256 ([]:T_1)),0)
def El_(x0:Maker)(x1:Int):Option (Int⊕(Maker)):=
 grd (0<=x1/\x1<(x0.rows.length:Int)) (bnd (D0_ x0 (nth x0.rows x1.toNat [])) (λv11=>rV v11 (λv11k=>some (.inl v11k)) (λv11r=>Dn_ x0 x1 v11r)))
theorem F1_{σ:aj}{x0:Maker}{iH:List (List Tip×(aC 2 dD gQ).P)}{z0_14:List (ak×(aC 1 aF bn).P)}{z0_18:List (aB×(aC 1 aI bF).P)}{x1:Int}(hgl:Dx σ 1 2)(aO:RZ σ (aC 8 kC vV) (.slice aA x0.arcs.length ay) x0.arcs)(eP:RZ σ (aC 1 aI bF) (.slice jr x0.ends.length jm) x0.ends)(zf0_10:ZOk σ (aC 2 dD gQ) iH x0.rows)(zf0_15:ZOk σ (aC 1 aF bn) z0_14 x0.q.next)(zf0_19:ZOk σ (aC 1 aI bF) z0_18 x0.q.outs){r:Int⊕(Maker)}(hh:El_ x0 x1=some r):
  tX prog 90 #[loc b_ 0,.int .i64 x1] σ [κ b_ #[.slice aA x0.arcs.length ay,.slice jr x0.ends.length jm,.int .i64 x0.most,.slice iF x0.rows.length iD,.map (some b0_11),.string (bs x0.q.front),.slice a0_12 x0.q.next.length c0_13,.slice a0_16 x0.q.outs.length c0_17,.slice a0_20 x0.q.fin.length c0_21,.slice a0_22 x0.q.tail.length c0_23] pq,φ 22 1 (aC 2 dD gQ).en (.slice iF x0.rows.length iD) iH,Res.mapB l7 nR (some b0_11) x0.places,φ 86 1 (aC 1 aF bn).en (.slice a0_12 x0.q.next.length c0_13) z0_14,φ 30 1 (aC 1 aI bF).en (.slice a0_16 x0.q.outs.length c0_17) z0_18,dR 4 eq_ a0_20 c0_21 x0.q.fin,dR 9 aI a0_22 c0_23 x0.q.tail] 142 (λr:Maker=>(λv σ' H'=> ∃Dp Dh, ∃(zo3:List (List Tip×(aC 2 dD gQ).P)), ∃bo5 ao6 co7, ∃(zo8:List (ak×(aC 1 aF bn).P)), ∃LY LJ, ∃(zo12:List (aB×(aC 1 aI bF).P)), ∃ao14 co15 ao16 co17,v= .tuple #[]/\ZOk σ' (aC 2 dD gQ) zo3 r.rows/\ZOk σ' (aC 1 aF bn) zo8 r.q.next/\ZOk σ' (aC 1 aI bF) zo12 r.q.outs/\H'=[κ b_ #[.slice aA x0.arcs.length ay,.slice jr x0.ends.length jm,.int .i64 x0.most,.slice Dp r.rows.length Dh,.map (some bo5),.string (bs x0.q.front),.slice ao6 r.q.next.length co7,.slice LY r.q.outs.length LJ,.slice ao14 r.q.fin.length co15,.slice ao16 r.q.tail.length co17] pq,φ 22 1 (aC 2 dD gQ).en (.slice Dp r.rows.length Dh) zo3,Res.mapB l7 nR (some bo5) r.places,φ 86 1 (aC 1 aF bn).en (.slice ao6 r.q.next.length co7) zo8,φ 30 1 (aC 1 aI bF).en (.slice LY r.q.outs.length LJ) zo12,dR 4 eq_ ao14 co15 r.q.fin,dR 9 aI ao16 co17 r.q.tail])) r:=by
 dsimp only [El_]at hh
 have f0_3b:=aO.big
 have f0_6b:=eP.big
 have zf0_10b:=zf0_10.length
 have zf0_15b:=zf0_15.length
 have zf0_19b:=zf0_19.length
 refine tX.mk (n:=103) Tryz.func90 z z z (λw0=> ?_)
 refine TC.c3_ (ξ (TL.l z z (ω z (nH z z) (ω z (aU z rr_ z) (ω z (bg z PZ z (i:=0) z z) (ψ z z ?_))))))
 obtain ⟨u6,hh⟩:=aP hh
 refine TL.isSl (i:=1) z (λhs116 _ _=> ?_)
 refine ω z (OpVal.index z underlying72 Jo z z (zf0_10.isSl hs116) u6.1 u6.2) ?_
 obtain ⟨OT,Ui⟩: ∃p,p=(nth iH x1.toNat ((aC 2 dD gQ).d,(aC 2 dD gQ).dp)).2:=⟨_,rfl⟩
 have sV:RS σ 2 dD (.slice OT.1 (nth x0.rows x1.toNat []).length OT.2) (nth x0.rows x1.toNat []):=by rw [Ui];exact (zf0_10.at (by omega)).2
 refine ω z (OpVal.of (Ui▸dw_ zf0_10 z Fj z (q:=1) z (by omega) z) (v':= .slice OT.1 ((nth x0.rows x1.toNat []).length) OT.2) z) (Ξ z z (ε (ξ (TL.l z z (Ξ z z (ζ 6 z z (ζ 6 z z (ζ 6 z z (ζ 6 z z (ζ 6 z z (ζ 6 z z (ζ 6 z z ?_))))))))))))
 obtain ⟨v11,u11,hh⟩:=dJ hh
 rcases v11 with v11k|v11r
 ·dsimp only [rV]at hh
  refine TL.PV z (tX.l (Fu_ (x0:=x0) aO eP zf0_10 zf0_15 zf0_19 sV u11)) z z SH z z (λτ118 gZ=> ?_)
  replace aO:=aO.mono gZ
  replace eP:=eP.mono gZ
  replace zf0_10:=zf0_10.mono gZ
  replace zf0_15:=zf0_15.mono gZ
  replace zf0_19:=zf0_19.mono gZ
  replace hgl:=hgl.mono gZ
  replace sV:=sV.mono gZ
  obtain rfl:=so hh
  exact ⟨_,Sub.pre 0 z,z⟩
 dsimp only [rV]at hh
 refine ν z (YW (Fu_ (x0:=x0) aO eP zf0_10 zf0_15 zf0_19 sV u11) z z SH z z z z ?_)
 rintro _ _ _ Yn ⟨rfl,rfl,rfl⟩
 refine ω z (vS (.inl z) z) (ω z (OpVal.extract z z z) (ω z (OpVal.extract z z z) (TL.j z z (ω z (dX (.inr z) z) (ε (TC.cutG (α:=(Unit)×((Option Addr)×Nat×(Option Addr)×Nat×aj)) [7,8,24,25] (λg=>[(7,.slice g.2.1 ((replicate 256 (0:Int)).length) g.2.2.1),(8,.slice g.2.2.2.1 ((replicate 256 ([]:T_1)).length) g.2.2.2.2.1)]) (λg=>[κ b_ #[.slice aA x0.arcs.length ay,.slice jr x0.ends.length jm,.int .i64 x0.most,.slice iF x0.rows.length iD,.map (some b0_11),.string (bs x0.q.front),.slice a0_12 x0.q.next.length c0_13,.slice a0_16 x0.q.outs.length c0_17,.slice a0_20 x0.q.fin.length c0_21,.slice a0_22 x0.q.tail.length c0_23] pq,φ 22 1 (aC 2 dD gQ).en (.slice iF x0.rows.length iD) iH,Res.mapB l7 nR (some b0_11) x0.places,φ 86 1 (aC 1 aF bn).en (.slice a0_12 x0.q.next.length c0_13) z0_14,φ 30 1 (aC 1 aI bF).en (.slice a0_16 x0.q.outs.length c0_17) z0_18,dR 4 eq_ a0_20 c0_21 x0.q.fin,dR 9 aI a0_22 c0_23 x0.q.tail,φ 3 1 aF (.slice g.2.1 (replicate 256 (0:Int)).length g.2.2.1) (replicate 256 (0:Int)),φ 9 1 aI (.slice g.2.2.2.1 (replicate 256 ([]:T_1)).length g.2.2.2.2.1) (replicate 256 ([]:T_1))]) (λg=>g.2.2.2.2.2) (λg=>Dn_ x0 x1 v11r=some r/\ZOk g.2.2.2.2.2 (aC 2 dD gQ) iH x0.rows/\ZOk g.2.2.2.2.2 (aC 1 aF bn) z0_14 x0.q.next/\ZOk g.2.2.2.2.2 (aC 1 aI bF) z0_18 x0.q.outs/\aj.le σ g.2.2.2.2.2) ?_ (λg j hg=> ?_)))))))
 ·skip
  refine TC.draw [] (by kernel_rfl) (TA.actN [0,1] (by kernel_rfl) (an z z (oW (m:=256) (enc:=aF) (0:Int) z bY dh uJ lq z z z z (by omega) (by decide) bn (by decide) z jR (λyK vO=>(k1 ?_))) (an z z (oW (m:=256) (enc:=aI) ([]:T_1) z fF fK zo sG z z z z (by omega) (by decide) bF (by decide) z qX (λa138 c139=>(k1 ?_))) (True.intro))))
  ·skip
   refine TA.a 2 z (gK (.inr z) z) z (TA.ac 1 z (oW (m:=256) (enc:=aI) ([]:T_1) z fF fK zo sG z z z z (by omega) (by decide) bF (by decide) z qX (λa141 PG=>(k2 ?_))))
   exact TA.a 3 z (gK (.inr z) z) z (TA.dn (S.n (cf ((),(yK,vO,a141,PG,σ)) ⟨hh,zf0_10,zf0_15,zf0_19,(aj.le.refl _)⟩ (Θ [1,8,8,8,8,8,8,8] 9))))
  skip
  refine TA.ac 0 z (oW (m:=256) (enc:=aF) (0:Int) z bY dh uJ lq z z z z (by omega) (by decide) bn (by decide) z jR (λa144 c145=>(k2 ?_)))
  exact TA.a 2 z (gK (.inr z) z) z (TA.a 3 z (gK (.inr z) z) z (TA.dn (S.n (cf ((),(a144,c145,a138,c139,σ)) ⟨hh,zf0_10,zf0_15,zf0_19,(aj.le.refl _)⟩ (Θ [1,1,8,8,8,8,8,8,8] 9)))))
 skip
 obtain ⟨_,⟨a124,Ah,a127,LU,τ147⟩⟩:=g
 obtain ⟨hh,AX,lK,mF,xJ⟩:=hg
 try dsimp only at AX
 try dsimp only at lK
 try dsimp only at mF
 dsimp only at xJ
 replace aO:=aO.mono xJ
 replace eP:=eP.mono xJ
 replace hgl:=hgl.mono xJ
 replace sV:=sV.mono xJ
 try dsimp only
 dsimp only [Dn_]at hh
 have zf120b:=AX.length
 have zf121b:=lK.length
 have zf122b:=mF.length
 refine χ (i:=1) z (λ_ hb149 _=> ?_)
 refine χ (i:=3) z (λ_ hb150 _=> ?_)
 refine χ (i:=4) z (λ_ U2 _=> ?_)
 refine χ (i:=5) z (λ_ hb152 _=> ?_)
 refine χ (i:=6) z (λ_ U1 _=> ?_)
 refine χ (i:=7) z (λ_ hb154 _=> ?_)
 refine χ (i:=8) z (λ_ hb155 _=> ?_)
 refine θ (ξ (ψ z z (ε (υ (TC.iE (α:=((List (List Tip))×(FM T_1 Int)×ak×aB×Nat)×((Option Addr)×Nat×(List (List Tip×(aC 2 dD gQ).P))×Nat×aj)) (rgs [(9,2),(26,29)]) (λg=>[(26,.int .i64 ((g.1.2.2.2.2:Nat):Int))]) (λg=>[κ b_ #[.slice aA x0.arcs.length ay,.slice jr x0.ends.length jm,.int .i64 x0.most,.slice g.2.1 g.1.1.length g.2.2.1,.map (some g.2.2.2.2.1),.string (bs x0.q.front),.slice a0_12 x0.q.next.length c0_13,.slice a0_16 x0.q.outs.length c0_17,.slice a0_20 x0.q.fin.length c0_21,.slice a0_22 x0.q.tail.length c0_23] pq,φ 22 1 (aC 2 dD gQ).en (.slice g.2.1 g.1.1.length g.2.2.1) g.2.2.2.1,Res.mapB l7 nR (some g.2.2.2.2.1) g.1.2.1,φ 86 1 (aC 1 aF bn).en (.slice a0_12 x0.q.next.length c0_13) z0_14,φ 30 1 (aC 1 aI bF).en (.slice a0_16 x0.q.outs.length c0_17) z0_18,dR 4 eq_ a0_20 c0_21 x0.q.fin,dR 9 aI a0_22 c0_23 x0.q.tail,φ 3 1 aF (.slice a124 (replicate 256 (0:Int)).length Ah) g.1.2.2.1,φ 9 1 aI (.slice a127 (replicate 256 ([]:T_1)).length LU) g.1.2.2.2.1]) (λg=>g.2.2.2.2.2) (λg=>bC (λq:(List (List Tip))×(FM T_1 Int)×ak×aB×Nat=>MI x0 x1 v11r q.1 q.2.1 q.2.2.1 q.2.2.2.1 q.2.2.2.2) g.1=some r/\ZOk g.2.2.2.2.2 (aC 2 dD gQ) g.2.2.2.1 g.1.1/\ZOk g.2.2.2.2.2 (aC 1 aF bn) z0_14 x0.q.next/\ZOk g.2.2.2.2.2 (aC 1 aI bF) z0_18 x0.q.outs/\g.1.2.2.1.length=(replicate 256 (0:Int)).length/\g.1.2.2.2.1.length=(replicate 256 ([]:T_1)).length/\aj.le τ147 g.2.2.2.2.2) (λg=>fZ (λq:(List (List Tip))×(FM T_1 Int)×ak×aB×Nat=>MI x0 x1 v11r q.1 q.2.1 q.2.2.1 q.2.2.2.1 q.2.2.2.2) g.1) ((x0.rows,x0.places,(replicate 256 (0:Int)),(replicate 256 ([]:T_1)),0),(iF,iD,iH,b0_11,τ147)) (Θ [8,8,8,8,8,8,8,8,8] 9) z (by repeat (first|exact trivial|refine ⟨z,?_⟩)) ⟨hh,AX,lK,mF,z,z,(aj.le.refl _)⟩ (λg1 j1 hg1=> ?_))))))
 obtain ⟨⟨wJ,yC,eu,jF,gu⟩,⟨a193,c194,VD,EY,τ207⟩⟩:=g1
 obtain ⟨hh,iO,dw,jH,uT,Gf,rG⟩:=hg1
 try dsimp only at iO
 try dsimp only at dw
 try dsimp only at jH
 try dsimp only at uT
 try dsimp only at Gf
 dsimp only at rG
 replace aO:=aO.mono rG
 replace eP:=eP.mono rG
 replace hgl:=hgl.mono rG
 replace sV:=sV.mono rG
 try dsimp only
 obtain ⟨z1,hh,hR1⟩:=iq hh
 dsimp only [MI]at hh
 have zf196b:=iO.length
 have zf200b:=dw.length
 have zf201b:=jH.length
 refine χ (i:=1) z (λ_ Ld _=> ?_)
 refine χ (i:=3) z (λ_ Lc _=> ?_)
 refine χ (i:=4) z (λ_ UY _=> ?_)
 refine χ (i:=5) z (λ_ hb212 _=> ?_)
 refine χ (i:=6) z (λ_ hb213 _=> ?_)
 refine χ (i:=7) z (λ_ hb214 _=> ?_)
 refine χ (i:=8) z (λ_ hb215 _=> ?_)
 refine ξ (ω z (OpVal.lss z z z) (ε (θ (TC.cD z hh (λh216 hh=> ?_) (λh216 hh=> ?_)))))
 ·refine ι (S.n (θ (υ (ξ (ψ z z (ψ z z (ε (ξ (Ξ z z (ψ z z ?_))))))))))
  obtain ⟨u27,hh⟩:=aP hh
  refine TL.isSl (i:=7) z (λJH _ _=> ?_)
  refine ω z (bT z bY dh z z JH (by omega)) (ζ 7 z z ?_)
  have Uu:(eu.set gu (-1)).length=(replicate 256 (0:Int)).length:=by rw [fQ];exact uT
  refine ν z (lF (-1) z dh z z z z bn jR (by omega) (by omega) ?_)
  refine ε (ξ (TL.l z z (Ξ z z (ψ z z (ω z (b1_ z underlying3 underlying5 z) (ζ 7 z z (ζ 7 z z (ζ 7 z z (ζ 7 z z (ζ 7 z z (ζ 7 z z (ζ 7 z z ?_))))))))))))
  obtain ⟨v33,u33,hh⟩:=dJ hh
  refine ν z (OpOk.call (Gm_ (x0:=(⟨x0.arcs,x0.ends,x0.most,wJ,yC,x0.q⟩:Maker)) aO eP iO dw jH sV u33) z z pf131 z z z z ?_)
  rintro _ _ _ hle219 ⟨a219_1,c219_2,rfl,rfl,rfl⟩
  refine Ξ z z (ε (ξ (Ξ z z (ω z (lenC z kS z) (ω z (OpVal.gtr z z z) (ε (TC.cD z hh (λYu hh=> ?_) (λYu hh=> ?_))))))))
  ·refine ξ (Ξ z z (ψ z z (Ξ z z ?_)))
   obtain ⟨v41,MS,hh⟩:=dJ hh
   rcases v41 with v41k|v41r
   ·dsimp only [rV]at hh
    refine TL.PV z (tX.l (Ey_ MS)) z z Oo z z (λτ222 uo=> ?_)
    replace aO:=aO.mono uo
    replace eP:=eP.mono uo
    replace hgl:=hgl.mono uo
    replace iO:=iO.mono uo
    replace dw:=dw.mono uo
    replace jH:=jH.mono uo
    replace hh:=dI hR1 hh
    obtain rfl:=so hh
    exact ⟨_,Sub.pre 0 z,z⟩
   dsimp only [rV]at hh
   refine ν z (YW (Ey_ MS) z z Oo z z z z ?_)
   rintro _ τ223 _ rF ⟨a223_1,c223_2,rfl,hr223_3,rfl⟩
   replace aO:=aO.mono rF
   replace eP:=eP.mono rF
   replace hgl:=hgl.mono rF
   replace iO:=iO.mono rF
   replace dw:=dw.mono rF
   replace jH:=jH.mono rF
   have hr223_3b:=hr223_3.rv.big
   refine ω z (vS (.inl z) z) (ω z (OpVal.extract z z z) (ω z (OpVal.extract z z z) ?_))
   obtain ⟨u45,hh⟩:=aP hh
   refine TL.isSl (i:=8) z (λBo _ _=> ?_)
   refine ω z (bT z fF fK z z Bo (by omega)) (ζ 8 z z ?_)
   have hn225:(jF.set gu v41r.1).length=(replicate 256 ([]:T_1)).length:=by rw [fQ];exact Gf
   refine ν z (lF v41r.1 z fK z z z z bF qX (by omega) (by omega) ?_)
   refine Ξ z z (ε (η (Ξ z z (ψ z z (TL.l z z (Ξ z z (ζ 7 z z (ζ 7 z z (ζ 7 z z (ζ 7 z z (ζ 7 z z (ζ 7 z z (ζ 7 z z ?_)))))))))))))
   obtain ⟨v52,NZ,hh⟩:=dJ hh
   rcases v52 with v52k|v52r
   ·dsimp only [rV]at hh
    refine TL.PV z (tX.l (Di_ (x0:=(⟨x0.arcs,x0.ends,x0.most,wJ,yC,x0.q⟩:Maker)) hgl aO eP iO dw jH hr223_3 NZ)) z z Om z z (λτ226 rE=> ?_)
    replace aO:=aO.mono rE
    replace eP:=eP.mono rE
    replace hgl:=hgl.mono rE
    replace iO:=iO.mono rE
    replace dw:=dw.mono rE
    replace jH:=jH.mono rE
    replace hr223_3:=hr223_3.mono rE
    replace hh:=dI hR1 hh
    obtain rfl:=so hh
    exact ⟨_,Sub.pre 0 z,z⟩
   dsimp only [rV]at hh
   refine ν z (YW (Di_ (x0:=(⟨x0.arcs,x0.ends,x0.most,wJ,yC,x0.q⟩:Maker)) hgl aO eP iO dw jH hr223_3 NZ) z z Om z z z z ?_)
   rintro _ τ227 _ zQ ⟨a227_1,c227_2,z227_3,b227_5,rfl,zf227_4,rfl⟩
   replace iO:=iO.mono zQ
   replace dw:=dw.mono zQ
   replace jH:=jH.mono zQ
   have zf227_4b:=zf227_4.length
   obtain ⟨u53,hh⟩:=aP hh
   refine TL.isSl (i:=8) z (λhs230 _ _=> ?_)
   refine ω z (bT z bY dh z z hs230 (by omega)) (ζ 8 z z ?_)
   have oL:((eu.set gu (-1)).set gu v52r.1).length=(replicate 256 (0:Int)).length:=by rw [fQ];exact Uu
   refine ν z (lF v52r.1 z dh z z z z bn jR (by omega) (by omega) ?_)
   refine TL.nil (B.n (S.n (η (ω z (OpVal.succ z z z (by omega)) (ψ z z (ε ?_))))))
   obtain ⟨hh,DR⟩:=dL hR1 hh
   exact lf ((v52r.2.rows,v52r.2.places,((eu.set gu (-1)).set gu v52r.1),(jF.set gu v41r.1),(gu+1)),(a227_1,c227_2,z227_3,b227_5,τ227)) DR ⟨hh,zf227_4,dw,jH,oL,hn225,((rG.trans rF).trans zQ)⟩ (Θ [8,1,8,8,8,8,8,8,8] 9)
  refine ι (B.n (S.n (η (ω z (OpVal.succ z z z (by omega)) (ψ z z (ε ?_))))))
  obtain ⟨hh,DN⟩:=dL hR1 hh
  exact lf ((wJ,yC,(eu.set gu (-1)),jF,(gu+1)),(a193,c194,VD,EY,τ207)) DN ⟨hh,iO,dw,jH,Uu,Gf,rG⟩ (Θ [9,9,9,9,9,9,9,9,9] 9)
 refine TC.exit (S.x (S.x ?_))
 replace hh:=dI hR1 hh
 refine Δ (S.n (ξ (TL.l z z (TL.l z z (ω z (nH z z) (ω z (aU z MZ z) (ω z (aU z kW z) (ω z (bg z j_ z (i:=0) z z) (Ξ z z ?_)))))))))
 rw [<-uT]
 refine ζ 7 z z (TL.og bn (λτ238 xB BH=> ?_))
 replace iO:=iO.mono xB
 replace dw:=dw.mono xB
 replace jH:=jH.mono xB
 have hr236b:=BH.rv.big
 have Ru:ZOk _ (aC 1 aF bn) ([(eu,(a124,Ah))]:List (ak×(aC 1 aF bn).P)) [eu]:=ZOk.cons (BH) (ZOk.nil _ _)
 refine ν z (litZ Ru z eX fP z kY z z z (by decide) (by decide) z (by decide) z (by decide) (λa234 c235=> ?_))
 refine ζ 4 z z ?_
 obtain ⟨u65,hh⟩:=aP hh
 refine ν z (L8 (k:=(aC 1 aF bn)) dw Ru z z eX fP mG kY z z (by decide) z z z (.inr ⟨_,0,z⟩) (by simpa using u65) (by decide) (λZe YL II=> ?_))
 refine ω z (nH z z) (ω z (aU z MZ z) (ω z (aU z kW z) (ζ 2 z z (ν z (f_ z jB z z z z z ?_)))))
 refine ε (ξ (TL.l z z (TL.l z z (ω z (nH z z) (ω z (aU z MZ z) (ω z (aU z o_ z) (ω z (bg z qx z (i:=0) z z) (Ξ z z ?_))))))))
 rw [<-Gf]
 refine ζ 8 z z (TL.og bF (λτ248 En Ub=> ?_))
 replace iO:=iO.mono En
 replace jH:=jH.mono En
 replace II:=II.mono En
 have hr246b:=Ub.rv.big
 have AQ:ZOk _ (aC 1 aI bF) ([(jF,(a127,LU))]:List (aB×(aC 1 aI bF).P)) [jF]:=ZOk.cons (Ub) (ZOk.nil _ _)
 refine ν z (litZ AQ z mY nC z Hg z z z (by decide) (by decide) z (by decide) z (by decide) (λa244 c245=> ?_))
 refine ζ 6 z z ?_
 obtain ⟨u78,hh⟩:=aP hh
 refine ν z (L8 (k:=(aC 1 aI bF)) jH AQ z z mY nC RJ Hg z z (by decide) z z z (.inr ⟨_,0,z⟩) (by simpa using u78) (by decide) (λMd LP nJ=> ?_))
 refine ω z (nH z z) (ω z (aU z MZ z) (ω z (aU z o_ z) (ζ 2 z z (ν z (f_ z RN z z z z z ?_)))))
 refine ε (ξ (TL.l z z (TL.l z z (ω z (nH z z) (ω z (aU z MZ z) (ω z (aU z uF z) (ω z (bg z rX z (i:=0) z z) (TL.j z z (ν z (OpOk.lit (enc:=eq_) [v11r.1] z g_ gV Ap z z z iQ (by decide) (by decide) false z (by decide) z (by decide) qQ (λa254 c255=> ?_)))))))))))
 refine ζ 8 z z ?_
 obtain ⟨u91,hh⟩:=aP hh
 refine ν z (as_ z z g_ gV GV Ap z z (by decide) z z z (.inr ⟨_,0,z⟩) (by simpa using u91) (by decide) (λMc LM=> ?_))
 refine ω z (nH z z) (ω z (aU z MZ z) (ω z (aU z uF z) (ζ 2 z z (ν z (f_ z Jh z z z z z ?_)))))
 refine ε (η (TL.l z z (TL.l z z (ω z (nH z z) (ω z (aU z MZ z) (ω z (aU z uX z) (ω z (bg z mJ z (i:=0) z z) (ω z (dX (.inl z) z) (ν z (OpOk.lit (enc:=aI) [v11r.2] z fF fK sG z z z bF (by decide) (by decide) ([]:T_1) z (by decide) z (by decide) qX (λa259 c260=> ?_)))))))))))
 refine ζ 10 z z ?_
 obtain ⟨Oa,hh⟩:=aP hh
 refine ν z (as_ z z fF fK zo sG z z (by decide) z z z (.inr ⟨_,0,z⟩) (by simpa using Oa) (by decide) (λL_ LK=> ?_))
 refine ω z (nH z z) (ω z (aU z MZ z) (ω z (aU z uX z) (ζ 2 z z (ν z (f_ z nC z z z z z ?_)))))
 refine TL.nil ?_
 obtain rfl:=so hh
 refine ⟨_,Θ [1,3,5,7,10,10,6] 7,?_⟩
 exact RetOk.mk' (rs:=[]) [κ b_ #[.slice aA x0.arcs.length ay,.slice jr x0.ends.length jm,.int .i64 x0.most,.slice a193 wJ.length c194,.map (some EY),.string (bs x0.q.front),.slice Ze ((x0.q.next++[eu]).length) YL,.slice Md ((x0.q.outs++[jF]).length) LP,.slice Mc ((x0.q.fin++[v11r.1]).length) LM,.slice L_ ((x0.q.tail++[v11r.2]).length) LK] pq,φ 22 1 (aC 2 dD gQ).en (.slice a193 wJ.length c194) VD,Res.mapB l7 nR (some EY) yC,φ 86 1 (aC 1 aF bn).en (.slice Ze (x0.q.next++[eu]).length YL) (z0_14++([(eu,(a124,Ah))]:List (ak×(aC 1 aF bn).P))),φ 30 1 (aC 1 aI bF).en (.slice Md (x0.q.outs++[jF]).length LP) (z0_18++([(jF,(a127,LU))]:List (aB×(aC 1 aI bF).P))),dR 4 eq_ Mc LM (x0.q.fin++[v11r.1]),dR 9 aI L_ LK (x0.q.tail++[v11r.2])] z (.inr z) RVs.nil (List.sublist_append_left _ _) ⟨a193,c194,VD,EY,Ze,YL,(z0_14++([(eu,(a124,Ah))]:List (ak×(aC 1 aF bn).P))),Md,LP,(z0_18++([(jF,(a127,LU))]:List (aB×(aC 1 aI bF).P))),Mc,LM,L_,LK,z,iO,II,nJ,z⟩
def F7_(x0:Seq)(x1:Int):Option (Unit):=
 some ()
theorem Gu_{σ:aj}{x0:Seq}{x1:Int}(aO:RZ σ (aC 1 aF bn) (.slice aA x0.next.length ay) x0.next)(eP:RZ σ (aC 1 aI bF) (.slice jr x0.outs.length jm) x0.outs)(f0_9:dH σ eq_ iF iD x0.fin)(f0_12:dH σ aI a0_10 c0_11 x0.tail){r:Unit}(hh:F7_ x0 x1=some r):
  RD prog 86 #[loc b_ 0,loc fG 0] σ [κ b_ (qF x0 aA ay jr jm iF iD a0_10 c0_11) pq,κ fG #[.int .i64 x1] uM] (λv σ' H'=>v= .tuple #[]/\σ=σ'/\H'=[κ b_ (qF x0 aA ay jr jm iF iD a0_10 c0_11) pq,κ fG #[.int .i64 x1] uM]):=by
 dsimp only [F7_]at hh
 have f0_3b:=aO.big
 have f0_6b:=eP.big
 have f0_9b:=f0_9.rv.big
 have f0_12b:=f0_12.rv.big
 refine RD.rec (n:=13) Tryz.func86 z z z z z z z (λw0=> ?_)
 refine ω z (dl_ z underlying142 (U9 VN) z) (ω z (vS (.inl z) z) (ω z (OpVal.extract z z z) (ω z (OpVal.extract z z z) (ν z (OpOk.alloc z VN z z (λb107=> ?_))))))
 refine ν z (storeAll z RX z z z z z z ?_)
 refine TL.j z z (ε (ξ (TL.j z z (ε (TC.f z (ι ?_))))))
 obtain rfl:=so hh
 refine ⟨_,Θ [2,2] 2,?_⟩
 exact RetOk.mk' (rs:=[]) [κ b_ (qF x0 aA ay jr jm iF iD a0_10 c0_11) pq,κ fG #[.int .i64 x1] uM] z (.inr z) RVs.nil (List.sublist_append_left _ _) ⟨z,z,z⟩
def E6_(k:Int):Option (Seq×Int):=
 some ((⟨([]:T_1),([]:bW),([]:fJ),([]:B_1),([]:aB)⟩:Seq),k)
theorem Fv_{σ:aj}{x1g:Int}{k:Int}{r:Seq×Int}(hh:E6_ k=some r):
  Q_ prog 86 #[loc b_ 0,loc fG 0] (fltV 142 k) σ [κ b_ #[.string (bs ([]:T_1)),bM,bM,bM,bM] pq,κ fG #[.int .i64 x1g] uM] (λv σ' H'=> ∃Dp Dh ao4 co5 ao7 co8 LY LJ,v= .tuple #[]/\RZ σ' (aC 1 aF bn) (.slice Dp r.1.next.length Dh) r.1.next/\RZ σ' (aC 1 aI bF) (.slice ao4 r.1.outs.length co5) r.1.outs/\dH σ' eq_ ao7 co8 r.1.fin/\dH σ' aI LY LJ r.1.tail/\H'=[κ b_ (qF r.1 Dp Dh ao4 co5 ao7 co8 LY LJ) pq,κ fG #[.int .i64 r.2] uM]):=by
 dsimp only [E6_]at hh
 refine Q_.rec (n:=13) Tryz.func86 z z z z z z z (λw0=> ?_)
 refine ω z (dp_ z underlying142 z) (ω z (vS (.inl z) z) (ω z (OpVal.extract z z z) (ω z (OpVal.extract z z z) (ν z (OpOk.alloc z VN z z (λb107=> ?_))))))
 refine ν z (storeAll z RX z z z z z z ?_)
 refine TL.j z z (ε (ξ (TL.j z z (ε (TC.t z (TC.PS (Hr:=[κ b107 #[.int .i64 k] 142,κ b_ #[.string (bs ([]:T_1)),bM,bM,bM,bM] pq]) (λr hr=>qy [0,1] z hr) [] (by kernel_rfl) (TA.a 0 z (ny z wH nD z) z (TA.a 1 z (aU z aab_ z) z (TA.b 2 z (bg z Ic z (i:=0) z z) z (TA.front 1 z z (TA.ac 3 z (storeAll z fB z z z z z z ⟨(λw h=>rP (aj.le.refl _) (λr hr=>qy [1,0] z hr) w h),?_⟩))))))))))))
 refine TA.front 2 z z (TA.ac 4 z (cg_ z VU z z z z z ⟨(λw h=>rP (aj.le.refl _) (λr hr=>qy [2,1] z hr) w h),?_⟩))
 refine TA.dn ?_
 obtain rfl:=so hh
 refine ⟨_,Θ [1] 2,?_⟩
 exact RetOk.mk' (rs:=[]) [κ b_ #[.string (bs ([]:T_1)),bM,bM,bM,bM] pq,κ fG #[.int .i64 k] uM] z (.inr z) RVs.nil (List.sublist_append_left _ _) ⟨none,0,none,0,none,0,none,0,z,(RZ.nilF _ (aC 1 aF bn)),(RZ.nilF _ (aC 1 aI bF)),(RS.nilF _ eq_ iQ),(RS.nilF _ aI bF),z⟩
def MG(x0:Maker)(v16r:T_1×(List Tip))(Jy:List (List Tip))(OZ:FM T_1 Int)(l9:bW)(nO:fJ)(Hu:B_1)(Ht:aB)(JA:Nat):Option (((List (List Tip))×(FM T_1 Int)×bW×fJ×B_1×aB×Nat)⊕(Seq×Int)):=
 aQ (decide ((JA:Int)<((Jy.length:Nat):Int))) (bnd (El_ (⟨x0.arcs,x0.ends,x0.most,Jy,OZ,(⟨v16r.1,l9,nO,Hu,Ht⟩:Seq)⟩:Maker) (JA:Int)) (λv41=>rV v41 (λv41k=>fin (bnd (E6_ v41k) (λv70=>some (v70.1,v70.2)))) (λv41r=>nxt (v41r.rows,v41r.places,v41r.q.next,v41r.q.outs,v41r.q.fin,v41r.q.tail,(JA+1))))) (fin (bnd (F7_ (⟨v16r.1,l9,nO,Hu,Ht⟩:Seq) 0) (λv71=>some ((⟨v16r.1,l9,nO,Hu,Ht⟩:Seq),0))))
def Eb_(x0:Maker)(x1:Fst):Option (Seq×Int):=
 aQ (decide (((x1.starts.length:Nat):Int)=0)) (bnd (F7_ (⟨([]:T_1),([]:bW),([]:fJ),([]:B_1),([]:aB)⟩:Seq) 0) (λv51=>some ((⟨([]:T_1),([]:bW),([]:fJ),([]:B_1),([]:aB)⟩:Seq),0))) (grd (x1.starts.length * 24<=140737488355328) (bnd (E2_ x1.starts) (λv16=>rV v16 (λv16k=>bnd (E6_ v16k) (λv52=>some (v52.1,v52.2))) (λv16r=>bnd (Iz (⟨x0.arcs,x0.ends,x0.most,x0.rows,x0.places,(⟨v16r.1,x0.q.next,x0.q.outs,x0.q.fin,x0.q.tail⟩:Seq)⟩:Maker) v16r.2) (λv30=>rV v30 (λv30k=>bnd (E6_ v30k) (λv53=>some (v53.1,v53.2))) (λv30r=>bC (λq:(List (List Tip))×(FM T_1 Int)×bW×fJ×B_1×aB×Nat=>MG x0 v16r q.1 q.2.1 q.2.2.1 q.2.2.2.1 q.2.2.2.2.1 q.2.2.2.2.2.1 q.2.2.2.2.2.2) (v30r.2.rows,v30r.2.places,x0.q.next,x0.q.outs,x0.q.fin,x0.q.tail,0)))))))
theorem G9_{σ:aj}{x0:Maker}{iH:List (List Tip×(aC 2 dD gQ).P)}{z0_14:List (ak×(aC 1 aF bn).P)}{z0_18:List (aB×(aC 1 aI bF).P)}{x1:Fst}(hgl:Dx σ 1 2)(aO:RZ σ (aC 8 kC vV) (.slice aA x0.arcs.length ay) x0.arcs)(eP:RZ σ (aC 1 aI bF) (.slice jr x0.ends.length jm) x0.ends)(zf0_10:ZOk σ (aC 2 dD gQ) iH x0.rows)(zf0_15:ZOk σ (aC 1 aF bn) z0_14 x0.q.next)(zf0_19:ZOk σ (aC 1 aI bF) z0_18 x0.q.outs)(dN:RS σ 2 dD (.slice jd x1.starts.length jc) x1.starts)(LH:RS σ 2 dD (.slice jL x1.ends.length EW) x1.ends)(Py:RS σ 8 kC (.slice yJ x1.arcs.length jK) x1.arcs){r:Seq×Int}(hh:Eb_ x0 x1=some r):
  Con prog 45 #[loc b_ 0,.agg (oN x1 jd jc jL EW yJ jK)] σ [κ b_ #[.slice aA x0.arcs.length ay,.slice jr x0.ends.length jm,.int .i64 x0.most,.slice iF x0.rows.length iD,.map (some b0_11),.string (bs x0.q.front),.slice a0_12 x0.q.next.length c0_13,.slice a0_16 x0.q.outs.length c0_17,.slice a0_20 x0.q.fin.length c0_21,.slice a0_22 x0.q.tail.length c0_23] pq,φ 22 1 (aC 2 dD gQ).en (.slice iF x0.rows.length iD) iH,Res.mapB l7 nR (some b0_11) x0.places,φ 86 1 (aC 1 aF bn).en (.slice a0_12 x0.q.next.length c0_13) z0_14,φ 30 1 (aC 1 aI bF).en (.slice a0_16 x0.q.outs.length c0_17) z0_18,dR 4 eq_ a0_20 c0_21 x0.q.fin,dR 9 aI a0_22 c0_23 x0.q.tail] (λv σ' H'=> ∃a1 c1 a2 c2 a3 c3 a4 c4,v= .tuple #[.agg (qF r.1 a1 c1 a2 c2 a3 c3 a4 c4),.int .i64 r.2]/\RZ σ' (aC 1 aF bn) (.slice a1 r.1.next.length c1) r.1.next/\RZ σ' (aC 1 aI bF) (.slice a2 r.1.outs.length c2) r.1.outs/\dH σ' eq_ a3 c3 r.1.fin/\dH σ' aI a4 c4 r.1.tail/\H'=[]):=by
 dsimp only [Eb_]at hh
 have f0_3b:=aO.big
 have f0_6b:=eP.big
 have zf0_10b:=zf0_10.length
 have zf0_15b:=zf0_15.length
 have zf0_19b:=zf0_19.length
 have f1_0b:=dN.rv.big
 have f1_1b:=LH.rv.big
 have f1_2b:=Py.rv.big
 refine Con.mkD (n:=46) Tryz.func45 z z z (λw0=> ?_)
 refine TB.seq tr_ (η (ν z (boxA z z z z (λb110=> ?_))))
 refine ν z (OpOk.alloc z nD z z (λqo=> ?_))
 refine ν z (OpOk.alloc z ze33 z z (λY7=> ?_))
 refine ε (TB.seqD (TLB.v z (b9_ z) z z (TLB.dfr (dargs:=[]) z z z z z (λa_ w_ hw_ ha_=> ?_))))
 refine TB.fin (Q:=dfrX _ _ _ _ 86 [loc qo 0,loc Y7 0]) (xb_ (cap:=[loc qo 0,loc Y7 0]) (dargs:=[]) pf86) ?_ w_ a_ hw_ ha_
 clear hw_ ha_ a_ w_
 refine θ (ξ (ω z (aU z Tc z) (ω z (bg z Fj z (i:=2) z z) (ω z (lenC z kS z) (ω z (OpVal.eql z z z) (ε (TC.cD z hh (λh116 hh=> ?_) (λh116 hh=> ?_))))))))
 ·refine ξ (ω z (ny z wH nD z) (ζ 1 z z (ν z (storeAll z fB z z z z z z ?_))))
  refine ζ 1 z z (ν z (cg_ z VU z z z z z ?_))
  refine ε (TC.front 1 z z ?_)
  obtain ⟨v51,u51,hh⟩:=dJ hh
  refine TC.ret (S.r (.inl ⟨.inl z,_,Sub.pre 2 z,(Gu_ (RZ.nilF _ (aC 1 aF bn)) (RZ.nilF _ (aC 1 aI bF)) (RS.nilF _ eq_ iQ) (RS.nilF _ aI bF) u51).mono ?_⟩))
  rintro _ _ _ KO ⟨rfl,rfl,rfl⟩
  obtain rfl:=so hh
  exact RetOk.mk' (rs:=[.cell 4 32,.cell 5 33]) [] z (.inl z) (RVs.agg jw fB z (i:=0) z z (RVs.one Ic z (i:=1) z z RVs.nil)) (List.nil_sublist _) ⟨none,0,none,0,none,0,none,0,z,(RZ.nilF _ (aC 1 aF bn)),(RZ.nilF _ (aC 1 aI bF)),(RS.nilF _ eq_ iQ),(RS.nilF _ aI bF),z⟩
 refine ι (S.n (ξ (ω z (aU z Tc z) (ω z (bg z Fj z (i:=2) z z) ?_))))
 obtain ⟨u15,hh⟩:=aP hh
 refine ν z (OpOk.call (Hj_ dN u15) z z pf88 z z z z ?_)
 rintro _ _ _ _ ⟨⟨qG,c119,rfl⟩,rfl,rfl⟩
 obtain ⟨v16,u16,hh⟩:=dJ hh
 rcases v16 with v16k|v16r
 ·dsimp only [rV]at hh
  refine TL.PV z (tX.l (Ey_ u16)) z z Oo z z (λτ121 uw=> ?_)
  replace aO:=aO.mono uw
  replace eP:=eP.mono uw
  replace zf0_10:=zf0_10.mono uw
  replace zf0_15:=zf0_15.mono uw
  replace zf0_19:=zf0_19.mono uw
  replace hgl:=hgl.mono uw
  obtain ⟨v52,NZ,hh⟩:=dJ hh
  refine .inr ⟨_,z,_,Θ [1] 2,(Fv_ NZ).mono ?_⟩
  rintro _ τ122 _ lV ⟨a122_1,c122_2,a122_4,c122_5,a122_7,c122_8,a122_10,c122_11,rfl,f122_3,f122_6,f122_9,f122_12,rfl⟩
  replace aO:=aO.mono lV
  replace eP:=eP.mono lV
  replace zf0_10:=zf0_10.mono lV
  replace zf0_15:=zf0_15.mono lV
  replace zf0_19:=zf0_19.mono lV
  replace hgl:=hgl.mono lV
  have f122_3b:=f122_3.big
  have f122_6b:=f122_6.big
  have f122_9b:=f122_9.rv.big
  have f122_12b:=f122_12.rv.big
  obtain rfl:=so hh
  exact RetOk.mk' (rs:=[.cell 4 32,.cell 5 33]) [] z (.inl z) (RVs.agg jw fB z (i:=0) z z (RVs.one Ic z (i:=1) z z RVs.nil)) (List.nil_sublist _) ⟨a122_1,c122_2,a122_4,c122_5,a122_7,c122_8,a122_10,c122_11,z,f122_3,f122_6,f122_9,f122_12,z⟩
 dsimp only [rV]at hh
 refine ν z (YW (Ey_ u16) z z Oo z z z z ?_)
 rintro _ τ127 _ ng ⟨a127_1,c127_2,rfl,hr127_3,rfl⟩
 replace aO:=aO.mono ng
 replace eP:=eP.mono ng
 replace zf0_10:=zf0_10.mono ng
 replace zf0_15:=zf0_15.mono ng
 replace zf0_19:=zf0_19.mono ng
 replace hgl:=hgl.mono ng
 have hr127_3b:=hr127_3.rv.big
 refine ω z (vS (.inl z) z) (ω z (OpVal.extract z z z) (ω z (OpVal.extract z z z) (ω z (dX (.inr z) z) (Ξ z z (ε (ξ (TL.l z z (ω z (dX (.inl z) z) (ω z (nH z z) (ω z (aU z MZ z) (ω z (aU z GR z) (ζ 3 z z (ν z (b6_ z fK z z z z z ?_))))))))))))))
 refine ε (ξ (TL.l z z (Ξ z z (ζ 9 z z (ζ 9 z z (ζ 9 z z (ζ 9 z z (ζ 9 z z (ζ 9 z z (ζ 6 z z ?_))))))))))
 obtain ⟨v30,u30,hh⟩:=dJ hh
 rcases v30 with v30k|v30r
 ·dsimp only [rV]at hh
  refine TL.PV z (tX.l (Di_ (x0:=(⟨x0.arcs,x0.ends,x0.most,x0.rows,x0.places,(⟨v16r.1,x0.q.next,x0.q.outs,x0.q.fin,x0.q.tail⟩:Seq)⟩:Maker)) hgl aO eP zf0_10 zf0_15 zf0_19 hr127_3 u30)) z z Om z z (λτ128 kT=> ?_)
  replace aO:=aO.mono kT
  replace eP:=eP.mono kT
  replace zf0_10:=zf0_10.mono kT
  replace zf0_15:=zf0_15.mono kT
  replace zf0_19:=zf0_19.mono kT
  replace hgl:=hgl.mono kT
  replace hr127_3:=hr127_3.mono kT
  obtain ⟨v53,u53,hh⟩:=dJ hh
  refine .inr ⟨_,z,_,Θ [1] 2,(Fv_ u53).mono ?_⟩
  rintro _ τ129 _ pW ⟨a129_1,c129_2,a129_4,c129_5,a129_7,c129_8,a129_10,c129_11,rfl,f129_3,f129_6,f129_9,f129_12,rfl⟩
  replace aO:=aO.mono pW
  replace eP:=eP.mono pW
  replace zf0_10:=zf0_10.mono pW
  replace zf0_15:=zf0_15.mono pW
  replace zf0_19:=zf0_19.mono pW
  replace hgl:=hgl.mono pW
  replace hr127_3:=hr127_3.mono pW
  have f129_3b:=f129_3.big
  have f129_6b:=f129_6.big
  have f129_9b:=f129_9.rv.big
  have f129_12b:=f129_12.rv.big
  obtain rfl:=so hh
  exact RetOk.mk' (rs:=[.cell 4 32,.cell 5 33]) [] z (.inl z) (RVs.agg jw fB z (i:=0) z z (RVs.one Ic z (i:=1) z z RVs.nil)) (List.nil_sublist _) ⟨a129_1,c129_2,a129_4,c129_5,a129_7,c129_8,a129_10,c129_11,z,f129_3,f129_6,f129_9,f129_12,z⟩
 dsimp only [rV]at hh
 refine ν z (YW (Di_ (x0:=(⟨x0.arcs,x0.ends,x0.most,x0.rows,x0.places,(⟨v16r.1,x0.q.next,x0.q.outs,x0.q.fin,x0.q.tail⟩:Seq)⟩:Maker)) hgl aO eP zf0_10 zf0_15 zf0_19 hr127_3 u30) z z Om z z z z ?_)
 rintro _ τ134 _ rH ⟨a134_1,c134_2,z134_3,b134_5,rfl,zf134_4,rfl⟩
 replace aO:=aO.mono rH
 replace eP:=eP.mono rH
 replace zf0_15:=zf0_15.mono rH
 replace zf0_19:=zf0_19.mono rH
 replace hgl:=hgl.mono rH
 have zf134_4b:=zf134_4.length
 refine ε (θ (ξ (ψ z z (ε (υ (TC.iE (α:=((List (List Tip))×(FM T_1 Int)×bW×fJ×B_1×aB×Nat)×((Option Addr)×Nat×(List (List Tip×(aC 2 dD gQ).P))×Nat×(Option Addr)×Nat×(List (ak×(aC 1 aF bn).P))×(Option Addr)×Nat×(List (aB×(aC 1 aI bF).P))×(Option Addr)×Nat×(Option Addr)×Nat×aj)) (rgs [(8,1),(30,12)]) (λg=>[(8,.int .i64 ((g.1.2.2.2.2.2.2:Nat):Int))]) (λg=>[κ b_ #[.slice aA x0.arcs.length ay,.slice jr x0.ends.length jm,.int .i64 x0.most,.slice g.2.1 g.1.1.length g.2.2.1,.map (some g.2.2.2.2.1),.string (bs v16r.1),.slice g.2.2.2.2.2.1 g.1.2.2.1.length g.2.2.2.2.2.2.1,.slice g.2.2.2.2.2.2.2.2.1 g.1.2.2.2.1.length g.2.2.2.2.2.2.2.2.2.1,.slice g.2.2.2.2.2.2.2.2.2.2.2.1 g.1.2.2.2.2.1.length g.2.2.2.2.2.2.2.2.2.2.2.2.1,.slice g.2.2.2.2.2.2.2.2.2.2.2.2.2.1 g.1.2.2.2.2.2.1.length g.2.2.2.2.2.2.2.2.2.2.2.2.2.2.1] pq,φ 22 1 (aC 2 dD gQ).en (.slice g.2.1 g.1.1.length g.2.2.1) g.2.2.2.1,Res.mapB l7 nR (some g.2.2.2.2.1) g.1.2.1,φ 86 1 (aC 1 aF bn).en (.slice g.2.2.2.2.2.1 g.1.2.2.1.length g.2.2.2.2.2.2.1) g.2.2.2.2.2.2.2.1,φ 30 1 (aC 1 aI bF).en (.slice g.2.2.2.2.2.2.2.2.1 g.1.2.2.2.1.length g.2.2.2.2.2.2.2.2.2.1) g.2.2.2.2.2.2.2.2.2.2.1,φ 4 1 eq_ (.slice g.2.2.2.2.2.2.2.2.2.2.2.1 g.1.2.2.2.2.1.length g.2.2.2.2.2.2.2.2.2.2.2.2.1) g.1.2.2.2.2.1,φ 9 1 aI (.slice g.2.2.2.2.2.2.2.2.2.2.2.2.2.1 g.1.2.2.2.2.2.1.length g.2.2.2.2.2.2.2.2.2.2.2.2.2.2.1) g.1.2.2.2.2.2.1,κ qo #[.string (bs ([]:T_1)),bM,bM,bM,bM] 32,κ Y7 #[.int .i64 0] 33]) (λg=>g.2.2.2.2.2.2.2.2.2.2.2.2.2.2.2) (λg=>bC (λq:(List (List Tip))×(FM T_1 Int)×bW×fJ×B_1×aB×Nat=>MG x0 v16r q.1 q.2.1 q.2.2.1 q.2.2.2.1 q.2.2.2.2.1 q.2.2.2.2.2.1 q.2.2.2.2.2.2) g.1=some r/\ZOk g.2.2.2.2.2.2.2.2.2.2.2.2.2.2.2 (aC 2 dD gQ) g.2.2.2.1 g.1.1/\ZOk g.2.2.2.2.2.2.2.2.2.2.2.2.2.2.2 (aC 1 aF bn) g.2.2.2.2.2.2.2.1 g.1.2.2.1/\ZOk g.2.2.2.2.2.2.2.2.2.2.2.2.2.2.2 (aC 1 aI bF) g.2.2.2.2.2.2.2.2.2.2.1 g.1.2.2.2.1/\aj.le τ134 g.2.2.2.2.2.2.2.2.2.2.2.2.2.2.2) (λg=>fZ (λq:(List (List Tip))×(FM T_1 Int)×bW×fJ×B_1×aB×Nat=>MG x0 v16r q.1 q.2.1 q.2.2.1 q.2.2.2.1 q.2.2.2.2.1 q.2.2.2.2.2.1 q.2.2.2.2.2.2) g.1) ((v30r.2.rows,v30r.2.places,x0.q.next,x0.q.outs,x0.q.fin,x0.q.tail,0),(a134_1,c134_2,z134_3,b134_5,a0_12,c0_13,z0_14,a0_16,c0_17,z0_18,a0_20,c0_21,a0_22,c0_23,τ134)) (Θ [7,8,8,8,8,8,8,8,8] 9) z (by repeat (first|exact trivial|refine ⟨z,?_⟩)) ⟨hh,zf134_4,zf0_15,zf0_19,(aj.le.refl _)⟩ (λg1 j1 hg1=> ?_)))))))
 obtain ⟨⟨Jy,OZ,l9,nO,Hu,Ht,JA⟩,⟨a202,c203,z204,b208,x9,c212,z213,tq,c218,z219,Zg,YM,a227,c228,τ230⟩⟩:=g1
 obtain ⟨hh,uO,iW,nK,xC⟩:=hg1
 try dsimp only at uO
 try dsimp only at iW
 try dsimp only at nK
 dsimp only at xC
 replace aO:=aO.mono xC
 replace eP:=eP.mono xC
 replace hgl:=hgl.mono xC
 try dsimp only
 obtain ⟨z1,hh,hR1⟩:=iq hh
 dsimp only [MG]at hh
 have zf205b:=uO.length
 have zf214b:=iW.length
 have zf220b:=nK.length
 refine χ (i:=1) z (λ_ hb232 _=> ?_)
 refine χ (i:=3) z (λ_ hb233 _=> ?_)
 refine χ (i:=4) z (λ_ hb234 _=> ?_)
 refine χ (i:=5) z (λ_ UR _=> ?_)
 refine χ (i:=6) z (λ_ GH _=> ?_)
 refine θ (ξ (ψ z z (TL.l z z (ω z (nH z z) (ω z (aU z rr_ z) (ω z (bg z PZ z (i:=0) z z) (ω z (lenC z underlying72 z) (ω z (OpVal.lss z z z) (ε (TC.cD z hh (λLh hh=> ?_) (λLh hh=> ?_)))))))))))
 ·refine ι (S.n (θ (υ (η (TL.l z z (ψ z z (ζ 6 z z (ζ 6 z z (ζ 6 z z (ζ 6 z z (ζ 6 z z (ζ 6 z z (ζ 6 z z ?_)))))))))))))
  obtain ⟨v41,MS,hh⟩:=dJ hh
  rcases v41 with v41k|v41r
  ·dsimp only [rV]at hh
   refine TL.PV z (tX.l (F1_ (x0:=(⟨x0.arcs,x0.ends,x0.most,Jy,OZ,(⟨v16r.1,l9,nO,Hu,Ht⟩:Seq)⟩:Maker)) hgl aO eP uO iW nK MS)) z z pf90 z z (λτ238 um=> ?_)
   replace aO:=aO.mono um
   replace eP:=eP.mono um
   replace hgl:=hgl.mono um
   replace uO:=uO.mono um
   replace iW:=iW.mono um
   replace nK:=nK.mono um
   replace hh:=dI hR1 hh
   obtain ⟨v70,u70,hh⟩:=dJ hh
   refine .inr ⟨_,z,_,Θ [1,1] 2,(Fv_ u70).mono ?_⟩
   rintro _ τ239 _ uj ⟨a239_1,c239_2,a239_4,c239_5,a239_7,c239_8,a239_10,c239_11,rfl,f239_3,f239_6,f239_9,f239_12,rfl⟩
   replace aO:=aO.mono uj
   replace eP:=eP.mono uj
   replace hgl:=hgl.mono uj
   replace uO:=uO.mono uj
   replace iW:=iW.mono uj
   replace nK:=nK.mono uj
   have f239_3b:=f239_3.big
   have f239_6b:=f239_6.big
   have f239_9b:=f239_9.rv.big
   have f239_12b:=f239_12.rv.big
   obtain rfl:=so hh
   exact RetOk.mk' (rs:=[.cell 4 32,.cell 5 33]) [] z (.inl z) (RVs.agg jw fB z (i:=0) z z (RVs.one Ic z (i:=1) z z RVs.nil)) (List.nil_sublist _) ⟨a239_1,c239_2,a239_4,c239_5,a239_7,c239_8,a239_10,c239_11,z,f239_3,f239_6,f239_9,f239_12,z⟩
  dsimp only [rV]at hh
  refine ν z (YW (F1_ (x0:=(⟨x0.arcs,x0.ends,x0.most,Jy,OZ,(⟨v16r.1,l9,nO,Hu,Ht⟩:Seq)⟩:Maker)) hgl aO eP uO iW nK MS) z z pf90 z z z z ?_)
  rintro _ τ244 _ Eo ⟨a244_1,c244_2,z244_3,b244_5,a244_6,c244_7,z244_8,a244_10,c244_11,z244_12,a244_14,c244_15,a244_16,c244_17,rfl,zf244_4,zf244_9,zf244_13,rfl⟩
  replace iW:=iW.mono Eo
  replace nK:=nK.mono Eo
  have zf244_4b:=zf244_4.length
  have zf244_9b:=zf244_9.length
  have zf244_13b:=zf244_13.length
  refine TL.nil (B.n (S.n (η (ψ z z (ω z (OpVal.succ z z z (by omega)) (ψ z z (ε ?_)))))))
  obtain ⟨hh,Xp⟩:=dL hR1 hh
  exact lf ((v41r.rows,v41r.places,v41r.q.next,v41r.q.outs,v41r.q.fin,v41r.q.tail,(JA+1)),(a244_1,c244_2,z244_3,b244_5,a244_6,c244_7,z244_8,a244_10,c244_11,z244_12,a244_14,c244_15,a244_16,c244_17,τ244)) Xp ⟨hh,zf244_4,zf244_9,zf244_13,(xC.trans Eo)⟩ (Θ [8,8,8,8,8,8,8,8,8] 9)
 refine TC.exit (S.x (S.x ?_))
 replace hh:=dI hR1 hh
 refine Δ (S.n (ξ (TL.l z z (ω z (nH z z) (ω z (aU z MZ z) (ω z (bg_ z jw fB z (i:=0) z z z) (ζ 7 z z (ν z (storeAll z fB z z z z z z ?_)))))))))
 refine ζ 8 z z (ν z (cg_ z VU z z z z z ?_))
 refine ε (TC.front 5 z z (TC.LV iW (λτ254 Yh sQ=> ?_)))
 replace nK:=nK.mono Yh
 have hr252b:=sQ.big
 refine TC.front 5 z z (TC.LV nK (λτ257 Yg wS=> ?_))
 replace sQ:=sQ.mono Yg
 have hr255b:=wS.big
 refine TC.front 5 z z (TC.og iQ (λτ260 lU BG=> ?_))
 replace sQ:=sQ.mono lU
 replace wS:=wS.mono lU
 have hr258b:=BG.rv.big
 refine TC.front 5 z z (TC.og bF (λτ263 jl JZ=> ?_))
 replace sQ:=sQ.mono jl
 replace wS:=wS.mono jl
 replace BG:=BG.mono jl
 have hr261b:=JZ.rv.big
 refine TC.front 1 z z ?_
 obtain ⟨v71,u71,hh⟩:=dJ hh
 refine TC.ret (.inl ⟨.inl z,_,Sub.pre 2 z,(Gu_ sQ wS BG JZ u71).mono ?_⟩)
 rintro _ _ _ hle264 ⟨rfl,rfl,rfl⟩
 obtain rfl:=so hh
 exact RetOk.mk' (rs:=[.cell 4 32,.cell 5 33]) [] z (.inl z) (RVs.agg jw fB z (i:=0) z z (RVs.one Ic z (i:=1) z z RVs.nil)) (List.nil_sublist _) ⟨x9,c212,tq,c218,Zg,YM,a227,c228,z,sQ,wS,BG,JZ,z⟩
def MC(v19:Fst×Int)(dF:List (List Arc))(x1:Int)(kK:fJ)(iC:Nat):Option ((fJ×Nat)⊕(Seq×Int)):=
 aQ (decide ((iC:Int)<((v19.1.ends.length:Nat):Int))) (grd (0<=((nth v19.1.ends iC aG).state)/\((nth v19.1.ends iC aG).state)<(kK.length:Int)) (grd (((nth kK (((nth v19.1.ends iC aG).state).toNat) []).length+[(nth v19.1.ends iC aG).out].length) * 16<=140737488355328) (grd (0<=((nth v19.1.ends iC aG).state)/\((nth v19.1.ends iC aG).state)<(kK.length:Int)) (nxt ((kK.set (((nth v19.1.ends iC aG).state).toNat) ((nth kK (((nth v19.1.ends iC aG).state).toNat) [])++[(nth v19.1.ends iC aG).out])),(iC+1)))))) (fin (bnd (Eb_ (⟨dF,kK,x1,([]:List (List Tip)),(FM.emp:FM T_1 Int),(⟨([]:T_1),([]:bW),([]:fJ),([]:B_1),([]:aB)⟩:Seq)⟩:Maker) v19.1) (λVF=>some (VF.1,VF.2))))
def Qe(v19:Fst×Int)(x1:Int)(dF:List (List Arc))(fM:Nat):Option (((List (List Arc))×Nat)⊕(Seq×Int)):=
 aQ (decide ((fM:Int)<((v19.1.arcs.length:Nat):Int))) (grd (0<=((nth v19.1.arcs fM aZ).frm)/\((nth v19.1.arcs fM aZ).frm)<(dF.length:Int)) (grd (((nth dF (((nth v19.1.arcs fM aZ).frm).toNat) []).length+[(nth v19.1.arcs fM aZ)].length) * 72<=140737488355328) (grd (0<=((nth v19.1.arcs fM aZ).frm)/\((nth v19.1.arcs fM aZ).frm)<(dF.length:Int)) (nxt ((dF.set (((nth v19.1.arcs fM aZ).frm).toNat) ((nth dF (((nth v19.1.arcs fM aZ).frm).toNat) [])++[(nth v19.1.arcs fM aZ)])),(fM+1)))))) (fin (bC (λq:fJ×Nat=>MC v19 dF x1 q.1 q.2) ((replicate v19.1.states.toNat ([]:aB)),0)))
def E5_(v19:Fst×Int)(x1:Int):Option (Seq×Int):=
 bC (λq:(List (List Arc))×Nat=>Qe v19 x1 q.1 q.2) ((replicate v19.1.states.toNat ([]:List Arc)),0)
def Gg_(x0:Fst)(x1:Int):Option (Seq×Int):=
 bnd (Zr x0) (λv5=>aQ (decide (v5≠0)) (some ((⟨([]:T_1),([]:bW),([]:fJ),([]:B_1),([]:aB)⟩:Seq),1)) (aQ (decide (x1<1)) (some ((⟨([]:T_1),([]:bW),([]:fJ),([]:B_1),([]:aB)⟩:Seq),1)) (aQ (decide (1024<x1)) (some ((⟨([]:T_1),([]:bW),([]:fJ),([]:B_1),([]:aB)⟩:Seq),1)) (bnd (Fg_ x0) (λv19=>aQ (decide (v19.2≠0)) (some ((⟨([]:T_1),([]:bW),([]:fJ),([]:B_1),([]:aB)⟩:Seq),v19.2)) (grd (0<=v19.1.states/\24 * v19.1.states.toNat<=281474976710656) (grd (0<=v19.1.states/\24 * v19.1.states.toNat<=281474976710656) (E5_ v19 x1))))))))
def Ir_(σ:aj)(r:Seq×Int):Value->aj->List Res->Prop:=λv σ' H'=>
 ∃a1 c1 a2 c2 a3 c3 a4 c4,v= .tuple #[.agg (qF r.1 a1 c1 a2 c2 a3 c3 a4 c4),.int .i64 r.2]/\RZ σ' (aC 1 aF bn) (.slice a1 r.1.next.length c1) r.1.next/\RZ σ' (aC 1 aI bF) (.slice a2 r.1.outs.length c2) r.1.outs/\dH σ' eq_ a3 c3 r.1.fin/\dH σ' aI a4 c4 r.1.tail/\H'=[]
theorem Ic_{σ:aj}{x0:Fst}{x1:Int}(hgl:Dx σ 1 2)(au:RS σ 2 dD (.slice aN x0.starts.length aK) x0.starts)(aV:RS σ 2 dD (.slice aA x0.ends.length aY) x0.ends)(aS:RS σ 8 kC (.slice aW x0.arcs.length ay) x0.arcs){r:Seq×Int}(hh:Gg_ x0 x1=some r):
  Con prog 14 #[.agg (oN x0 aN aK aA aY aW ay),.int .i64 x1] σ [] (Ir_ σ r):=by
 dsimp only [Gg_]at hh
 have f0_0b:=au.rv.big
 have f0_1b:=aV.rv.big
 have f0_2b:=aS.rv.big
 refine Con.mk (n:=107) Tryz.func14 z z z (λw0=> ?_)
 refine ξ (ν z (boxA z z z z (λbG=> ?_)))
 refine ν z (OpOk.alloc z nD z z (λeY=> ?_))
 refine ψ z z (ε (θ (ξ (ω z (lG z Io Ar z (i:=1) z z) ?_))))
 obtain ⟨v5,u5,hh⟩:=dJ hh
 refine ν z (kD (Fw_ (x0:=x0) au aV aS u5) z z V_ z z z ?_)
 refine ω z (OpVal.neq z z z) (TL.j z z (TL.split 15 z (λdM=> ?_) (λdM=> ?_)))
 ·replace hh:=ig dM hh
  replace dM:=jk dM
  refine π z (π z (ω z (dQ z z z) (TL.j z z (π z (π z (ω z (dQ z z z) (ε (TC.t z (ξ (ω z (ny z wH nD z) (ν z (storeAll z fB z z z z z z ?_))))))))))))
  refine ψ z z (ε (TC.rt 1 (S.r ?_)))
  obtain rfl:=so hh
  exact ro [] z (RVs.agg jw fB z (i:=0) z z (RVs.tmp z RVs.nil)) ⟨none,0,none,0,none,0,none,0,z,(RZ.nilF _ (aC 1 aF bn)),(RZ.nilF _ (aC 1 aI bF)),(RS.nilF _ eq_ iQ),(RS.nilF _ aI bF),z⟩
 replace hh:=iw dM hh
 replace dM:=jy dM
 refine Ψ z (cO (.inl z) z) (Ψ z (OpVal.lss z z z) (ω z (dU z z z) (TL.j z z (TL.split 19 z (λdW=> ?_) (λdW=> ?_)))))
 ·replace hh:=ig dW hh
  replace dW:=jk dW
  refine π z (π z (ω z (dQ z z z) (ε (TC.t z (ξ (ω z (ny z wH nD z) (ν z (storeAll z fB z z z z z z ?_))))))))
  refine ψ z z (ε (TC.rt 1 (S.r ?_)))
  obtain rfl:=so hh
  exact ro [] z (RVs.agg jw fB z (i:=0) z z (RVs.tmp z RVs.nil)) ⟨none,0,none,0,none,0,none,0,z,(RZ.nilF _ (aC 1 aF bn)),(RZ.nilF _ (aC 1 aI bF)),(RS.nilF _ eq_ iQ),(RS.nilF _ aI bF),z⟩
 replace hh:=iw dW hh
 replace dW:=jy dW
 refine Ψ z (cO (.inl z) z) (Ψ z (OpVal.gtr z z z) (ω z (dU z z z) (ε (TC.cD z hh (λdP hh=> ?_) (λdP hh=> ?_)))))
 ·refine ξ (ω z (ny z wH nD z) (ν z (storeAll z fB z z z z z z ?_)))
  refine ψ z z (ε (TC.rt 1 (S.r ?_)))
  obtain rfl:=so hh
  exact ro [] z (RVs.agg jw fB z (i:=0) z z (RVs.tmp z RVs.nil)) ⟨none,0,none,0,none,0,none,0,z,(RZ.nilF _ (aC 1 aF bn)),(RZ.nilF _ (aC 1 aI bF)),(RS.nilF _ eq_ iQ),(RS.nilF _ aI bF),z⟩
 refine ι (S.n (ξ (ω z (lG z Io Ar z (i:=1) z z) ?_)))
 obtain ⟨v19,yh,hh⟩:=dJ hh
 refine ν z (OpOk.call (Hk_ (x0:=x0) au aV aS yh) z z pf44 z z z z ?_)
 rintro _ τ108 _ pX ⟨a108_1,c108_1,a108_2,c108_2,a108_3,c108_3,rfl,hr108_0,hr108_1,hr108_2,rfl⟩
 replace hgl:=hgl.mono pX
 have hr108_0b:=hr108_0.rv.big
 have hr108_1b:=hr108_1.rv.big
 have hr108_2b:=hr108_2.rv.big
 refine ω z (vS (.inl z) z) (ω z (OpVal.extract z z z) (ω z (OpVal.extract z z z) (ζ 1 z z (ν z (storeAll z Ar z z z z z z ?_)))))
 refine ψ z z (ε (θ (ξ (ψ z z (ω z (OpVal.neq z z z) (ε (TC.cD z hh (λlY hh=> ?_) (λlY hh=> ?_))))))))
 ·refine ξ (ω z (ny z wH nD z) (ψ z z (ζ 1 z z (ν z (storeAll z fB z z z z z z ?_)))))
  refine ψ z z (ε (TC.rt 1 (S.r ?_)))
  obtain rfl:=so hh
  exact ro [] z (RVs.agg jw fB z (i:=0) z z (RVs.tmp z RVs.nil)) ⟨none,0,none,0,none,0,none,0,z,(RZ.nilF _ (aC 1 aF bn)),(RZ.nilF _ (aC 1 aI bF)),(RS.nilF _ eq_ iQ),(RS.nilF _ aI bF),z⟩
 refine ι (S.n (ξ (ψ z z (ν z (bw_ (enc:=l7) (encV:=nR) z z z (λb110=> ?_))))))
 refine ω z (ny z pl74 ze74 z) (ν z (boxA z z z z (λqo=> ?_)))
 refine TL.l z z (ε (TC.cutG (α:=(Unit)×((Option Addr)×Nat×(Option Addr)×Nat)) (rgs [(37,12)]) (λg=>[]) (λg=>[κ bG (oN v19.1 a108_1 c108_1 a108_2 c108_2 a108_3 c108_3) 25,κ eY #[.string (bs ([]:T_1)),bM,bM,bM,bM] 32,κ qo #[.slice g.2.1 ((replicate v19.1.states.toNat ([]:List Arc)).length) g.2.2.1,.slice g.2.2.2.1 ((replicate v19.1.states.toNat ([]:aB)).length) g.2.2.2.2,.int .i64 x1,bM,.map (some b110),.string (bs ([]:T_1)),bM,bM,bM,bM] 74,Res.nest 23 66 8 kC (.slice g.2.1 (replicate v19.1.states.toNat ([]:List Arc)).length g.2.2.1) (replicate v19.1.states.toNat (oq:NP Arc)),Res.nest 30 9 1 aI (.slice g.2.2.2.1 (replicate v19.1.states.toNat ([]:aB)).length g.2.2.2.2) (replicate v19.1.states.toNat (oq:NP T_1)),Res.mapB l7 nR (some b110) (FM.emp:FM T_1 Int)]) (λg=>τ108) (λg=>E5_ v19 x1=some r/\Zn (replicate v19.1.states.toNat (oq:NP Arc)) (replicate v19.1.states.toNat ([]:List Arc))/\Zn (replicate v19.1.states.toNat (oq:NP T_1)) (replicate v19.1.states.toNat ([]:aB))) ?_ (λg j hg=> ?_)))
 ·skip
  obtain ⟨u40,hh⟩:=aP hh
  obtain ⟨MR,hh⟩:=aP hh
  refine TC.PS (Hr:=[Res.mapB l7 nR (some b110) (FM.emp:FM T_1 Int),κ bG (oN v19.1 a108_1 c108_1 a108_2 c108_2 a108_3 c108_3) 25,κ eY #[.string (bs ([]:T_1)),bM,bM,bM,bM] 32]) (λr hr=>qy [1,2,3] z hr) [] (by kernel_rfl) (TA.a 0 z (L9 (.inl z) z) z (TA.a 1 z (L9 (.inl z) z) z (TA.a 2 z (aU z EO z) z (TA.b 3 z (bg z fC z (i:=1) z z) z (TA.a 5 z (aU z EO z) z (TA.b 6 z (bg z fC z (i:=1) z z) z ?_))))))
  refine TA.actN [4,7] (by kernel_rfl) (an rfl rfl (mQ (q:=v19.1.states.toNat) (E:=66) (size:=8) (enc:=kC) rfl underlying71 NU by23 ze23 rfl rfl (vN u40.1) (vN u40.1) (by omega) (by decide) rfl (λa130 c131 Rx=>(k2 ?_))) (an rfl rfl (mQ (q:=v19.1.states.toNat) (E:=9) (size:=1) (enc:=aI) rfl mY nC RJ Hg rfl rfl (vN MR.1) (vN MR.1) (by omega) (by decide) rfl (λFa EX zf136=>(k2 ?_))) (True.intro)))
  ·skip
   refine TA.a 8 z (nH z z) z (TA.a 9 z (aU z rc_ z) z ?_)
   refine TA.actN [7,10] (by kernel_rfl) (an rfl rfl (mQ (q:=v19.1.states.toNat) (E:=9) (size:=1) (enc:=aI) rfl mY nC RJ Hg rfl rfl (vN MR.1) (vN MR.1) (by omega) (by decide) rfl (λa138 c139 sF=>(k3 ?_))) (an rfl rfl (OpOk.front 1 rfl rfl (f_ rfl VT rfl rfl rfl rfl rfl (k2 ?_))) (True.intro)))
   ·skip
    refine TA.front 2 z z (TA.ac 10 z (f_ z VT z z z z z (k3 ?_)))
    refine TA.a 11 z (nH z z) z (TA.a 12 z (aU z ZK z) z (TA.ac 13 z (f_ z RN z z z z z (k3 ?_))))
    exact TA.dn (S.n (cf ((),(a130,c131,a138,c139)) ⟨hh,Rx,sF⟩ (Θ [3,2,3,3,5,5] 6)))
   skip
   refine TA.ac 7 rfl (mQ (q:=v19.1.states.toNat) (E:=9) (size:=1) (enc:=aI) rfl mY nC RJ Hg rfl rfl (vN MR.1) (vN MR.1) (by omega) (by decide) rfl (λZm c143 zf144=>(k3 ?_)))
   refine TA.a 11 z (nH z z) z (TA.a 12 z (aU z ZK z) z (TA.front 1 z z (TA.ac 13 z (f_ z RN z z z z z (k3 ?_)))))
   exact TA.dn (S.n (cf ((),(a130,c131,Zm,c143)) ⟨hh,Rx,zf144⟩ (Θ [3,2,3,3,5,5] 6)))
  skip
  refine TA.ac 4 rfl (mQ (q:=v19.1.states.toNat) (E:=66) (size:=8) (enc:=kC) rfl underlying71 NU by23 ze23 rfl rfl (vN u40.1) (vN u40.1) (by omega) (by decide) rfl (λa146 YT zf148=>(k3 ?_)))
  refine TA.a 8 z (nH z z) z (TA.a 9 z (aU z rc_ z) z (TA.front 2 z z (TA.ac 10 z (f_ z VT z z z z z (k3 ?_)))))
  refine TA.a 11 z (nH z z) z (TA.a 12 z (aU z ZK z) z (TA.ac 13 z (f_ z RN z z z z z (k3 ?_))))
  exact TA.dn (S.n (cf ((),(a146,YT,Fa,EX)) ⟨hh,zf148,zf136⟩ (Θ [3,3,3,3,5,5] 6)))
 skip
 obtain ⟨_,⟨Ak,c116,a119,qE⟩⟩:=g
 obtain ⟨hh,Fe,lK⟩:=hg
 try dsimp only at Fe lK ⊢
 dsimp only [E5_]at hh
 have zf117b:=Fe.len
 have zf121b:=lK.len
 refine TC.know (nU (q:=3) z Fe) (λ⟨_,hb150⟩=> ?_)
 refine TC.know (nU (q:=4) z lK) (λ⟨_,U2⟩=> ?_)
 refine θ (ξ (ω z (aU z Td z) (ω z (bg z MO z (i:=0) z z) (ω z (lenC z qw z) (ψ z z (ε (υ (TC.iE (α:=((List (List Arc))×Nat)×((List (NP Arc)))) (rgs [(9,1),(52,23)]) (λg=>[(52,.int .i64 ((g.1.2:Nat):Int))]) (λg=>[κ bG (oN v19.1 a108_1 c108_1 a108_2 c108_2 a108_3 c108_3) 25,κ eY #[.string (bs ([]:T_1)),bM,bM,bM,bM] 32,κ qo #[.slice Ak ((replicate v19.1.states.toNat ([]:List Arc)).length) c116,.slice a119 ((replicate v19.1.states.toNat ([]:aB)).length) qE,.int .i64 x1,bM,.map (some b110),.string (bs ([]:T_1)),bM,bM,bM,bM] 74,Res.nest 23 66 8 kC (.slice Ak (replicate v19.1.states.toNat ([]:List Arc)).length c116) g.2,Res.nest 30 9 1 aI (.slice a119 (replicate v19.1.states.toNat ([]:aB)).length qE) (replicate v19.1.states.toNat (oq:NP T_1)),Res.mapB l7 nR (some b110) (FM.emp:FM T_1 Int)]) (λg=>τ108) (λg=>bC (λq:(List (List Arc))×Nat=>Qe v19 x1 q.1 q.2) g.1=some r/\g.1.1.length=(replicate v19.1.states.toNat ([]:List Arc)).length/\Zn g.2 g.1.1/\Zn (replicate v19.1.states.toNat (oq:NP T_1)) (replicate v19.1.states.toNat ([]:aB))) (λg=>fZ (λq:(List (List Arc))×Nat=>Qe v19 x1 q.1 q.2) g.1) (((replicate v19.1.states.toNat ([]:List Arc)),0),(replicate v19.1.states.toNat (oq:NP Arc))) (Θ [5,5,5,5,5,5] 6) z (by repeat (first|exact trivial|refine ⟨z,?_⟩)) ⟨hh,z,Fe,lK⟩ (λg1 j1 hg1=> ?_)))))))))
 obtain ⟨⟨dF,fM⟩,z168⟩:=g1
 obtain ⟨hh,Gj,iY,kF⟩:=hg1
 try dsimp only at Gj iY kF ⊢
 obtain ⟨z1,hh,hR1⟩:=iq hh
 dsimp only [Qe]at hh
 have zf169b:=iY.len
 have zf170b:=kF.len
 refine TC.know (nU (q:=3) z iY) (λ⟨_,hb172⟩=> ?_)
 refine TC.know (nU (q:=4) z kF) (λ⟨_,hb173⟩=> ?_)
 refine ξ (ω z (OpVal.lss z z z) (ε (θ (TC.cD z hh (λh174 hh=> ?_) (λh174 hh=> ?_)))))
 ·refine ι (S.n (θ (υ (ξ (ω z (bT z qw nY z z hr108_2.rv.sl (by omega)) (ω z (Ie aZ z Ji nY z hr108_2 (by omega) (by omega)) (ν z (OpOk.alloc z Au z z (λH_=> ?_)))))))))
  refine ν z (storeAll z nY z z z z z z ?_)
  refine ε ?_
  obtain ⟨u71,hh⟩:=aP hh
  obtain ⟨u75,hh⟩:=aP hh
  obtain ⟨MP,hh⟩:=aP hh
  refine TC.PS (Hr:=[κ H_ #[.int .i64 ((nth v19.1.arcs fM aZ).frm),.int .i64 ((nth v19.1.arcs fM aZ).to),.int .u64 ((((nth v19.1.arcs fM aZ).set).a:Nat):Int),.int .u64 ((((nth v19.1.arcs fM aZ).set).b:Nat):Int),.int .u64 ((((nth v19.1.arcs fM aZ).set).c:Nat):Int),.int .u64 ((((nth v19.1.arcs fM aZ).set).d:Nat):Int),.string (bs ((nth v19.1.arcs fM aZ).out)),.bool ((nth v19.1.arcs fM aZ).copy)] 66,κ bG (oN v19.1 a108_1 c108_1 a108_2 c108_2 a108_3 c108_3) 25,κ eY #[.string (bs ([]:T_1)),bM,bM,bM,bM] 32,κ qo #[.slice Ak ((replicate v19.1.states.toNat ([]:List Arc)).length) c116,.slice a119 ((replicate v19.1.states.toNat ([]:aB)).length) qE,.int .i64 x1,bM,.map (some b110),.string (bs ([]:T_1)),bM,bM,bM,bM] 74,Res.nest 30 9 1 aI (.slice a119 (replicate v19.1.states.toNat ([]:aB)).length qE) (replicate v19.1.states.toNat (oq:NP T_1)),Res.mapB l7 nR (some b110) (FM.emp:FM T_1 Int)]) (λr hr=>qy [0,1,2,3,5,6] z hr) [] (by kernel_rfl) (TA.a 0 z (L9 (.inl z) z) z (TA.a 1 z (nH z z) z (TA.a 2 z (aU z rc_ z) z (TA.b 3 z (bg z Y_ z (i:=3) z z) z (TA.a 4 z (aU z Pm z) z (TA.b 5 z (bg z fC z (i:=0) z z) z (TA.a 6 z (L9 (.inl z) z) z (TA.a 7 z (nH z z) z (TA.a 8 z (aU z rc_ z) z (TA.b 9 z (bg z Y_ z (i:=3) z z) z (TA.a 10 z (aU z Pm z) z (TA.b 11 z (bg z fC z (i:=0) z z) z (TA.know (nU (q:=4) z iY) (λ⟨hs188,hs188b⟩=> ?_))))))))))))))
  refine TA.b 12 z (OpVal.index z underlying71 NU z z hs188 u71.1 u71.2) z (TA.b 14 z (lG z Ji nY z (i:=0) z z) z ?_)
  obtain ⟨p189,TF,UF⟩:=Zn.at iY (i:=((nth v19.1.arcs fM aZ).frm).toNat) (by omega)
  refine TA.actN [13,15] (by kernel_rfl) (an z z (OpVal.ok (Dj z MO z (q:=4) z TF UF) z z ⟨(λw h=>rP (aj.le.refl _) (λr hr=>qy [0,1,2,3,5,6] z hr) w h),?_⟩) (an z z (OpOk.lit (enc:=kC) [(nth v19.1.arcs fM aZ)] z qw nY Au z z z vV (by decide) (by decide) aZ z (by decide) z (by decide) YG (λa190 c191=>⟨(λw h=>rP (aj.le.refl _) (λr hr=>qy [1,2,3,4,6,7] z hr) w h),?_⟩)) (True.intro)))
  ·skip
   refine TA.ac 15 z (OpOk.lit (enc:=kC) [(nth v19.1.arcs fM aZ)] z qw nY Au z z z vV (by decide) (by decide) aZ z (by decide) z (by decide) YG (λa193 c194=>⟨(λw h=>rP (aj.le.refl _) (λr hr=>qy [1,2,3,4,6,7] z hr) w h),?_⟩))
   refine TA.front 5 z z (TA.by (λw h=>Reach.takeN TF UF h) (TA.ac 16 z (as_ z z qw nY PN Au z z (by decide) z z z (.inr ⟨_,1,z⟩) (by simpa using u75) (by decide) (λoG c198=>(k3 ?_)))))
   refine TA.know (Nj (q:=1) z iY) (λ⟨hs199,hs199b⟩=> ?_)
   refine TA.b 17 z (OpVal.index z underlying71 NU z z hs199 MP.1 MP.2) z (TA.front 1 z z (TA.front 1 z z ?_))
   have hn201:(dF.set (((nth v19.1.arcs fM aZ).frm).toNat) ((nth dF (((nth v19.1.arcs fM aZ).frm).toNat) [])++[(nth v19.1.arcs fM aZ)])).length=(replicate v19.1.states.toNat ([]:List Arc)).length:=(fQ ..).trans Gj
   refine TA.ac 18 rfl (Nl (l':=((nth dF (((nth v19.1.arcs fM aZ).frm).toNat) [])++[(nth v19.1.arcs fM aZ)])) rfl NU rfl rfl rfl rfl rfl (by rw [iY.len];omega) iY (λdw=>(k2 ?_)))
   refine TA.dn (B.n (S.n (η (ω z (OpVal.succ z z z (by omega)) (ψ z z (ε ?_))))))
   obtain ⟨hh,XA⟩:=dL hR1 hh
   exact lf (((dF.set (((nth v19.1.arcs fM aZ).frm).toNat) ((nth dF (((nth v19.1.arcs fM aZ).frm).toNat) [])++[(nth v19.1.arcs fM aZ)])),(fM+1)),(z168.set (((nth v19.1.arcs fM aZ).frm).toNat) (((nth dF (((nth v19.1.arcs fM aZ).frm).toNat) [])++[(nth v19.1.arcs fM aZ)]),(oG,c198)))) XA ⟨hh,hn201,dw,kF⟩ (Θ [7,7,2,7,7,7] 6)
  skip
  obtain ⟨Ju,TD,UE⟩:=Zn.at iY (i:=((nth v19.1.arcs fM aZ).frm).toNat) (by omega)
  refine TA.ac 13 z (OpVal.ok (Dj z MO z (q:=5) z TD UE) z z ⟨(λw h=>rP (aj.le.refl _) (λr hr=>qy [1,2,3,4,6,7] z hr) w h),?_⟩)
  refine TA.front 5 z z (TA.by (λw h=>Reach.takeN TD UE h) (TA.ac 16 z (as_ z z qw nY PN Au z z (by decide) z z z (.inr ⟨_,1,z⟩) (by simpa using u75) (by decide) (λyI c206=>(k3 ?_)))))
  refine TA.know (Nj (q:=1) z iY) (λ⟨hs207,hs207b⟩=> ?_)
  refine TA.b 17 z (OpVal.index z underlying71 NU z z hs207 MP.1 MP.2) z (TA.front 1 z z (TA.front 1 z z ?_))
  have hn209:(dF.set (((nth v19.1.arcs fM aZ).frm).toNat) ((nth dF (((nth v19.1.arcs fM aZ).frm).toNat) [])++[(nth v19.1.arcs fM aZ)])).length=(replicate v19.1.states.toNat ([]:List Arc)).length:=(fQ ..).trans Gj
  refine TA.ac 18 rfl (Nl (l':=((nth dF (((nth v19.1.arcs fM aZ).frm).toNat) [])++[(nth v19.1.arcs fM aZ)])) rfl NU rfl rfl rfl rfl rfl (by rw [iY.len];omega) iY (λoJ=>(k2 ?_)))
  refine TA.dn (B.n (S.n (η (ω z (OpVal.succ z z z (by omega)) (ψ z z (ε ?_))))))
  obtain ⟨hh,DV⟩:=dL hR1 hh
  exact lf (((dF.set (((nth v19.1.arcs fM aZ).frm).toNat) ((nth dF (((nth v19.1.arcs fM aZ).frm).toNat) [])++[(nth v19.1.arcs fM aZ)])),(fM+1)),(z168.set (((nth v19.1.arcs fM aZ).frm).toNat) (((nth dF (((nth v19.1.arcs fM aZ).frm).toNat) [])++[(nth v19.1.arcs fM aZ)]),(yI,c206)))) DV ⟨hh,hn209,oJ,kF⟩ (Θ [7,7,2,7,7,7] 6)
 refine TC.exit (S.x (S.x ?_))
 replace hh:=dI hR1 hh
 refine Δ (S.n (θ (ξ (ω z (aU z WC z) (ω z (bg z Fj z (i:=0) z z) (ω z (lenC z kS z) (ψ z z (ε (υ (TC.iE (α:=(fJ×Nat)×((List (NP T_1)))) (rgs [(11,1),(78,24)]) (λg=>[(78,.int .i64 ((g.1.2:Nat):Int))]) (λg=>[κ bG (oN v19.1 a108_1 c108_1 a108_2 c108_2 a108_3 c108_3) 25,κ eY #[.string (bs ([]:T_1)),bM,bM,bM,bM] 32,κ qo #[.slice Ak ((replicate v19.1.states.toNat ([]:List Arc)).length) c116,.slice a119 ((replicate v19.1.states.toNat ([]:aB)).length) qE,.int .i64 x1,bM,.map (some b110),.string (bs ([]:T_1)),bM,bM,bM,bM] 74,Res.nest 23 66 8 kC (.slice Ak (replicate v19.1.states.toNat ([]:List Arc)).length c116) z168,Res.nest 30 9 1 aI (.slice a119 (replicate v19.1.states.toNat ([]:aB)).length qE) g.2,Res.mapB l7 nR (some b110) (FM.emp:FM T_1 Int)]) (λg=>τ108) (λg=>bC (λq:fJ×Nat=>MC v19 dF x1 q.1 q.2) g.1=some r/\dF.length=(replicate v19.1.states.toNat ([]:List Arc)).length/\Zn z168 dF/\g.1.1.length=(replicate v19.1.states.toNat ([]:aB)).length/\Zn g.2 g.1.1) (λg=>fZ (λq:fJ×Nat=>MC v19 dF x1 q.1 q.2) g.1) (((replicate v19.1.states.toNat ([]:aB)),0),(replicate v19.1.states.toNat (oq:NP T_1))) (Θ [5,5,5,5,5,5] 6) z (by repeat (first|exact trivial|refine ⟨z,?_⟩)) ⟨hh,Gj,iY,z,kF⟩ (λg2 j2 hg2=> ?_)))))))))))
 obtain ⟨⟨kK,iC⟩,z232⟩:=g2
 obtain ⟨hh,F9,uN,oL,jA⟩:=hg2
 try dsimp only at F9 uN oL jA ⊢
 obtain ⟨z1,hh,hR1⟩:=iq hh
 dsimp only [MC]at hh
 have zf229b:=uN.len
 have zf233b:=jA.len
 refine TC.know (nU (q:=3) z uN) (λ⟨_,UR⟩=> ?_)
 refine TC.know (nU (q:=4) z jA) (λ⟨_,GH⟩=> ?_)
 refine ξ (ω z (OpVal.lss z z z) (ε (θ (TC.cD z hh (λLh hh=> ?_) (λLh hh=> ?_)))))
 ·refine ι (S.n (θ (υ (ξ (ω z (bT z kS jQ z z hr108_1.rv.sl (by omega)) (ω z (Ie aG z DC jQ z hr108_1 (by omega) (by omega)) (ν z (OpOk.alloc z vC z z (λb238=> ?_)))))))))
  refine ν z (storeAll z jQ z z z z z z ?_)
  refine ε ?_
  obtain ⟨VL,hh⟩:=aP hh
  obtain ⟨N_,hh⟩:=aP hh
  obtain ⟨G_,hh⟩:=aP hh
  refine TC.PS (Hr:=[κ b238 #[.int .i64 ((nth v19.1.ends iC aG).state),.string (bs ((nth v19.1.ends iC aG).out))] 76,κ bG (oN v19.1 a108_1 c108_1 a108_2 c108_2 a108_3 c108_3) 25,κ eY #[.string (bs ([]:T_1)),bM,bM,bM,bM] 32,κ qo #[.slice Ak ((replicate v19.1.states.toNat ([]:List Arc)).length) c116,.slice a119 ((replicate v19.1.states.toNat ([]:aB)).length) qE,.int .i64 x1,bM,.map (some b110),.string (bs ([]:T_1)),bM,bM,bM,bM] 74,Res.nest 23 66 8 kC (.slice Ak (replicate v19.1.states.toNat ([]:List Arc)).length c116) z168,Res.mapB l7 nR (some b110) (FM.emp:FM T_1 Int)]) (λr hr=>qy [0,1,2,3,4,6] z hr) [] (by kernel_rfl) (TA.a 0 z (L9 (.inl z) z) z (TA.a 1 z (nH z z) z (TA.a 2 z (aU z ZK z) z (TA.b 3 z (bg z qx z (i:=3) z z) z (TA.a 4 z (aU z EN z) z (TA.b 5 z (bg z fC z (i:=0) z z) z (TA.a 6 z (L9 (.inl z) z) z (TA.a 7 z (nH z z) z (TA.a 8 z (aU z ZK z) z (TA.b 9 z (bg z qx z (i:=3) z z) z (TA.a 10 z (aU z EN z) z (TA.b 11 z (bg z fC z (i:=0) z z) z (TA.know (nU (q:=5) z jA) (λ⟨hs251,hs251b⟩=> ?_))))))))))))))
  refine TA.b 12 z (OpVal.index z mY nC z z hs251 VL.1 VL.2) z (TA.a 14 z (aU z Az z) z (TA.b 15 z (bg z iK z (i:=0) z z) z ?_))
  obtain ⟨p252,Tz,UD⟩:=Zn.at jA (i:=((nth v19.1.ends iC aG).state).toNat) (by omega)
  refine TA.actN [13,16] (by kernel_rfl) (an z z (OpVal.ok (Dj z mJ z (q:=5) z Tz UD) z z ⟨(λw h=>rP (aj.le.refl _) (λr hr=>qy [0,1,2,3,4,6] z hr) w h),?_⟩) (an z z (OpOk.lit (enc:=aI) [(nth v19.1.ends iC aG).out] z fF fK sG z z z bF (by decide) (by decide) ([]:T_1) z (by decide) z (by decide) qX (λa253 c254=>⟨(λw h=>rP (aj.le.refl _) (λr hr=>qy [1,2,3,4,5,7] z hr) w h),?_⟩)) (True.intro)))
  ·skip
   refine TA.ac 16 z (OpOk.lit (enc:=aI) [(nth v19.1.ends iC aG).out] z fF fK sG z z z bF (by decide) (by decide) ([]:T_1) z (by decide) z (by decide) qX (λa256 c257=>⟨(λw h=>rP (aj.le.refl _) (λr hr=>qy [1,2,3,4,5,7] z hr) w h),?_⟩))
   refine TA.front 6 z z (TA.by (λw h=>Reach.takeN Tz UD h) (TA.ac 17 z (as_ z z fF fK zo sG z z (by decide) z z z (.inr ⟨_,1,z⟩) (by simpa using N_) (by decide) (λa260 c261=>(k3 ?_)))))
   refine TA.know (Nj (q:=1) z jA) (λ⟨hs262,hs262b⟩=> ?_)
   refine TA.b 18 z (OpVal.index z mY nC z z hs262 G_.1 G_.2) z (TA.front 1 z z (TA.front 1 z z ?_))
   have hn264:(kK.set (((nth v19.1.ends iC aG).state).toNat) ((nth kK (((nth v19.1.ends iC aG).state).toNat) [])++[(nth v19.1.ends iC aG).out])).length=(replicate v19.1.states.toNat ([]:aB)).length:=(fQ ..).trans oL
   refine TA.ac 19 rfl (Nl (l':=((nth kK (((nth v19.1.ends iC aG).state).toNat) [])++[(nth v19.1.ends iC aG).out])) rfl nC rfl rfl rfl rfl rfl (by rw [jA.len];omega) jA (λIG=>(k2 ?_)))
   refine TA.dn (B.n (S.n (η (ω z (OpVal.succ z z z (by omega)) (ψ z z (ε ?_))))))
   obtain ⟨hh,Xo⟩:=dL hR1 hh
   exact lf (((kK.set (((nth v19.1.ends iC aG).state).toNat) ((nth kK (((nth v19.1.ends iC aG).state).toNat) [])++[(nth v19.1.ends iC aG).out])),(iC+1)),(z232.set (((nth v19.1.ends iC aG).state).toNat) (((nth kK (((nth v19.1.ends iC aG).state).toNat) [])++[(nth v19.1.ends iC aG).out]),(a260,c261)))) Xo ⟨hh,F9,uN,hn264,IG⟩ (Θ [7,1,7,7,7,7] 6)
  skip
  obtain ⟨p266,Tv,UC⟩:=Zn.at jA (i:=((nth v19.1.ends iC aG).state).toNat) (by omega)
  refine TA.ac 13 z (OpVal.ok (Dj z mJ z (q:=6) z Tv UC) z z ⟨(λw h=>rP (aj.le.refl _) (λr hr=>qy [1,2,3,4,5,7] z hr) w h),?_⟩)
  refine TA.front 6 z z (TA.by (λw h=>Reach.takeN Tv UC h) (TA.ac 17 z (as_ z z fF fK zo sG z z (by decide) z z z (.inr ⟨_,1,z⟩) (by simpa using N_) (by decide) (λa268 c269=>(k3 ?_)))))
  refine TA.know (Nj (q:=1) z jA) (λ⟨hs270,hs270b⟩=> ?_)
  refine TA.b 18 z (OpVal.index z mY nC z z hs270 G_.1 G_.2) z (TA.front 1 z z (TA.front 1 z z ?_))
  have hn272:(kK.set (((nth v19.1.ends iC aG).state).toNat) ((nth kK (((nth v19.1.ends iC aG).state).toNat) [])++[(nth v19.1.ends iC aG).out])).length=(replicate v19.1.states.toNat ([]:aB)).length:=(fQ ..).trans oL
  refine TA.ac 19 rfl (Nl (l':=((nth kK (((nth v19.1.ends iC aG).state).toNat) [])++[(nth v19.1.ends iC aG).out])) rfl nC rfl rfl rfl rfl rfl (by rw [jA.len];omega) jA (λIE=>(k2 ?_)))
  refine TA.dn (B.n (S.n (η (ω z (OpVal.succ z z z (by omega)) (ψ z z (ε ?_))))))
  obtain ⟨hh,Xk⟩:=dL hR1 hh
  exact lf (((kK.set (((nth v19.1.ends iC aG).state).toNat) ((nth kK (((nth v19.1.ends iC aG).state).toNat) [])++[(nth v19.1.ends iC aG).out])),(iC+1)),(z232.set (((nth v19.1.ends iC aG).state).toNat) (((nth kK (((nth v19.1.ends iC aG).state).toNat) [])++[(nth v19.1.ends iC aG).out]),(a268,c269)))) Xk ⟨hh,F9,uN,hn272,IE⟩ (Θ [7,1,7,7,7,7] 6)
 refine TC.exit (S.x (S.x ?_))
 replace hh:=dI hR1 hh
 refine Δ (S.n (ξ (TL.l z z (ω z (lG z Io Ar z (i:=0) z z) ?_))))
 rw [<-F9]
 refine ζ 3 z z (TL.Z8 (λw h=>Reach.bj_ vV uN h) (λτ276 zO FI=> ?_))
 replace hgl:=hgl.mono zO
 replace hr108_0:=hr108_0.mono zO
 replace hr108_1:=hr108_1.mono zO
 replace hr108_2:=hr108_2.mono zO
 have hr274b:=FI.big
 rw [<-oL]
 refine ζ 3 z z (TL.Z8 (λw h=>Reach.bj_ bF jA h) (λτ279 xw T_=> ?_))
 replace hgl:=hgl.mono xw
 replace hr108_0:=hr108_0.mono xw
 replace hr108_1:=hr108_1.mono xw
 replace hr108_2:=hr108_2.mono xw
 replace FI:=FI.mono xw
 have hr277b:=T_.big
 refine TL.nilS 22 1 (aC 2 dD gQ).en ?_
 have zf280:=ZOk.nil τ279 (aC 2 dD gQ)
 refine TL.nilS 86 1 (aC 1 aF bn).en ?_
 have AP:=ZOk.nil τ279 (aC 1 aF bn)
 refine TL.nilS 30 1 (aC 1 aI bF).en ?_
 have zf284:=ZOk.nil τ279 (aC 1 aI bF)
 refine TL.nilS 4 1 eq_ (TL.nilS 9 1 aI (ζ 1 z z (ζ 2 z z (ζ 3 z z (ζ 8 z z (ζ 5 z z (ζ 8 z z ?_)))))))
 obtain ⟨VF,u113,hh⟩:=dJ hh
 refine ν z (OpOk.call (G9_ (x0:=(⟨dF,kK,x1,([]:List (List Tip)),(FM.emp:FM T_1 Int),(⟨([]:T_1),([]:bW),([]:fJ),([]:B_1),([]:aB)⟩:Seq)⟩:Maker)) hgl FI T_ zf280 AP zf284 hr108_0 hr108_1 hr108_2 u113) z z pf45 z z z z ?_)
 rintro _ τ288 _ hle288 ⟨a288_1,c288_2,a288_3,c288_4,a288_5,c288_6,a288_7,c288_8,rfl,hr288_9,hr288_10,hr288_11,hr288_12,rfl⟩
 have hr288_9b:=hr288_9.big
 have hr288_10b:=hr288_10.big
 have hr288_11b:=hr288_11.rv.big
 have hr288_12b:=hr288_12.rv.big
 refine ω z (OpVal.extract z z z) (ω z (OpVal.extract z z z) (ζ 1 z z (ν z (storeAll z fB z z z z z z ?_))))
 refine ψ z z (ε (TC.rt 1 ?_))
 obtain rfl:=so hh
 exact ro [] z (RVs.agg jw fB z (i:=0) z z (RVs.tmp z RVs.nil)) ⟨a288_1,c288_2,a288_3,c288_4,a288_5,c288_6,a288_7,c288_8,z,hr288_9,hr288_10,hr288_11,hr288_12,z⟩
def Ik(x0:aB)(x1:aB)(jJ:Nat):Option ((Nat)⊕(Bool)):=
 aQ (decide ((jJ:Int)<((x0.length:Nat):Int))) (grd (jJ<x1.length) (aQ (decide ((nth x0 jJ [])≠(nth x1 jJ []))) (fin (some false)) (nxt (jJ+1)))) (fin (some true))
def Ny(x0:aB)(x1:aB):Option (Bool):=
 aQ (decide (((x0.length:Nat):Int)≠((x1.length:Nat):Int))) (some false) (bC (λq:Nat=>Ik x0 x1 q) 0)
theorem Cw_{σ:aj}{x0:aB}{x1:aB}(au:dH σ aI aN aK x0)(dN:dH σ aI jd jc x1){r:Bool}(hh:Ny x0 x1=some r):
  Con prog 27 #[.slice aN x0.length aK,.slice jd x1.length jc] σ [] (kZ (.bool r) σ):=by
 dsimp only [Ny]at hh
 have f0_0b:=au.rv.big
 have f1_0b:=dN.rv.big
 refine Con.mk (n:=26) Tryz.func27 z z z (λw0=> ?_)
 refine ξ (TL.j z z (ε (θ (ξ (Ξ z z (ω z (lenC z fF z) (Ξ z z (ω z (lenC z fF z) (ω z (OpVal.neq z z z) (ε (TC.cD z hh (λgI hh=> ?_) (λgI hh=> ?_))))))))))))
 ·refine ξ (TL.j z z (ε (TC.ret (S.r ?_))))
  obtain rfl:=so hh
  exact rq [4] ⟨z,z,z⟩
 refine ι (S.n (θ (ξ (ψ z z (ε (υ (TC.iE (α:=(Nat)×(Unit)) (rgs [(4,2),(11,15)]) (λg=>[(5,.int .i64 ((g.1:Nat):Int))]) (λg=>[]) (λg=>σ) (λg=>bC (λq:Nat=>Ik x0 x1 q) g.1=some r) (λg=>fZ (λq:Nat=>Ik x0 x1 q) g.1) (0,()) (Sub.pre 0 z) z (by repeat (first|exact trivial|refine ⟨z,?_⟩)) hh (λg1 j1 hg1=> ?_))))))))
 obtain ⟨jJ,_⟩:=g1
 have hh:=hg1;clear hg1
 try dsimp only
 obtain ⟨z1,hh,hR1⟩:=iq hh
 dsimp only [Ik]at hh
 refine θ (ξ (ψ z z (Ξ z z (ω z (lenC z fF z) (ω z (OpVal.lss z z z) (ε (TC.cD z hh (λdM hh=> ?_) (λdM hh=> ?_))))))))
 ·refine ι (S.n (θ (υ (θ ?_))))
  obtain ⟨yh,hh⟩:=aP hh
  refine TC.draw [] (by kernel_rfl) (TA.a 0 z (gK (.inl z) z) z (TA.a 1 z (cO (.inl z) z) z (TA.b 2 z (bT z fF fK z z au.rv.sl (by omega)) z (TA.b 3 z (fD ([]:T_1) z iK z au (by omega) z) z (TA.a 4 z (gK (.inl z) z) z (TA.a 5 z (cO (.inl z) z) z (TA.b 6 z (bT z fF fK z z dN.rv.sl (by omega)) z (TA.b 7 z (fD ([]:T_1) z iK z dN (by omega) z) z (TA.a 8 z (Iw z z z) z (TA.dn (S.n (TC.cD z hh (λdW hh=> ?_) (λdW hh=> ?_)))))))))))))
  ·refine ξ (TL.j z z (ε (TC.ret (B.r (S.r (S.r ?_))))))
   replace hh:=dI hR1 hh
   refine B.r (S.r ?_)
   obtain rfl:=so hh
   exact rq [4] ⟨z,z,z⟩
  refine ι (B.n (S.n (η (ψ z z (ω z (OpVal.succ z z z (by omega)) (ψ z z (ε ?_)))))))
  obtain ⟨hh,ru⟩:=dL hR1 hh
  exact lf ((jJ+1),()) ru hh (Sub.pre 0 z)
 refine TC.exit (S.x (S.x ?_))
 replace hh:=dI hR1 hh
 refine Δ (S.n (ξ (TL.j z z (ε (TC.ret ?_)))))
 obtain rfl:=so hh
 exact rq [4] ⟨z,z,z⟩
def Bu_(x0:ak)(x1:ak)(jJ:Nat):Option ((Nat)⊕(Bool)):=
 aQ (decide ((jJ:Int)<((x0.length:Nat):Int))) (grd (jJ<x1.length) (aQ (decide ((nth x0 jJ 0)≠(nth x1 jJ 0))) (fin (some false)) (nxt (jJ+1)))) (fin (some true))
def C8_(x0:ak)(x1:ak):Option (Bool):=
 aQ (decide (((x0.length:Nat):Int)≠((x1.length:Nat):Int))) (some false) (bC (λq:Nat=>Bu_ x0 x1 q) 0)
theorem Gh_{σ:aj}{x0:ak}{x1:ak}(au:dH σ aF aN aK x0)(dN:dH σ aF jd jc x1){r:Bool}(hh:C8_ x0 x1=some r):
  Con prog 52 #[.slice aN x0.length aK,.slice jd x1.length jc] σ [] (kZ (.bool r) σ):=by
 dsimp only [C8_]at hh
 have f0_0b:=au.rv.big
 have f1_0b:=dN.rv.big
 refine Con.mk (n:=26) Tryz.func52 z z z (λw0=> ?_)
 refine ξ (TL.j z z (ε (θ (ξ (Ξ z z (ω z (lenC z bY z) (Ξ z z (ω z (lenC z bY z) (ω z (OpVal.neq z z z) (ε (TC.cD z hh (λgI hh=> ?_) (λgI hh=> ?_))))))))))))
 ·refine ξ (TL.j z z (ε (TC.ret (S.r ?_))))
  obtain rfl:=so hh
  exact rq [4] ⟨z,z,z⟩
 refine ι (S.n (θ (ξ (ψ z z (ε (υ (TC.iE (α:=(Nat)×(Unit)) (rgs [(4,2),(11,15)]) (λg=>[(5,.int .i64 ((g.1:Nat):Int))]) (λg=>[]) (λg=>σ) (λg=>bC (λq:Nat=>Bu_ x0 x1 q) g.1=some r) (λg=>fZ (λq:Nat=>Bu_ x0 x1 q) g.1) (0,()) (Sub.pre 0 z) z (by repeat (first|exact trivial|refine ⟨z,?_⟩)) hh (λg1 j1 hg1=> ?_))))))))
 obtain ⟨jJ,_⟩:=g1
 have hh:=hg1;clear hg1
 try dsimp only
 obtain ⟨z1,hh,hR1⟩:=iq hh
 dsimp only [Bu_]at hh
 refine θ (ξ (ψ z z (Ξ z z (ω z (lenC z bY z) (ω z (OpVal.lss z z z) (ε (TC.cD z hh (λdM hh=> ?_) (λdM hh=> ?_))))))))
 ·refine ι (S.n (θ (υ (θ ?_))))
  obtain ⟨yh,hh⟩:=aP hh
  refine TC.draw [] (by kernel_rfl) (TA.a 0 z (gK (.inl z) z) z (TA.a 1 z (cO (.inl z) z) z (TA.b 2 z (bT z bY dh z z au.rv.sl (by omega)) z (TA.b 3 z (fD (0:Int) z fC z au (by omega) z) z (TA.a 4 z (gK (.inl z) z) z (TA.a 5 z (cO (.inl z) z) z (TA.b 6 z (bT z bY dh z z dN.rv.sl (by omega)) z (TA.b 7 z (fD (0:Int) z fC z dN (by omega) z) z (TA.a 8 z (OpVal.neq z z z) z (TA.dn (S.n (TC.cD z hh (λdW hh=> ?_) (λdW hh=> ?_)))))))))))))
  ·refine ξ (TL.j z z (ε (TC.ret (B.r (S.r (S.r ?_))))))
   replace hh:=dI hR1 hh
   refine B.r (S.r ?_)
   obtain rfl:=so hh
   exact rq [4] ⟨z,z,z⟩
  refine ι (B.n (S.n (η (ψ z z (ω z (OpVal.succ z z z (by omega)) (ψ z z (ε ?_)))))))
  obtain ⟨hh,ru⟩:=dL hR1 hh
  exact lf ((jJ+1),()) ru hh (Sub.pre 0 z)
 refine TC.exit (S.x (S.x ?_))
 replace hh:=dI hR1 hh
 refine Δ (S.n (ξ (TL.j z z (ε (TC.ret ?_)))))
 obtain rfl:=so hh
 exact rq [4] ⟨z,z,z⟩
end Go.Proofs.YtchebnpdnfhenaaGreatDoor
end

noncomputable section
namespace Go.E
open Go
abbrev Gh:=Nat->Option Addr×Nat
structure PO where
  dst:Nat
  use:List Nat
  val:List (Option Addr×Nat)->Value
  res:List (Option Addr×Nat)->List Res
  eat:List Nat
def PO.no:PO:=⟨0,[],λ_=>undef,λ_=>[],[]⟩
def po(D:List PO)(k:Nat):PO:=D.getD k PO.no
def pv(D:List PO)(k:Nat)(γ:Gh):Value:=(po D k).val ((po D k).use.map γ)
def pr(D:List PO)(k:Nat)(γ:Gh):List Res:=(po D k).res ((po D k).use.map γ)
def eaten(D:List PO)(L:Array Bool)(k:Nat):Bool:=(List.range D.length).any λi=>L.getD i false && (po D i).eat.contains k
def pick(p:Nat->Bool)(f:Nat->List Res)(n:Nat):List Res:=(List.range n).flatMap λk=>if p k=true then f k else []
def pR(D:List PO)(L:Array Bool)(γ:Gh):List Res:=pick (λk=>L.getD k false && !eaten D L k) (λk=>pr D k γ) D.length
section
variable {X:Ctx} {ops:Array Oper} {Q:QP} {e0:Env} {σ:aj} {H0:List Res} {late:List Nat} {f:Nat} {D:List PO}
structure PJ (ops:Array Oper) (e0:Env) (H0:List Res) (D:List PO) (L:Array Bool) (γ:Gh) (e:Env) (H:List Res):Prop where
  size:L.size=ops.size
  on: ∀k,k<D.length->L.getD k false=true->e (po D k).dst=pv D k γ
  off: ∀t,(∀k,k<D.length->L.getD k false=true->(po D k).dst≠t)->e t=e0 t
  rest: ∀j,D.length<=j->L.getD j false=false
  heap:H.Perm (H0++pR D L γ)
structure ChkI (ops:Array Oper) (D:List PO) (i:Nat):Prop where
  deps: ∃o,ops[i]? =some o/\ ∀e∈o.after,Region.binds .any e=true->e.on<i
  use: ∀j∈(po D i).use,j=i\/after? ops ops.size i j=true
  eat: ∀j∈(po D i).eat,j<i/\after? ops ops.size i j=true
  dst: ∀k,k<D.length->k≠i->(po D k).dst≠(po D i).dst
  sep: ∀k,k<D.length->k≠i-> ∀j∈(po D i).eat,(po D k).eat.contains j=false
  ord:(List.range D.length).filter (λk=>(po D i).eat.contains k)=(po D i).eat
end
end Go.E
end

noncomputable section
namespace Go.Proofs.YtchebnpdnfhenaaGreatDoor
open Go Go.E Go.E.OpVal Go.E.OpOk Go.Proofs.Tryz
open List (replicate)
theorem pf112:plainF Tryz.prog 112=true:=by kernel_rfl
def B1_(x0:T_1)(x1:T_1):Option (Bool):=
 grd (x0.length<=281474976710656) (grd (x1.length<=281474976710656) (aQ (decide (((x0.length:Nat):Int)<=((x1.length:Nat):Int))) (grd (0<=x0.length/\x0.length<=x1.length) (some (decide ((x1.take x0.length)=x0)))) (some false)))
theorem F6_{σ:aj}{x0:T_1}{x1:T_1}{r:Bool}(hh:B1_ x0 x1=some r):
  Con prog 112 #[.string (bs x0),.string (bs x1)] σ [] (kZ (.bool r) σ):=by
 dsimp only [B1_]at hh
 refine Con.mk (n:=18) Tryz.func112 z z z (λw0=> ?_)
 have x0b:=Hl hh
 replace hh:=Hw hh
 have x1b:=Hl hh
 replace hh:=Hw hh
 refine ξ (TL.j z z (ε (ξ (ω z (dX (.inl z) z) (ω z (rQ z kG z) (ω z (dX (.inl z) z) (ω z (rQ z kG z) (ω z (OpVal.leq z z z) (TL.j z z (TL.split 10 z (λgI=> ?_) (λgI=> ?_)))))))))))
 ·replace hh:=ig gI hh
  replace gI:=jk gI
  refine Ψ z (dX (.inl z) z) (Ψ z (dX (.inl z) z) (Ψ z (rQ z kG z) ?_))
  obtain ⟨u11,hh⟩:=aP hh
  refine Ψ z (bn_ (l:=x1) (j:=x0.length) z kG z z (by omega) (by omega)) (Ψ z (dX (.inl z) z) (Ψ z (cz_ z z z) (ω z (dQ z z z) (TL.j z z (ε (TC.ret ?_))))))
  obtain rfl:=so hh
  exact rq [4] ⟨z,z,z⟩
 replace hh:=iw gI hh
 replace gI:=jy gI
 refine π z (π z (π z (π z (π z (π z (ω z (dU z z z) (TL.j z z (ε (TC.ret ?_)))))))))
 obtain rfl:=so hh
 exact rq [4] ⟨z,z,z⟩
def Cq_(zJ:Nat)(VP:Bool):Option ((Bool×Nat)⊕((Int)⊕(T_1))):=
 nxt (VP,(zJ+1))
def Q7(x0:aB)(mZ:Int)(VQ:Bool)(zJ:Nat):Option ((Bool×Nat)⊕((Int)⊕(T_1))):=
 aQ (decide ((zJ:Int)<((x0.length:Nat):Int))) (aQ VQ (grd (0<x0.length) (grd (0<=mZ/\0<=mZ.toNat/\mZ.toNat<=(nth x0 0 []).length) (bnd (B1_ ((nth x0 0 []).take mZ.toNat) (nth x0 zJ [])) (λv30=>Cq_ zJ v30)))) (Cq_ zJ false)) (fin (aQ VQ (grd (0<x0.length) (grd (0<=mZ/\0<=mZ.toNat/\mZ.toNat<=(nth x0 0 []).length) (fin (some ((nth x0 0 []).take mZ.toNat))))) (nxt (IntKind.i64.wrap (mZ - 1)))))
def Q5(x0:aB)(mZ:Int):Option ((Int)⊕(T_1)):=
 aQ (decide (0<mZ)) (bC (λq:Bool×Nat=>Q7 x0 mZ q.1 q.2) (true,0)) (fin (some ([]:T_1)))
def Dc_(x0:aB):Option (T_1):=
 aQ (decide (((x0.length:Nat):Int)=0)) (some ([]:T_1)) (grd (0<x0.length) (bC (λq:Int=>Q5 x0 q) (((nth x0 0 []).length:Nat):Int)))
theorem Go_{σ:aj}{x0:aB}(au:dH σ aI aN aK x0){r:T_1}(hh:Dc_ x0=some r):
  Con prog 71 #[.slice aN x0.length aK] σ [] (kZ (.string (bs r)) σ):=by
 dsimp only [Dc_]at hh
 have f0_0b:=au.rv.big
 refine Con.mk (n:=42) Tryz.func71 z z z (λw0=> ?_)
 refine ξ (ω z (dX (.inr z) z) (ε (θ (ξ (Ξ z z (ω z (lenC z fF z) (ω z (OpVal.eql z z z) (ε (TC.cD z hh (λgI hh=> ?_) (λgI hh=> ?_))))))))))
 ·refine ξ (ω z (dX (.inr z) z) (ε (TC.ret (S.r ?_))))
  obtain rfl:=so hh
  exact rq [2] ⟨z,z,z⟩
 refine ι (S.n (θ (ξ (Ξ z z ?_))))
 obtain ⟨u7,hh⟩:=aP hh
 refine ω z (bT (i:=0) z fF fK z z au.rv.sl (by omega)) (ω z (fD ([]:T_1) z iK z au (by omega) z) (ω z (rQ z kG z) (ψ z z (ε (υ (TC.iE (α:=(Int)×(Unit)) (rgs [(2,4),(13,29)]) (λg=>[(3,.int .i64 g.1)]) (λg=>[]) (λg=>σ) (λg=>bC (λq:Int=>Q5 x0 q) g.1=some r) (λg=>fZ (λq:Int=>Q5 x0 q) g.1) ((((nth x0 0 []).length:Nat):Int),()) (Sub.pre 0 z) z (by repeat (first|exact trivial|refine ⟨z,?_⟩)) hh (λg1 j1 hg1=> ?_)))))))
 obtain ⟨mZ,_⟩:=g1
 have hh:=hg1;clear hg1
 try dsimp only
 obtain ⟨z1,hh,hR1⟩:=iq hh
 dsimp only [Q5]at hh
 refine θ (ξ (ψ z z (ω z (OpVal.gtr z z z) (ε (TC.cD z hh (λdM hh=> ?_) (λdM hh=> ?_))))))
 ·refine ι (S.n (θ (υ (ξ (TL.j z z (ε (θ (ξ (ψ z z (ε (υ (TC.iE (α:=(Bool×Nat)×(Unit)) (rgs [(4,2),(17,19)]) (λg=>[(4,.bool g.1.1),(5,.int .i64 ((g.1.2:Nat):Int))]) (λg=>[]) (λg=>σ) (λg=>bC (λq:Bool×Nat=>Q7 x0 mZ q.1 q.2) g.1=some z1) (λg=>fZ (λq:Bool×Nat=>Q7 x0 mZ q.1 q.2) g.1) ((true,0),()) (Sub.pre 0 z) z (by repeat (first|exact trivial|refine ⟨z,?_⟩)) hh (λg2 j2 hg2=> ?_)))))))))))))
  obtain ⟨⟨VQ,zJ⟩,_⟩:=g2
  have hh:=hg2;clear hg2
  try dsimp only
  obtain ⟨z2,hh,hR2⟩:=iq hh
  dsimp only [Q7]at hh
  refine θ (ξ (ψ z z (Ξ z z (ω z (lenC z fF z) (ω z (OpVal.lss z z z) (ε (TC.cD z hh (λh112 hh=> ?_) (λh112 hh=> ?_))))))))
  ·refine ι (S.n (TC.cutG (α:=(Bool)×(Unit)) (rgs [(4,1),(23,13)]) (λg=>[(4,.bool g.1)]) (λg=>[]) (λg=>σ) (λg=>Cq_ zJ g.1=some z2) ?_ (λg j hg=> ?_)))
   ·skip
    refine υ (TC.draw [] (by kernel_rfl) (TA.a 0 z (moveB (.inl z) z) z (TA.a 1 z (moveB (.inl z) z) z (TA.split 24 z (λjX=> ?_) (λjX=> ?_)))))
    ·replace hh:=ig jX hh
     refine TA.on 2 z z z z (gK (.inl z) z) z ?_
     obtain ⟨u22,hh⟩:=aP hh
     refine TA.on 3 z z z z (bT (i:=0) z fF fK z z au.rv.sl (by omega)) z (TA.on 4 z z z z (fD ([]:T_1) z iK z au (by omega) z) z (TA.on 5 z z z z (cO (.inl z) z) z ?_))
     obtain ⟨u25,hh⟩:=aP hh
     refine TA.on 6 rfl rfl rfl rfl (bn_ (l:=(nth x0 0 [])) (j:=mZ.toNat) rfl kG rfl (by show Value.int _ _=_;rw [Int.toNat_of_nonneg (by omega)]) (by omega) (by omega)) rfl (TA.on 7 z z z z (gK (.inl z) z) z (TA.on 8 z z z z (cO (.inl z) z) z (TA.on 9 z z z z (bT z fF fK z z au.rv.sl (by omega)) z (TA.on 10 z z z z (fD ([]:T_1) z iK z au (by omega) z) z ?_))))
     obtain ⟨v30,u30,hh⟩:=dJ hh
     refine TA.di_ 11 (by kernel_rfl) z z z z z z (kD (F6_ u30) z z pf112 z z z (k0 ?_))
     exact TA.a 12 z (dQ z z z) z (TA.a 13 z (moveB (.inr z) z) z (TA.dn (B.n (S.n (cf (v30,()) hh (Sub.pre 0 z))))))
    replace hh:=iw jX hh
    exact TA.off 2 z z z z z z (TA.off 3 z z z z z z (TA.off 4 z z z z z z (TA.off 5 z z z z z z (TA.off 6 z z z z z z (TA.off 7 z z z z z z (TA.off 8 z z z z z z (TA.off 9 z z z z z z (TA.off 10 z z z z z z (TA.off 11 z z z z z z (TA.a 12 z (dU z z z) z (TA.a 13 z (moveB (.inr z) z) z (TA.dn (B.n (S.n (cf (false,()) hh (Sub.pre 0 z))))))))))))))))
   skip
   obtain ⟨VP,_⟩:=g
   have hh:=hg;clear hg
   try dsimp only
   dsimp only [Cq_]at hh
   refine η (ψ z z (ω z (OpVal.succ z z z (by omega)) (ψ z z (ε ?_))))
   obtain ⟨hh,Ec⟩:=dL hR2 hh
   exact lf ((VP,(zJ+1)),()) Ec hh (Sub.pre 0 z)
  refine TC.exit (S.x (S.x ?_))
  replace hh:=dI hR2 hh
  refine Δ (S.n (ξ (TL.j z z (ε (TC.cB z hh (λh116 hh=> ?_) (λh116 hh=> ?_))))))
  ·refine ξ (Ξ z z ?_)
   obtain ⟨u38,hh⟩:=aP hh
   refine ω z (bT (i:=0) z fF fK z z au.rv.sl (by omega)) (ω z (fD ([]:T_1) z iK z au (by omega) z) (ψ z z ?_))
   obtain ⟨MS,hh⟩:=aP hh
   refine ω rfl (bn_ (l:=(nth x0 0 [])) (j:=mZ.toNat) rfl kG rfl (by show Value.int _ _=_;rw [Int.toNat_of_nonneg (by omega)]) (by omega) (by omega)) (ω z (dX (.inr z) z) (ε (TC.ret (B.r (S.r (S.r ?_))))))
   replace hh:=dI hR1 hh
   refine B.r (S.r ?_)
   obtain rfl:=so hh
   exact rq [2] ⟨z,z,z⟩
  refine ι (B.n (S.n (η (ψ z z (ω z (subW z z z) (ψ z z (ε ?_)))))))
  obtain ⟨hh,qZ⟩:=dL hR1 hh
  exact lf ((IntKind.i64.wrap (mZ - 1)),()) qZ hh (Sub.pre 0 z)
 refine TC.exit (S.x (S.x ?_))
 replace hh:=dI hR1 hh
 refine Δ (S.n (ξ (ω z (dX (.inr z) z) (ε (TC.ret ?_)))))
 obtain rfl:=so hh
 exact rq [2] ⟨z,z,z⟩
end Go.Proofs.YtchebnpdnfhenaaGreatDoor
end

noncomputable section
namespace Go.E
open Go
section
variable {K:Type} [DecidableEq K]
theorem Z4: ∀{l m:List K},l.Nodup->(∀x∈l,x∈m)->l.length<=m.length
  |[],m,_,_=>Nat.zero_le _
  | x :: l, m, hn, hs => by
    rw [List.nodup_cons]at hn
    have hx:=hs x (ji ..)
    have:=Z4 (m:=m.erase x) hn.2 λy hy=>by
      have h1:=hs y (o7 _ hy)
      refine (List.mem_erase_of_ne ?_).2 h1
      intro e;subst e;exact hn.1 hy
    rw [List.length_erase_of_mem hx]at this
    have hp:=List.length_pos_of_mem hx
    simp only [List.length_cons];omega
theorem rev_ind{p:List K->Prop}(h0:p [])(h1: ∀l x,p l->p (l++[x]))(l:List K):p l:=by
  have: ∀m:List K,p m.reverse:=λm=>by
    induction m with
    |nil=>exact h0
    |cons x m ih=>rw [List.reverse_cons];exact h1 _ _ ih
  simpa using this l.reverse
end
section
variable {β γ:Type}
structure Grp (key:β->Int) (val:β->γ) (n:Nat) (l:List (List γ)) (xs:List β):Prop where
  len:l.length=n
  row: ∀i,i<n->nth l i []=(xs.filter λx=>decide (key x=(i:Int))).map val
theorem Grp.nil(key:β->Int)(val:β->γ)(n:Nat):Grp key val n (List.replicate n []) []:=⟨rU ..,λi hi=>by simp [nth,List.getD,List.getElem?_replicate,hi]⟩
theorem Grp.snoc{key:β->Int}{val:β->γ}{n:Nat}{l:List (List γ)}{xs:List β}(h:Grp key val n l xs){x:β}(h0:0<=key x)(h1:key x<n):
    Grp key val n (l.set (key x).toNat (nth l (key x).toNat []++[val x])) (xs++[x]):=by
  refine ⟨by rw [fQ];exact h.len,λi hi=> ?_⟩
  rw [List.filter_append,List.map_append,<-h.row i hi]
  by_cases e:i=(key x).toNat
  · subst e
    have:key x=((key x).toNat:Int):=by omega
    have hl:=h.len
    rw [show nth (l.set (key x).toNat (nth l (key x).toNat []++[val x])) (key x).toNat []=nth l (key x).toNat []++[val x]from by simp [nth,List.getD,hl,hi]]
    simp [this.symm]
  have hne: ¬ key x=(i:Int):=by omega
  rw [show nth (l.set (key x).toNat (nth l (key x).toNat []++[val x])) i []=nth l i []from by simp [nth,List.getD,List.getElem?_set,Ne.symm e]]
  simp [hne]
theorem Grp.at{key:β->Int}{val:β->γ}{n:Nat}{l:List (List γ)}{xs:List β}(h:Grp key val n l xs){s:Int}(h0:0<=s)(h1:s<n):nth l s.toNat []=(xs.filter λx=>decide (key x=s)).map val:=by
  rw [h.row _ (by omega)]
  have:((s.toNat:Nat):Int)=s:=by omega
  simp only [this]
theorem tk_{α R:Type}{step:Nat->Option (Nat⊕R)}{y no:R}(l:List α)(d:α)(p:α->Bool)(hs: ∀k,k<l.length->p (nth l k d)=true->step k=some (.inl (k+1)))
    (hn: ∀k,k<l.length->p (nth l k d)=false->step k=some (.inr no)) (hd:step l.length=some (.inr y)):bC step 0=some (if l.all p then y else no):=by
  have h:=q5_ (step:=step) (y:=no) (no:=y) (λk=>k) (λk=> !p (nth l k d)) l.length (λk hk hp=>hs k hk (by simpa using hp)) (λk hk hp=>hn k hk (by simpa using hp)) hd
  rw [h,xm_ l d (λx=> !p x)]
  by_cases ha:l.all p=true
  · have:(l.any λx=> !p x)=false:=by rw [List.any_eq_false];intro x hx;have:=(List.all_eq_true.1 ha) x hx;simp [this]
    rw [this,ha];rfl
  have:(l.any λx=> !p x)=true:=by
    rw [Bool.not_eq_true,List.all_eq_false]at ha
    obtain ⟨x,hx,h⟩:=ha
    exact List.any_eq_true.2 ⟨x,hx,by simpa using h⟩
  rw [this];simp only [cond_true];rw [if_neg ha]
theorem nh_{α S R:Type}{step:S×Nat->Option ((S×Nat)⊕R)}{r:R}(l:List α)(d:α)(f:Nat->S)(hs: ∀k,k<l.length->step (f k,k)=some (.inl (f (k+1),k+1)))(hd:step (f l.length,l.length)=some (.inr r)):
    bC step (f 0,0)=some r:=ra_ (λk=>(f k,k)) l.length hs hd
end
theorem uj_{S R:Type}{step:S->Option (S⊕R)}{s s':S}(h:step s=some (.inl s')):bC step s=bC step s':=by
  cases hr:bC step s' with
  |some r=>exact Iu h hr
  |none=>
    cases hq:bC step s with
    |none=>rfl
    |some r=>
      obtain ⟨z,hz,hR⟩:=iq hq
      rw [h]at hz;cases hz
      have:=(hR.next s' rfl).1
      rw [hr]at this;cases this
theorem zd_ {α S T R : Type} {step : T -> Option (T ⊕ R)} (g : S -> Nat -> T) (l : List α) (d : α) (I : List α -> S -> Prop) (Q : R -> Prop)
    (hs: ∀k s,k<l.length->I (l.take k) s->(∃s',step (g s k)=some (.inl (g s' (k+1)))/\I (l.take k++[nth l k d]) s')\/ ∃r,step (g s k)=some (.inr r)/\Q r)
    (hd: ∀s,I l s-> ∃r,step (g s l.length)=some (.inr r)/\Q r) {s0:S} (h0:I [] s0): ∃r,bC step (g s0 0)=some r/\Q r:=by
  have key: ∀m k s,l.length - k=m->k<=l.length->I (l.take k) s-> ∃r,bC step (g s k)=some r/\Q r:=by
    intro m
    induction m with
    |zero=>
      intro k s hm hk hI
      have hk:k=l.length:=by omega
      subst hk
      rw [List.take_length]at hI
      obtain ⟨r,h1,h2⟩:=hd s hI
      exact ⟨r,zn h1,h2⟩
    |succ m ih=>
      intro k s hm hk hI
      rcases hs k s (by omega) hI with ⟨s',h1,h2⟩|⟨r,h1,h2⟩
      · rw [<-yw l (by omega) d]at h2
        obtain ⟨r,h3,h4⟩:=ih (k+1) s' (by omega) (by omega) h2
        exact ⟨r,Iu h1 h3,h4⟩
      exact ⟨r,zn h1,h2⟩
  exact key _ 0 s0 rfl (Nat.zero_le _) h0
theorem bV{α:Type}{p:Prop}[Decidable p]{a b:Option α}(h:p):aQ (decide p) a b=a:=by rw [decide_eq_true h];rfl
theorem bQ{α:Type}{p:Prop}[Decidable p]{a b:Option α}(h: ¬ p):aQ (decide p) a b=b:=by rw [decide_eq_false h];rfl
theorem gJ{α β:Type}{x:α}{f:α->Option β}:bnd (some x) f=f x:=rfl
theorem vJ{α:Type}{a b:Option α}:aQ (!true) a b=b:=rfl
theorem zi{α:Type}{a b:Option α}:aQ (!false) a b=a:=rfl
theorem kM {S T R : Type} {step : T -> Option (T ⊕ R)} (g : S -> Nat -> T) (n : Nat) (I : Nat -> S -> Prop) (Q : R -> Prop)
    (hs: ∀k s,k<n->I k s->(∃s',step (g s k)=some (.inl (g s' (k+1)))/\I (k+1) s')\/ ∃r,step (g s k)=some (.inr r)/\Q r)
    (hd: ∀s,I n s-> ∃r,step (g s n)=some (.inr r)/\Q r) {s0:S} (h0:I 0 s0): ∃r,bC step (g s0 0)=some r/\Q r:=by
  have key: ∀m k s,n - k=m->k<=n->I k s-> ∃r,bC step (g s k)=some r/\Q r:=by
    intro m
    induction m with
    |zero=>
      intro k s hm hk hI
      have hk:k=n:=by omega
      subst hk
      obtain ⟨r,h1,h2⟩:=hd s hI
      exact ⟨r,zn h1,h2⟩
    |succ m ih=>
      intro k s hm hk hI
      rcases hs k s (by omega) hI with ⟨s',h1,h2⟩|⟨r,h1,h2⟩
      · obtain ⟨r,h3,h4⟩:=ih (k+1) s' (by omega) (by omega) h2
        exact ⟨r,Iu h1 h3,h4⟩
      exact ⟨r,zn h1,h2⟩
  exact key _ 0 s0 rfl (Nat.zero_le _) h0
theorem jP{α:Type}(l:List α)(i j:Nat)(x d:α):nth (l.set i x) j d=if i=j/\j<l.length then x else nth l j d:=by
  unfold nth
  simp only [List.getD_eq_getElem?_getD,List.getElem?_set]
  by_cases h:i=j
  · subst h
    by_cases k:i<l.length
    · simp [k]
    simp [k]
  simp [h]
theorem zk{α β:Type}(f:α->β)(l:List α)(i:Nat)(d:α)(e:β)(h:i<l.length):nth (l.map f) i e=f (nth l i d):=by
  unfold nth
  simp [List.getD_eq_getElem?_getD,List.getElem?_map,List.getElem?_eq_getElem h]
theorem AB{α:Type}(n i:Nat)(x:α):nth (List.replicate n x) i x=x:=by
  unfold nth
  rw [List.getD_eq_getElem?_getD,List.getElem?_replicate]
  split<;>rfl
theorem Hz{α:Type}(d:α){l m:List α}(hl:l.length=m.length)(h: ∀i,i<l.length->nth l i d=nth m i d):l=m:=by
  apply List.ext_getElem hl
  intro i h1 h2
  have a:=h i h1
  have b:=getD_some l h1 d
  have c:=getD_some m h2 d
  rw [List.getElem?_eq_getElem h1]at b
  rw [List.getElem?_eq_getElem h2]at c
  rw [Option.some.inj b,a,<-Option.some.inj c]
theorem op_(n:Nat)(p:Nat->Bool):(List.range (n+1)).any p=((List.range n).any p || p n):=by
  rw [List.range_succ,List.any_append];simp
theorem r3_{n:Nat}{p:Nat->Bool}:(List.range n).any p=true↔ ∃j,j<n/\p j=true:=by
  simp [List.any_eq_true,List.mem_range]
end Go.E
end

noncomputable section
namespace Go.Proofs.YtchebnpdnfhenaaGreatDoor
open Go Go.E
inductive Rch (S:Int->Prop) (E:Int->Int->Prop):Int->Prop
  |base {s:Int}:S s->Rch S E s
  |step {a b:Int}:Rch S E a->E a b->Rch S E b
def onS(t:Fst)(s:Int):Prop:= ∃x∈t.starts,x.state=s
def enS(t:Fst)(s:Int):Prop:= ∃x∈t.ends,x.state=s
def arE(t:Fst)(a b:Int):Prop:= ∃x∈t.arcs,x.frm=a/\x.to=b
def arB(t:Fst)(a b:Int):Prop:= ∃x∈t.arcs,x.to=a/\x.frm=b
def Use(t:Fst)(s:Int):Prop:=Rch (onS t) (arE t) s/\Rch (enS t) (arB t) s
open Classical in
def mD(t:Fst)(s:Nat):Bool:=decide (Use t s)
def jv(p:Nat->Bool):Nat->Nat
  |0=>0
  |n+1=>jv p n+(if p n then 1 else 0)
def pz(p:Nat->Bool)(s:Int):Int:=if p s.toNat then (jv p s.toNat:Int) else -1
theorem w4_(p:Nat→Bool): ∀{m n:Nat},m<=n->jv p m<=jv p n
  | m, 0, h => by obtain rfl : m = 0 := by omega
                  exact Nat.le_refl _
  |m,n+1,h=>by
    by_cases hm:m=n+1
    · subst hm;exact Nat.le_refl _
    have:=w4_ p (m:=m) (n:=n) (by omega)
    simp only [jv];omega
theorem ZL(p:Nat->Bool){m n:Nat}(h:m<n)(hp:p m=true):jv p m<jv p n:=by
  have:=w4_ p (m:=m+1) (n:=n) h
  simp only [jv,hp,if_true]at this
  omega
theorem Po(p:Nat->Bool): ∀n,jv p n<=n
  |0=>Nat.le_refl _
  |n+1=>by have:=Po p n;simp only [jv];split<;>omega
theorem ki_{p:Nat->Bool}: ∀n,(∀s,s<n->p s=true)->jv p n=n
  |0,_=>rfl
  |n+1,h=>by simp only [jv,ki_ n (λs hs=>h s (by omega)),h n (by omega),if_true]
theorem ke_(p:Nat->Bool): ∀n k,k<jv p n-> ∃s,s<n/\p s=true/\jv p s=k
  |0,k,h=>by simp [jv]at h
  |n+1,k,h=>by
    by_cases hk:k<jv p n
    · obtain ⟨s,h1,h2⟩:=ke_ p n k hk;exact ⟨s,by omega,h2⟩
    simp only [jv]at h
    by_cases hp:p n=true
    · rw [if_pos hp]at h;exact ⟨n,by omega,hp,by omega⟩
    rw [if_neg hp]at h;omega
theorem k5_{p:Nat->Bool}{s:Int}(h:p s.toNat=true):pz p s=jv p s.toNat:=by unfold pz;rw [if_pos h]
theorem lp_{p:Nat->Bool}{s:Int}:0<=pz p s↔p s.toNat=true:=by
  unfold pz;split
  · simp_all
  simp_all
def yu(p:Nat->Bool)(l:List Tip):List Tip:=l.filterMap λx=>if 0<=pz p x.state then some ⟨pz p x.state,x.out⟩ else none
def Aw(p:Nat->Bool)(l:List Arc):List Arc:=l.filterMap λx=>if 0<=pz p x.frm/\0<=pz p x.to then some ⟨pz p x.frm,pz p x.to,x.set,x.out,x.copy⟩ else none
def ZF(p:Nat->Bool)(t:Fst):Fst:=⟨jv p t.states.toNat,yu p t.starts,yu p t.ends,Aw p t.arcs⟩
theorem j9_{p:Nat->Bool}{l:List Tip}{y:Tip}:y∈yu p l↔ ∃x∈l,p x.state.toNat=true/\y=⟨pz p x.state,x.out⟩:=by
  unfold yu
  rw [List.mem_filterMap]
  constructor
  · rintro ⟨x,hx,h⟩
    split at h
    · rename_i h0;exact ⟨x,hx,lp_.1 h0,by cases h;rfl⟩
    cases h
  rintro ⟨x,hx,h0,rfl⟩;exact ⟨x,hx,by rw [if_pos (lp_.2 h0)]⟩
theorem rg_{p:Nat->Bool}{l:List Arc}{y:Arc}:y∈Aw p l↔ ∃x∈l,p x.frm.toNat=true/\p x.to.toNat=true/\y=⟨pz p x.frm,pz p x.to,x.set,x.out,x.copy⟩:=by
  unfold Aw
  rw [List.mem_filterMap]
  constructor
  · rintro ⟨x,hx,h⟩
    split at h
    · rename_i h0;exact ⟨x,hx,lp_.1 h0.1,lp_.1 h0.2,by cases h;rfl⟩
    cases h
  rintro ⟨x,hx,h0,h1,rfl⟩;exact ⟨x,hx,by rw [if_pos ⟨lp_.2 h0,lp_.2 h1⟩]⟩
theorem ks_(p:Nat->Bool)(l:List Tip):(yu p l).length<=l.length:=List.length_filterMap_le ..
theorem rw_(p:Nat->Bool)(l:List Arc):(Aw p l).length<=l.length:=List.length_filterMap_le ..
theorem ru_{p:Nat->Bool}{n:Nat}(hp: ∀s,s<n->p s=true){l:List Tip}(h: ∀x∈l,0<=x.state/\x.state<n):yu p l=l:=by
  unfold yu
  induction l with
  |nil=>rfl
  |cons x l ih=>
    obtain ⟨h1,h2⟩:=h x (ji ..)
    have hx:=hp x.state.toNat (by omega)
    have:pz p x.state=x.state:=by rw [k5_ hx,ki_ _ (λs hs=>hp s (by omega))];omega
    rw [List.filterMap_cons,this,if_pos h1,ih (λy hy=>h y (o7 _ hy))]
theorem w7_{p:Nat->Bool}{n:Nat}(hp: ∀s,s<n->p s=true){l:List Arc}(h: ∀x∈l,(0<=x.frm/\x.frm<n)/\(0<=x.to/\x.to<n)):Aw p l=l:=by
  unfold Aw
  induction l with
  |nil=>rfl
  |cons x l ih=>
    obtain ⟨⟨h1,h2⟩,h3,h4⟩:=h x (ji ..)
    have hx:=hp x.frm.toNat (by omega)
    have hy:=hp x.to.toNat (by omega)
    have e1:pz p x.frm=x.frm:=by rw [k5_ hx,ki_ _ (λs hs=>hp s (by omega))];omega
    have e2:pz p x.to=x.to:=by rw [k5_ hy,ki_ _ (λs hs=>hp s (by omega))];omega
    rw [List.filterMap_cons,e1,e2,if_pos ⟨h1,h3⟩,ih (λy hy=>h y (o7 _ hy))]
structure Rng (t:Fst):Prop where
  starts: ∀x∈t.starts,0<=x.state/\x.state<t.states
  ends: ∀x∈t.ends,0<=x.state/\x.state<t.states
  arcs: ∀x∈t.arcs,(0<=x.frm/\x.frm<t.states)/\(0<=x.to/\x.to<t.states)
open Classical in
theorem uk_{t:Fst}{s:Nat}:mD t s=true↔Use t s:=by unfold mD;exact decide_eq_true_iff
theorem zj_{t r:Fst}(hS: ∀x,x∈r.starts↔x∈yu (mD t) t.starts)(hE: ∀x,x∈r.ends↔x∈yu (mD t) t.ends)(hA: ∀x,x∈r.arcs↔x∈Aw (mD t) t.arcs)(hn:r.states=jv (mD t) t.states.toNat)(h:Rng t):Rng r:=by
  have num: ∀{a:Int},0<=a->a<t.states->mD t a.toNat=true->0<=pz (mD t) a/\pz (mD t) a<r.states:=λ{a} h0 h1 hu=>by
    rw [k5_ hu,hn]
    have:=ZL (mD t) (m:=a.toNat) (n:=t.states.toNat) (by omega) hu
    omega
  refine ⟨λy hy=> ?_,λy hy=> ?_,λy hy=> ?_⟩
  · obtain ⟨x,hx,hu,rfl⟩:=j9_.1 ((hS y).1 hy);have:=h.starts x hx;exact num this.1 this.2 hu
  · obtain ⟨x,hx,hu,rfl⟩:=j9_.1 ((hE y).1 hy);have:=h.ends x hx;exact num this.1 this.2 hu
  obtain ⟨x,hx,hu,hv,rfl⟩:=rg_.1 ((hA y).1 hy);have:=h.arcs x hx;exact ⟨num this.1.1 this.1.2 hu,num this.2.1 this.2.2 hv⟩
end Go.Proofs.YtchebnpdnfhenaaGreatDoor
end

noncomputable section
namespace Go.Proofs.YtchebnpdnfhenaaGreatDoor
open Go Go.E
def uns:B_1->Nat
  |[]=>0
  |b::l=>(if b then 0 else 1)+uns l
theorem wa_: ∀l:B_1,uns l<=l.length
  |[]=>Nat.le_refl _
  |b::l=>by have:=wa_ l;simp only [uns,List.length_cons];split<;>omega
def Le(l r:B_1):Prop:= ∀v,nth l v false=true->nth r v false=true
theorem Le.rfl'(l:B_1):Le l l:=λ_ h=>h
theorem Le.trans{l r s:B_1}(h:Le l r)(k:Le r s):Le l s:=λv hv=>k v (h v hv)
theorem z4_: ∀{l r:B_1},l.length=r.length->Le l r->uns r<=uns l
  |[],[],_,_=>Nat.le_refl _
  |[],_::_,h,_=>by simp at h
  |_::_,[],h,_=>by simp at h
  |a::l,b::r,h,k=>by
    have h1:=z4_ (l:=l) (r:=r) (by simpa using h) (λv hv=>k (v+1) hv)
    have h2:a=true->b=true:=λha=>k 0 ha
    simp only [uns]
    cases a<;>cases b<;>simp_all<;>omega
theorem w3_: ∀{l:B_1} {i:Nat},i<l.length->nth l i false=false->uns (l.set i true)+1=uns l
  |[],i,h,_=>by simp at h
  |a::l,0,_,h=>by
    have:a=false:=h
    subst this
    simp [uns];omega
  |a::l,i+1,h,k=>by
    have:=w3_ (l:=l) (i:=i) (by simpa using h) k
    simp only [List.set_cons_succ,uns];omega
theorem le_set{l:B_1}(i:Nat)(h:i<l.length):Le l (l.set i true):=λv hv=>by
  rw [jP];split
  · rfl
  exact hv
def stE(st:bW)(a b:Int):Prop:=0<=a/\b∈nth st a.toNat []
theorem Rch.trans{S:Int->Prop}{E:Int->Int->Prop}{a b:Int}(h:Rch (λc=>c=a) E b)(k:Rch S E a):Rch S E b:=by
  induction h with
  |base e=>subst e;exact k
  |step _ e ih=>exact .step ih e
theorem xc_{α:Type}{l:List α}{x d:α}(h:x∈l): ∃j,j<l.length/\nth l j d=x:=by
  obtain ⟨j,hj,e⟩:=List.getElem_of_mem h
  refine ⟨j,hj,?_⟩
  have:=getD_some l hj d
  rw [List.getElem?_eq_getElem hj,Option.some.injEq]at this
  rw [<-this];exact e
theorem vU{α:Type}{l:List α}{j:Nat}(d:α)(h:j<l.length):nth l j d∈l:=by
  have:=getD_some l h d
  exact List.mem_of_getElem? this
structure Vis (st:bW) (n:Nat) (s:Int) (seen r:B_1):Prop where
  len:r.length=n
  le:Le seen r
  at':nth r s.toNat false=true
  out: ∀v,nth r v false=true->nth seen v false=true\/Rch (λc=>c=s) (stE st) v
  cl: ∀v,nth r v false=true->nth seen v false=false-> ∀z∈nth st v [],nth r z.toNat false=true
theorem y1_ {st : bW} {n : Nat} (hl : st.length = n) (hst : ∀ a, ∀ z ∈ nth st a [], 0 <= z /\ z < n) :
    ∀k (s:Int) (seen:B_1),0<=s->s<n->seen.length=n->uns seen<k-> ∃r,Qp k s seen st=some r/\Vis st n s seen r:=by
  intro k
  induction k with
  |zero=>intro s seen _ _ _ h;omega
  |succ k ih=>
    intro s seen h0 h1 hn hu
    show ∃r,Dy_ (Qp k) s seen st=some r/\_
    unfold Dy_
    rw [aH ⟨h0,by omega⟩]
    cases hs:nth seen s.toNat false with
    |true=>exact ⟨seen,rfl,hn,Le.rfl' _,hs,λv hv=> .inl hv,λv hv hf=>by rw [hv]at hf;cases hf⟩
    | false =>
      rw [iteO_false,aH ⟨h0,by omega⟩,aH ⟨h0,by omega⟩]
      have hlt:s.toNat<seen.length:=by omega
      have hun:=w3_ hlt hs
      have hat:nth (seen.set s.toNat true) s.toNat false=true:=by rw [jP,if_pos ⟨rfl,hlt⟩]
      have hor: ∀v,nth (seen.set s.toNat true) v false=true->nth seen v false=true\/v=s.toNat:=λv hv=>by
        rw [jP]at hv
        split at hv
        · rename_i h;exact .inr h.1.symm
        exact .inl hv
      obtain ⟨r,h2,h3,h4,h5,h6,h7⟩:=kM (step:=λq:B_1×Nat=>QB st s (Qp k) q.1 q.2) (λ(l:B_1) j=>(l,j)) (nth st s.toNat []).length
        (λj l=>l.length=n/\Le (seen.set s.toNat true) l/\(∀i,i<j->nth l (nth (nth st s.toNat []) i 0).toNat false=true)/\(∀v,nth l v false=true->nth (seen.set s.toNat true) v false=true\/Rch (λc=>c=s) (stE st) v)/\(∀v,nth l v false=true->nth (seen.set s.toNat true) v false=false-> ∀z∈nth st v [],nth l z.toNat false=true))
        (λl=>l.length=n/\Le (seen.set s.toNat true) l/\(∀i,i<(nth st s.toNat []).length->nth l (nth (nth st s.toNat []) i 0).toNat false=true)/\(∀v,nth l v false=true->nth (seen.set s.toNat true) v false=true\/Rch (λc=>c=s) (stE st) v)/\(∀v,nth l v false=true->nth (seen.set s.toNat true) v false=false-> ∀z∈nth st v [],nth l z.toNat false=true))
        (λj l hj ⟨a1,a2,a3,a4,a5⟩=>by
          have hz:=vU (0:Int) hj
          have hzr:=hst _ _ hz
          have hle:=z4_ (by rw [fQ];omega) a2
          obtain ⟨r,b1,b2⟩:=ih (nth (nth st s.toNat []) j 0) l hzr.1 hzr.2 a1 (by omega)
          refine .inl ⟨r,?_,b2.len,a2.trans b2.le,λi hi=> ?_,λv hv=> ?_,λv hv hf z hz'=> ?_⟩
          · show QB st s (Qp k) l j=_
            unfold QB
            rw [bV (by omega),b1];rfl
          · by_cases hij:i=j
            · subst hij;exact b2.at'
            exact b2.le _ (a3 i (by omega))
          · rcases b2.out v hv with h|h
            · exact a4 v h
            exact .inr (h.trans (.step (.base rfl) ⟨h0,hz⟩))
          cases hlv:nth l v false with
          |true=>exact b2.le _ (a5 v hlv hf z hz')
          |false=>exact b2.cl v hv hlv z hz')
        (λl hI=>⟨l,by
          show QB st s (Qp k) l _=_
          unfold QB
          rw [bQ (by omega)];rfl,hI⟩)
        (s0:=seen.set s.toNat true) ⟨by rw [fQ];exact hn,Le.rfl' _,λi hi=>by omega,λv hv=> .inl hv,λv hv hf=>by rw [hv]at hf;cases hf⟩
      refine ⟨r,h2,h3,(le_set _ hlt).trans h4,h4 _ hat,λv hv=> ?_,λv hv hf z hz=> ?_⟩
      · rcases h6 v hv with h|h
        · rcases hor v h with h|h
          · exact .inl h
          exact .inr (.base (by omega))
        exact .inr h
      cases hsv:nth (seen.set s.toNat true) v false with
      |true=>
        rcases hor v hsv with h|h
        · rw [h]at hf;cases hf
        subst h
        obtain ⟨i,hi,e⟩:=xc_ (d:=(0:Int)) hz
        have:=h5 i hi
        rw [e]at this;exact this
      |false=>exact h7 v hv hsv z hz
theorem tm_ {st : bW} {n : Nat} {tips : List Tip} (hn : n <= 1024) (hl : st.length = n) (hst : ∀ a, ∀ z ∈ nth st a [], 0 <= z /\ z < n) (ht : ∀ x ∈ tips, 0 <= x.state /\ x.state < n) :
    ∃r,Ec_ tips st=some r/\r.length=n/\ ∀v:Nat,nth r v false=true↔Rch (λc=> ∃x∈tips,x.state=c) (stE st) v:=by
  unfold Ec_
  rw [aH (by omega)]
  obtain ⟨r,h1,h2,h3,h4,h5⟩:=kM (step:=λq:B_1×Nat=>Qw tips st q.1 q.2) (λ(l:B_1) j=>(l,j)) tips.length
    (λj l=>l.length=n/\(∀i,i<j->nth l (nth tips i aG).state.toNat false=true)/\(∀v:Nat,nth l v false=true->Rch (λc=> ∃x∈tips,x.state=c) (stE st) v)/\(∀v,nth l v false=true-> ∀z∈nth st v [],nth l z.toNat false=true))
    (λl=>l.length=n/\(∀i,i<tips.length->nth l (nth tips i aG).state.toNat false=true)/\(∀v:Nat,nth l v false=true->Rch (λc=> ∃x∈tips,x.state=c) (stE st) v)/\(∀v,nth l v false=true-> ∀z∈nth st v [],nth l z.toNat false=true))
    (λj l hj ⟨a1,a2,a3,a4⟩=>by
      have hz:=vU aG hj
      have hzr:=ht _ hz
      have:=wa_ l
      obtain ⟨r,b1,b2⟩:=y1_ hl hst (l.length+1) (nth tips j aG).state l hzr.1 hzr.2 a1 (by omega)
      refine .inl ⟨r,?_,b2.len,λi hi=> ?_,λv hv=> ?_,λv hv z hz'=> ?_⟩
      · show Qw tips st l j=_
        unfold Qw
        rw [bV (by omega),b1];rfl
      · by_cases hij:i=j
        · subst hij;exact b2.at'
        exact b2.le _ (a2 i (by omega))
      · rcases b2.out v hv with h|h
        · exact a3 v h
        exact h.trans (.base ⟨_,hz,rfl⟩)
      cases hlv:nth l v false with
      |true=>exact b2.le _ (a4 v hlv z hz')
      |false=>exact b2.cl v hv hlv z hz')
    (λl hI=>⟨l,by
      show Qw tips st l _=_
      unfold Qw
      rw [bQ (by omega)];rfl,hI⟩)
    (s0:=List.replicate st.length false) ⟨by rw [rU];exact hl,λi hi=>by omega,λv hv=>(by rw [AB]at hv;cases hv),λv hv=>(by rw [AB]at hv;cases hv)⟩
  refine ⟨r,h1,h2,λv=>⟨h4 v,λhv=> ?_⟩⟩
  have: ∀c:Int,Rch (λc=> ∃x∈tips,x.state=c) (stE st) c->nth r c.toNat false=true:=λc hc=>by
    induction hc with
    |base h=>
      obtain ⟨x,hx,rfl⟩:=h
      obtain ⟨i,hi,e⟩:=xc_ (d:=aG) hx
      have:=h3 i hi
      rw [e]at this;exact this
    |step _ e ih=>exact h5 _ ih _ e.2
  have:=this v hv
  simpa using this
theorem t5_{α:Type}(l:List α){k:Nat}(h:k<l.length)(d:α):l.drop k=nth l k d::l.drop (k+1):=by
  rw [List.drop_eq_getElem_cons h]
  have:=getD_some l h d
  rw [List.getElem?_eq_getElem h,Option.some.injEq]at this
  rw [this]
def yU:T_1->T_1->Nat
  |a::l,b::m=>if a=b then yU l m+1 else 0
  |_,_=>0
theorem vt_: ∀l m:T_1,yU l m<=l.length
  |[],_=>Nat.zero_le _
  |_::_,[]=>Nat.zero_le _
  |a::l,b::m=>by have:=vt_ l m;simp only [yU,List.length_cons];split<;>omega
theorem so_: ∀(l m:T_1) (k:Nat),k<=l.length->k<=m.length->(∀i,i<k->nth l i 0=nth m i 0)->(k<l.length->k<m.length->nth l k 0≠nth m k 0)->yU l m=k
  |[],_,k,h,_,_,_=>by simp at h;simp [yU,h]
  |_::_,[],k,_,h,_,_=>by simp at h;simp [yU,h]
  |a::l,b::m,0,_,_,_,h=>by
    have:a≠b:=h (by simp) (by simp)
    simp [yU,this]
  |a::l,b::m,k+1,h1,h2,h3,h4=>by
    have e:a=b:=h3 0 (by omega)
    have:=so_ l m k (by simpa using h1) (by simpa using h2) (λi hi=>h3 (i+1) (by omega)) (λi j=>h4 (by simpa using i) (by simpa using j))
    simp [yU,e,this]
theorem yt_ (x y : T_1) (hx : x.length <= 281474976710656) (hy : y.length <= 281474976710656) : E8_ x y = some ((yU x y : Nat) : Int) := by
  unfold E8_
  rw [aH hx,aH hy]
  have hm:min ((x.length:Nat):Int) ((y.length:Nat):Int)=((min x.length y.length:Nat):Int):=by omega
  obtain ⟨r,h,rfl⟩:=kM (step:=λq:Nat=>Zy x y q) (λ(_:Unit) k=>k) (min x.length y.length) (λk _=> ∀i,i<k->nth x i 0=nth y i 0) (λr=>r=((yU x y:Nat):Int))
    (λk _ hk hI=>by
      unfold Zy
      rw [hm,bV (by omega),aH (by omega),aH (by omega)]
      by_cases e:nth x k 0=nth y k 0
      · rw [bQ (by rw [e];simp)]
        exact .inl ⟨(),rfl,λi hi=>by
          by_cases hik:i=k
          · subst hik;exact e
          exact hI i (by omega)⟩
      have hne:(((nth x k (0:UInt8)).toNat:Nat):Int)≠(((nth y k (0:UInt8)).toNat:Nat):Int):=λh=>e (UInt8.toNat_inj.1 (by omega))
      rw [bV hne]
      refine .inr ⟨_,rfl,?_⟩
      rw [so_ x y k (by omega) (by omega) hI (λ_ _=>e)])
    (λ_ hI=>⟨_,by
      unfold Zy
      rw [hm,bQ (by omega)];rfl,by
      rw [so_ x y (min x.length y.length) (by omega) (by omega) hI (λh1 h2=>by omega)]⟩)
    (s0:=()) (λi hi=>by omega)
  exact h
section
variable {S α:Type}
end
structure ArcsOk (arcs:List (List Arc)):Prop where
  out: ∀i, ∀x∈nth arcs i [],x.out.length<=1000000
structure LagOk (n:Nat) (l:TLag):Prop where
  p:0<=l.p/\l.p<n
  q:0<=l.q/\l.q<n
  a:l.a.length<=100000000
  b:l.b.length<=100000000
section
variable {Sy:Type} {Y:Sy->TLag->Option (Sy×Bool)} (w:Walk) (hw:ArcsOk w.arcs) (row:List TLag) (hr: ∀l∈row,LagOk w.arcs.length l) (i:Nat) (hi:i<row.length)
include hw hr hi
end
theorem ta_: ∀(a b:T_1) (n:Nat),n<=a.length->(n<=yU a b↔n<=b.length/\b.take n=a.take n)
  |a,b,0,_=>by simp
  |[],b,n+1,h=>by simp at h
  |x::l,[],n+1,h=>by simp [yU]
  |x::l,y::m,n+1,h=>by
    have ih:=ta_ l m n (by simpa using h)
    unfold yU
    by_cases c:x=y
    · subst c;simp [ih]
    simp only [if_neg c,List.length_cons,List.take_succ_cons,List.cons.injEq]
    constructor
    · intro h;omega
    intro h;exact absurd h.2.1.symm c
theorem ni_{p x:T_1}:p <+: x↔p.length<=x.length/\x.take p.length=p:=by
  rw [List.prefix_iff_eq_take]
  constructor
  · intro h
    refine ⟨?_,h.symm⟩
    have:=congrArg List.length h
    rw [List.length_take]at this;omega
  intro h;exact h.2.symm
theorem qe_{p q:T_1}(h:p <+: q)(k:q <+: p):p=q:=h.eq_of_length (Nat.le_antisymm h.length_le k.length_le)
theorem lcp_l(s t:T_1):s.take (yU s t) <+: s:=List.take_prefix _ _
theorem lcp_r(s t:T_1):s.take (yU s t) <+: t:=by
  have h1:=vt_ s t
  have h2:=(ta_ s t _ h1).1 (Nat.le_refl _)
  rw [<-h2.2];exact List.take_prefix _ _
theorem z9_{p s t:T_1}(h:p <+: s)(k:p <+: t):p <+: s.take (yU s t):=by
  rw [ni_]at h k
  have h1:=(ta_ s t p.length h.1).2 ⟨k.1,by rw [k.2,h.2]⟩
  rw [ni_,List.length_take,List.take_take,Nat.min_eq_left h1]
  exact ⟨by omega,h.2⟩
def Jc(l:aB)(s:T_1):T_1:=l.foldl (λs t=>s.take (yU s t)) s
theorem m6_: ∀(l:aB) (s:T_1),Jc l s <+: s/\ ∀x∈l,Jc l s <+: x
  |[],s=>⟨List.prefix_refl _,by simp⟩
  |t::l,s=>by
    obtain ⟨h1,h2⟩:=m6_ l (s.take (yU s t))
    refine ⟨h1.trans (lcp_l s t),λx hx=> ?_⟩
    rcases List.mem_cons.1 hx with rfl|hx
    · exact h1.trans (lcp_r s x)
    exact h2 x hx
theorem uh_{p:T_1}: ∀(l:aB) (s:T_1),p <+: s->(∀x∈l,p <+: x)->p <+: Jc l s
  |[],s,h,_=>h
  |t::l,s,h,k=>uh_ l _ (z9_ h (k t (ji ..))) λx hx=>k x (o7 _ hx)
def iZ:aB->T_1
  |[]=>[]
  |x::l=>Jc l x
theorem Ls: ∀{l:aB} {x:T_1},x∈l->iZ l <+: x
  |[],x,h=>by cases h
  |y::l,x,h=>by
    rcases List.mem_cons.1 h with rfl|h
    · exact (m6_ l x).1
    exact (m6_ l y).2 x h
theorem kf_: ∀{l:aB} {p:T_1},l≠[]->(∀x∈l,p <+: x)->p <+: iZ l
  |[],p,h,_=>absurd rfl h
  |y::l,p,_,h=>uh_ l y (h y (ji ..)) λx hx=>h x (o7 _ hx)
theorem we_{l:aB}{p:T_1}(h0:l≠[])(h1: ∀x∈l,p <+: x)(h2: ∀q,(∀x∈l,q <+: x)->q <+: p):iZ l=p:=
  qe_ (h2 _ λx hx=>Ls hx) (kf_ h0 h1)
theorem vh_{l m:aB}(h: ∀x,x∈l↔x∈m):iZ l=iZ m:=by
  by_cases c:l=[]
  · subst c
    have:m=[]:=List.eq_nil_iff_forall_not_mem.2 λx hx=>by have:=(h x).2 hx;cases this
    rw [this]
  have c2:m≠[]:=λe=>by
    subst e
    exact c (List.eq_nil_iff_forall_not_mem.2 λx hx=>by have:=(h x).1 hx;cases this)
  exact we_ c (λx hx=>Ls ((h x).1 hx)) λq hq=>kf_ c2 λx hx=>hq x ((h x).2 hx)
theorem rn_(l:aB)(s t:T_1):Jc (l++[t]) s=(Jc l s).take (yU (Jc l s) t):=by simp [Jc]
theorem yw{α:Type}(l:List α){k:Nat}(h:k<l.length)(d:α):l.take (k+1)=l.take k++[nth l k d]:=by
  rw [List.take_add_one]
  have:=getD_some l h d
  rw [this];rfl
theorem ph_ {l : aB} (h : ∀ x ∈ l, x.length <= 281474976710656) : Zt l = some (iZ l) := by
  unfold Zt
  cases l with
  |nil=>rfl
  |cons x l=>
    rw [bQ (by simp;omega),aH (by simp),aH (by simp)]
    have hx:x.length<=281474976710656:=h x (ji ..)
    obtain ⟨r,h1,h2⟩:=kM (step:=λq:T_1×Nat=>Ql (x::l) q.1 q.2) (λs k=>(s,k)) l.length (λk s=>s=Jc (l.take k) x) (λr=>r=Jc l x)
      (λk s hk hI=> .inl ⟨s.take (yU s (nth l k [])),by
        have hs:s.length<=281474976710656:=by
          rw [hI]
          exact Nat.le_trans (m6_ _ x).1.length_le hx
        have ht:(nth l k []).length<=281474976710656:=h _ (o7 _ (vU [] hk))
        show Ql (x::l) s k=_
        unfold Ql
        rw [show (x::l).drop 1=l from rfl,bV (by omega),yt_ s _ hs ht,gJ,aH ⟨by omega,by omega,by rw [iT];exact vt_ _ _⟩,iT];rfl,by
        rw [yw l hk [],rn_,<-hI]⟩)
      (λs hI=>⟨s,by
        show Ql (x::l) s l.length=_
        unfold Ql
        rw [show (x::l).drop 1=l from rfl,bQ (by omega)];rfl,by rw [hI,List.take_length]⟩) (s0:=x) rfl
    rw [show nth (x::l) 0 []=x from rfl]
    show bC _ (x,0)=_
    rw [h1,h2];rfl
theorem rbeg_eq(x y:T_1)(hx:x.length<=281474976710656)(hy:y.length<=281474976710656):B1_ x y=some (decide (x <+: y)):=by
  unfold B1_
  rw [aH hx,aH hy]
  by_cases c:x.length<=y.length
  · rw [bV (by omega),aH ⟨by omega,c⟩]
    have:(y.take x.length=x)↔x <+: y:=by rw [ni_];simp [c]
    simp only [this]
  rw [bQ (by omega),decide_eq_false (λh=>c h.length_le)]
theorem aae_ {x : T_1} {l : aB} (h : ∀ y ∈ x :: l, y.length <= 281474976710656) (n : Nat) (hn : n + 1 <= x.length) :
    Q5 (x::l) ((n+1:Nat):Int)=some (if ∀y∈x::l,x.take (n+1) <+: y then .inr (x.take (n+1)) else .inl ((n:Nat):Int)):=by
  unfold Q5
  rw [bV (by omega)]
  have hx:x.length<=281474976710656:=h x (ji ..)
  have htn:(x.take (n+1)).length<=281474976710656:=by rw [List.length_take];omega
  have hg:(0:Int)<=((n+1:Nat):Int)/\0<=((n+1:Nat):Int).toNat/\((n+1:Nat):Int).toNat<=(nth (x::l) 0 ([]:T_1)).length:=by
    rw [iT];exact ⟨by omega,by omega,hn⟩
  obtain ⟨r,h1,h2⟩:=kM (step:=λq:Bool×Nat=>Q7 (x::l) ((n+1:Nat):Int) q.1 q.2) (λs k=>(s,k)) (x::l).length (λk s=>s=decide (∀y∈(x::l).take k,x.take (n+1) <+: y))
    (λr=>r=(if ∀y∈x::l,x.take (n+1) <+: y then .inr (x.take (n+1)) else .inl ((n:Nat):Int)))
    (λk s hk hI=> .inl ⟨decide (∀y∈(x::l).take (k+1),x.take (n+1) <+: y),by
      show Q7 (x::l) _ s k=_
      unfold Q7 Cq_
      rw [bV (by omega)]
      have e1:(∀y∈(x::l).take (k+1),x.take (n+1) <+: y)↔(∀y∈(x::l).take k,x.take (n+1) <+: y)/\x.take (n+1) <+: nth (x::l) k []:=by
        rw [yw _ hk []]
        simp only [List.mem_append,yB]
        exact ⟨λq=>⟨λy hy=>q y (.inl hy),q _ (.inr rfl)⟩,λq y hy=>hy.elim (q.1 y) (λe=>by rw [e];exact q.2)⟩
      cases s with
      |true=>
        have hI:=jk hI.symm
        rw [iteO_true,aH (by simp),aH hg,iT]
        show bnd (B1_ (x.take (n+1)) (nth (x::l) k [])) _=_
        rw [rbeg_eq _ _ htn (h _ (vU [] hk)),gJ]
        simp only [e1]
        rw [show (decide ((∀y∈(x::l).take k,x.take (n+1) <+: y)/\x.take (n+1) <+: nth (x::l) k []))=decide (x.take (n+1) <+: nth (x::l) k [])from by
          rw [Bool.eq_iff_iff];simp only [lg];exact ⟨λq=>q.2,λq=>⟨hI,q⟩⟩]
        rfl
      |false=>
        have hI:=jy hI.symm
        rw [iteO_false,decide_eq_false (λq=>hI (e1.1 q).1)];rfl,rfl⟩)
    (λs hI=>by
      rw [List.take_length]at hI
      show ∃r,Q7 (x::l) _ s _=_/\_
      unfold Q7
      rw [bQ (by omega)]
      cases s with
      |true=>
        have hI:=jk hI.symm
        refine ⟨_,?_,rfl⟩
        rw [iteO_true,aH (by simp),aH hg,iT,if_pos hI];rfl
      |false=>
        have hI:=jy hI.symm
        refine ⟨_,?_,rfl⟩
        rw [iteO_false,if_neg hI,show ((n+1:Nat):Int) - 1=((n:Nat):Int) by omega,UK (by omega) (by omega)];rfl) (s0:=true) (by simp)
  rw [<-h2];exact h1
theorem rLcp_eq {l : aB} (h : ∀ x ∈ l, x.length <= 281474976710656) : Dc_ l = some (iZ l) := by
  cases l with
  |nil=>rfl
  |cons x l=>
    have hp:iZ (x::l) <+: x:=Ls (ji ..)
    have key: ∀n:Nat,n<=x.length->(iZ (x::l)).length<=n->bC (λq:Int=>Q5 (x::l) q) ((n:Nat):Int)=some (iZ (x::l)):=by
      intro n
      induction n with
      |zero=>
        intro _ k
        have e:iZ (x::l)=[]:=List.length_eq_zero_iff.1 (by omega)
        rw [e]
        refine zn ?_
        show Q5 (x::l) _=_
        unfold Q5
        rw [bQ (by omega)];rfl
      |succ n ih=>
        intro hn k
        have hs:=aae_ h n hn
        by_cases c: ∀y∈x::l,x.take (n+1) <+: y
        · rw [if_pos c]at hs
          have h1:=kf_ (List.cons_ne_nil x l) c
          have h2:iZ (x::l) <+: x.take (n+1):=by
            rw [ni_]at hp ⊢
            rw [List.length_take,List.take_take,Nat.min_eq_left k]
            exact ⟨by omega,hp.2⟩
          rw [qe_ h2 h1]
          exact zn hs
        rw [if_neg c]at hs
        refine Iu hs (ih (by omega) ?_)
        rcases Nat.lt_or_ge (iZ (x::l)).length (n+1)with q|q
        · omega
        refine absurd (λy hy=> ?_) c
        have e:(iZ (x::l)).length=n+1:=by omega
        have h3:=(ni_.1 hp).2
        rw [e]at h3
        rw [h3];exact Ls hy
    unfold Dc_
    rw [bQ (by simp;omega),aH (by simp)]
    exact key x.length (Nat.le_refl _) hp.length_le
theorem ZV{n:Nat}{p:Nat->Bool}:(List.range n).all p=true↔ ∀j,j<n->p j=true:=by
  simp [List.all_eq_true,List.mem_range]
theorem kl_{R:Type}{step:Nat->Option (Nat⊕R)}{good bad:R}(n:Nat)(p:Nat->Bool)(hy: ∀k,k<n->p k=true->step k=some (.inl (k+1)))(hn: ∀k,k<n->p k=false->step k=some (.inr bad))(hd:step n=some (.inr good)):
    bC step 0=some (if (List.range n).all p=true then good else bad):=by
  have h:=q5_ (step:=step) (y:=bad) (no:=good) (λk=>k) (λk=> !p k) n (λk hk h=>hy k hk (by simpa using h)) (λk hk h=>hn k hk (by simpa using h)) hd
  rw [h,<-List.not_all_eq_any_not]
  cases (List.range n).all p<;>rfl
def Fq(nx:ak)(os:aB)(n b:Nat):Bool:=decide (-1<=nth nx b 0) && decide (nth nx b 0<(n:Int)) && decide ((nth os b []).length<=4096) && (decide (nth nx b 0≠ -1) || decide (nth os b []=[]))
def NS(nx:ak)(os:aB)(n:Nat):Bool:=decide (nx.length=256) && decide (os.length=256) && (List.range 256).all (Fq nx os n)
theorem Hf_ (nx : ak) (os : aB) (n : Nat) : Gk_ nx os ((n : Nat) : Int) = some (NS nx os n) := by
  unfold Gk_ NS
  by_cases h1:nx.length=256
  · rw [bQ  (by omega)]
    by_cases h2:os.length=256
    · rw [bQ (by omega),decide_eq_true h1,decide_eq_true h2,Bool.true_and,Bool.true_and]
      have:=kl_ (step:=λq:Nat=>Vd nx ((n:Nat):Int) os q) (good:=true) (bad:=false) 256 (Fq nx os n) ?_ ?_ ?_
      · rw [this];cases (List.range 256).all (Fq nx os n)<;>rfl
      · intro k hk hp
        simp only [Fq,Bool.and_eq_true,Bool.or_eq_true,lg]at hp
        obtain ⟨⟨⟨p1,p2⟩,p3⟩,p4⟩:=hp
        simp only [Vd,Ep_]
        rw [bV (by omega),bQ (by omega),bQ (by omega),aH (by omega),bQ (by omega)]
        by_cases c:nth nx k (0:Int)= -1
        · rw [bV c,aH (by omega),bQ (by rcases p4 with p4|p4<;>simp_all)];rfl
        rw [bQ c];rfl
      · intro k hk hp
        simp only [Vd,Ep_]
        rw [bV (by omega)]
        by_cases c1:nth nx k (0:Int)< -1
        · rw [bV c1];rfl
        rw [bQ c1]
        by_cases c2:((n:Nat):Int)<=nth nx k (0:Int)
        · rw [bV c2];rfl
        rw [bQ c2,aH (by omega)]
        by_cases c3:4096<(nth os k ([]:T_1)).length
        · rw [bV (by omega)];rfl
        rw [bQ (by omega)]
        by_cases c4:nth nx k (0:Int)= -1
        · rw [bV c4,aH (by omega)]
          by_cases c5:nth os k ([]:T_1)=[]
          · exfalso
            simp only [Fq,c5]at hp
            rw [decide_eq_true (by omega),decide_eq_true (by omega)]at hp
            simp at hp
          rw [bV c5];rfl
        exfalso
        simp only [Fq]at hp
        rw [decide_eq_true (by omega),decide_eq_true (by omega),decide_eq_true (by omega),decide_eq_true c4]at hp
        simp at hp
      simp only [Vd]
      rw [bQ (by omega)];rfl
    rw [bV (by omega),decide_eq_false h2];simp
  rw [bV (by omega),decide_eq_false h1];simp
def Es(q:Seq)(s:Nat):Bool:=decide ((nth q.tail s []).length<=4096) && (nth q.fin s false || decide (nth q.tail s []=[])) && NS (nth q.next s []) (nth q.outs s []) q.next.length
def gi_(q:Seq):Bool:=decide (q.next.length<=1024) && decide (q.outs.length=q.next.length) && decide (q.fin.length=q.next.length) && decide (q.tail.length=q.next.length) && decide (q.front.length<=4096) && (decide (q.next.length≠0) || decide (q.front=[]))
def eH(q:Seq):Bool:=gi_ q && (List.range q.next.length).all (Es q)
theorem Fc_ (q : Seq) : Qh q = some (if eH q = true then 0 else 1) := by
  unfold Qh
  by_cases h1:q.next.length<=1024
  rotate_left
  · rw [bV (by omega),if_neg (by simp [eH,gi_,h1])]
  rw [bQ (by omega)]
  by_cases h2:q.outs.length=q.next.length
  rotate_left
  · rw [bV (by omega),if_neg (by simp [eH,gi_,h2])]
  rw [bQ (by omega)]
  by_cases h3:q.fin.length=q.next.length
  rotate_left
  · rw [bV (by omega),if_neg (by simp [eH,gi_,h3])]
  rw [bQ (by omega)]
  by_cases h4:q.tail.length=q.next.length
  rotate_left
  · rw [bV (by omega),if_neg (by simp [eH,gi_,h4])]
  rw [bQ (by omega)]
  by_cases h5:q.front.length<=4096
  rotate_left
  · rw [bV (by omega),if_neg (by simp [eH,gi_,h5])]
  rw [bQ (by omega)]
  have key:(decide (q.next.length≠0) || decide (q.front=[]))=true->D1_ q=some (if eH q=true then 0 else 1):=by
    intro h6
    have hs:gi_ q=true:=by simp only [gi_,h6,Bool.and_true,Bool.and_eq_true,lg];exact ⟨⟨⟨⟨h1,h2⟩,h3⟩,h4⟩,h5⟩
    unfold D1_ eH
    rw [hs,Bool.true_and]
    refine kl_ (step:=λk:Nat=>Vm q k) q.next.length (Es q) ?_ ?_ ?_
    · intro k hk hp
      simp only [Es,Bool.and_eq_true,lg]at hp
      obtain ⟨⟨p1,p2⟩,p3⟩:=hp
      have hj:Vk k q=some (.inl (k+1)):=by
        unfold Vk
        rw [aH (by omega),Hf_,gJ,p3];rfl
      simp only [Vm]
      rw [bV (by omega),aH (by omega),bQ (by omega),aH (by omega)]
      cases hf:nth q.fin k false with
      |true=>rw [vJ];exact hj
      |false=>
        rw [hf,Bool.false_or,lg]at p2
        rw [zi,aH (by omega),bQ (by simp [p2])];exact hj
    · intro k hk hp
      simp only [Vm]
      rw [bV (by omega),aH (by omega)]
      by_cases c1:4096<(nth q.tail k ([]:T_1)).length
      · rw [bV (by omega)];rfl
      rw [bQ (by omega),aH (by omega)]
      have hj:(nth q.fin k false || decide (nth q.tail k []=[]))=true->Vk k q=some (.inr 1):=by
        intro hh
        simp only [Es,hh,Bool.and_true]at hp
        rw [decide_eq_true (by omega),Bool.true_and]at hp
        unfold Vk
        rw [aH (by omega),Hf_,gJ,hp];rfl
      cases hf:nth q.fin k false with
      |true=>rw [vJ];exact hj (by rw [hf];rfl)
      |false=>
        rw [zi,aH (by omega)]
        by_cases c2:nth q.tail k ([]:T_1)=[]
        · rw [bQ (by simp [c2])];exact hj (by rw [c2];simp)
        rw [bV c2];rfl
    simp only [Vm]
    rw [bQ (by omega)];rfl
  by_cases h6:q.next.length=0
  · rw [bV (by omega)]
    by_cases h7:q.front=[]
    · rw [bQ (by simp [h7])];exact key (by simp [h7])
    rw [bV h7,if_neg (by simp [eH,gi_,h6,h7])]
  rw [bQ (by omega)];exact key (by simp [h6])
theorem od_(l m:T_1)(h:l.length+m.length<=140737488355328):zh ⟨l⟩ m=some (((m.length:Nat):Int),(),⟨l++m⟩):=by
  unfold zh
  rw [aH (by omega),show ZX (⟨l⟩:SB)=some ⟨l⟩from rfl,gJ,aH h]
def Dt(q:Seq):T_1->Nat->Int->T_1->T_1×Nat×Bool
  |[],i,s,acc=>if nth q.fin s.toNat false=true then (acc++nth q.tail s.toNat [],i,true) else ([],i,false)
  |b::w,i,s,acc=>if nth (nth q.next s.toNat []) b.toNat 0<0 then ([],i,false) else Dt q w (i+1) (nth (nth q.next s.toNat []) b.toNat 0) (acc++nth (nth q.outs s.toNat []) b.toNat [])
def Na(q:Seq)(w:T_1):T_1×Int×Bool×Int:=
  if eH q=true then (if q.next.length=0 then ([],0,false,0) else ((Dt q w 0 0 q.front).1,(((Dt q w 0 0 q.front).2.1:Nat):Int),(Dt q w 0 0 q.front).2.2,0)) else ([],0,false,1)
structure CellOk (q:Seq) (s:Int) (b:UInt8):Prop where
  n:b.toNat<(nth q.next s.toNat []).length
  o:b.toNat<(nth q.outs s.toNat []).length
  lo: -1<=nth (nth q.next s.toNat []) b.toNat 0
  hi:nth (nth q.next s.toNat []) b.toNat 0<(q.next.length:Int)
  le:(nth (nth q.outs s.toNat []) b.toNat []).length<=4096
theorem ni{q:Seq}(h:eH q=true):q.next.length<=1024/\q.outs.length=q.next.length/\q.fin.length=q.next.length/\q.tail.length=q.next.length/\q.front.length<=4096:=by
  simp only [eH,gi_,Bool.and_eq_true,lg]at h
  exact ⟨h.1.1.1.1.1.1,h.1.1.1.1.1.2,h.1.1.1.1.2,h.1.1.1.2,h.1.1.2⟩
theorem hi_{q:Seq}(h:eH q=true){s:Int}(h0:0<=s)(h1:s<(q.next.length:Int)):Es q s.toNat=true:=by
  simp only [eH,Bool.and_eq_true]at h
  exact ZV.1 h.2 _ (by omega)
theorem sr_{q:Seq}(h:eH q=true){s:Int}(h0:0<=s)(h1:s<(q.next.length:Int)):(nth q.tail s.toNat []).length<=4096:=by
  have:=hi_ h h0 h1
  simp only [Es,Bool.and_eq_true,lg]at this
  exact this.1.1
theorem iy_{q:Seq}(h:eH q=true){s:Int}(h0:0<=s)(h1:s<(q.next.length:Int))(b:UInt8):CellOk q s b:=by
  have hs:=hi_ h h0 h1
  simp only [Es,NS,Bool.and_eq_true,lg]at hs
  obtain ⟨_,⟨h2,h3⟩,h4⟩:=hs
  have hb:=UInt8.toNat_lt b
  have hc:=ZV.1 h4 b.toNat (by omega)
  simp only [Fq,Bool.and_eq_true,lg]at hc
  exact ⟨by omega,by omega,hc.1.1.1,hc.1.1.2,hc.1.2⟩
theorem xa_{α:Type}(l:List α){k:Nat}(h:k<l.length)(d:α):l.drop k=nth l k d::l.drop (k+1):=by
  rw [List.drop_eq_getElem_cons h]
  congr 1
  have h2:=getD_some l h d
  rw [List.getElem?_eq_getElem h]at h2;exact Option.some.inj h2
theorem pe_{q:Seq}(h:eH q=true)(w:T_1)(hw:w.length<=1000000): ∀(m k:Nat) (s:Int) (acc:T_1),w.length - k=m->k<=w.length->0<=s->s<(q.next.length:Int)->acc.length<=4096 * (k+1)->
    bC (λz:T_1×Int×Nat=>Vl w q z.1 z.2.1 z.2.2) (acc,s,k)=some ((Dt q (w.drop k) k s acc).1,(((Dt q (w.drop k) k s acc).2.1:Nat):Int),(Dt q (w.drop k) k s acc).2.2,0)
  |0,k,s,acc,hm,hk,h0,h1,ha=>by
    obtain ⟨q1,q2,q3,q4,q5⟩:=ni h
    have ht:=sr_ h h0 h1
    have e:k=w.length:=by omega
    subst e
    refine zn ?_
    simp only [Vl]
    rw [List.drop_length,Dt,bQ (by omega),aH (by omega)]
    cases hf:nth q.fin s.toNat false with
    |false=>rw [zi];rfl
    |true=>
      rw [vJ,aH (by omega),od_ _ _ (by omega),gJ];rfl
  | m + 1, k, s, acc, hm, hk, h0, h1, ha => by
    obtain ⟨q1,q2,q3,q4,q5⟩:=ni h
    obtain ⟨c1,c2,c3,c4,c5⟩:=iy_ h h0 h1 (nth w k (0:UInt8))
    rw [xa_ w (show k<w.length by omega) (0:UInt8),Dt]
    by_cases cz:nth (nth q.next s.toNat ([]:ak)) (nth w k (0:UInt8)).toNat (0:Int)<0
    · refine zn ?_
      simp only [Vl]
      rw [if_pos cz,bV (by omega),aH (by omega),aH c1,bV cz];rfl
    rw [if_neg cz]
    refine Iu (s':=(acc++nth (nth q.outs s.toNat ([]:aB)) (nth w k (0:UInt8)).toNat ([]:T_1),nth (nth q.next s.toNat ([]:ak)) (nth w k (0:UInt8)).toNat (0:Int),k+1)) ?_ (pe_ h w hw m (k+1) _ _ (by omega) (by omega) (by omega) c4 (by rw [fU];omega))
    simp only [Vl]
    rw [bV (by omega),aH (by omega),aH c1,bQ cz,aH (by omega),aH c2,od_ _ _ (by omega),gJ];rfl
theorem zs_(q:Seq)(w:T_1)(hw:w.length<=1000000):E4_ q w=some (Na q w):=by
  unfold E4_ Na
  rw [aH (by omega),Fc_,gJ]
  by_cases h:eH q=true
  · rw [if_pos h,bQ (by omega),if_pos h]
    by_cases h2:q.next.length=0
    · rw [bV (by omega),if_pos h2]
    rw [bQ (by omega),if_neg h2,od_ _ _ (by have:=(ni h).2.2.2.2;simp only [List.length_nil];omega),gJ]
    simp only [List.nil_append]
    have:=pe_ h w hw _ 0 0 q.front rfl (Nat.zero_le _) (by omega) (by omega) (by have:=(ni h).2.2.2.2;omega)
    rw [List.drop_zero]at this
    exact this
  rw [if_neg h,bV (by omega),if_neg h]
theorem ro_{q:Seq}(h:eH q=true)(w:T_1):(Na q w).2.2.2=0:=by
  unfold Na;rw [if_pos h];split<;>rfl
def nxQ(q:Seq)(s b:Nat):Int:=nth (nth q.next s []) b 0
def otQ(q:Seq)(s b:Nat):T_1:=nth (nth q.outs s []) b []
def cu(q:Seq):Nat->T_1->Option T_1
  |s,[]=>if nth q.fin s false=true then some (nth q.tail s []) else none
  |s,b::w=>if nxQ q s b.toNat<0 then none else (cu q (nxQ q s b.toNat).toNat w).map λy=>otQ q s b.toNat++y
def V4(q:Seq)(s:Nat):Prop:= ∃w y,cu q s w=some y
def ComQ(q:Seq)(s:Nat)(p:T_1):Prop:= ∀w y,cu q s w=some y->p <+: y
structure FrI (q:Seq) (l:aB) (m:B_1):Prop where
  ln:l.length=q.next.length
  mn:m.length=q.next.length
  no: ∀s,s<q.next.length->nth m s false=false->nth l s []=[]
  live: ∀s,s<q.next.length->nth m s false=true->V4 q s
  up: ∀s,s<q.next.length->nth m s false=true-> ∀p,ComQ q s p->p <+: nth l s []
def G8(q:Seq)(l:aB)(m:B_1)(s b:Nat):aB:=
  if 0<=nxQ q s b/\nth m (nxQ q s b).toNat false=true then [otQ q s b++nth l (nxQ q s b).toNat []] else []
def vI(q:Seq)(l:aB)(m:B_1)(s k:Nat):aB:=(if nth q.fin s false=true then [nth q.tail s []] else [])++(List.range k).flatMap (G8 q l m s)
def jT(q:Seq)(l:aB)(m:B_1)(s:Nat):aB:=vI q l m s 256
theorem lf_(q:Seq)(l:aB)(m:B_1)(s k:Nat):vI q l m s (k+1)=vI q l m s k++G8 q l m s k:=by
  simp [vI,List.range_succ,qA]
theorem Tj{q:Seq}{l:aB}{m:B_1}{s:Nat}{x:T_1}:x∈jT q l m s↔(nth q.fin s false=true/\x=nth q.tail s [])\/ ∃b,b<256/\0<=nxQ q s b/\nth m (nxQ q s b).toNat false=true/\x=otQ q s b++nth l (nxQ q s b).toNat []:=by
  unfold jT vI
  rw [List.mem_append]
  constructor
  · rintro (h|h)
    · split at h
      · rename_i c;rw [yB]at h;exact .inl ⟨c,h⟩
      cases h
    obtain ⟨b,hb,h⟩:=List.mem_flatMap.1 h
    unfold G8 at h
    split at h
    · rename_i c;rw [yB]at h;exact .inr ⟨b,List.mem_range.1 hb,c.1,c.2,h⟩
    cases h
  rintro (⟨c,h⟩|⟨b,hb,c1,c2,h⟩)
  · left;rw [if_pos c,yB];exact h
  right
  refine List.mem_flatMap.2 ⟨b,List.mem_range.2 hb,?_⟩
  unfold G8
  rw [if_pos ⟨c1,c2⟩,yB];exact h
theorem VO{b:Nat}(hb:b<256):(UInt8.ofNat b).toNat=b:=by rw [UInt8.toNat_ofNat'];omega
theorem oC{q:Seq}(h:eH q=true){s b:Nat}(hs:s<q.next.length)(hb:b<256):nxQ q s b<(q.next.length:Int):=by
  have:=(iy_ h (s:=((s:Nat):Int)) (by omega) (by omega) (UInt8.ofNat b)).hi
  rw [VO hb,iT]at this;exact this
theorem sb_{q:Seq}(h:eH q=true){s b:Nat}(hs:s<q.next.length)(hb:b<256): -1<=nxQ q s b:=by
  have:=(iy_ h (s:=((s:Nat):Int)) (by omega) (by omega) (UInt8.ofNat b)).lo
  rw [VO hb,iT]at this;exact this
theorem O8{q:Seq}(h:eH q=true){s b:Nat}(hs:s<q.next.length)(hb:b<256):(otQ q s b).length<=4096:=by
  have:=(iy_ h (s:=((s:Nat):Int)) (by omega) (by omega) (UInt8.ofNat b)).le
  rw [VO hb,iT]at this;exact this
theorem v2_{q:Seq}{s b:Nat}(hb:b<256)(h0:0<=nxQ q s b){p:T_1}(hp:ComQ q s p): ∀w y,cu q (nxQ q s b).toNat w=some y->p <+: otQ q s b++y:=λw y hy=>by
  refine hp (UInt8.ofNat b::w) _ ?_
  rw [cu,VO hb,if_neg (by omega),hy];rfl
theorem FrI.all{q:Seq}(hq:eH q=true){l:aB}{m:B_1}(h:FrI q l m){s:Nat}(hs:s<q.next.length){p:T_1}(hp:ComQ q s p): ∀x∈jT q l m s,p <+: x:=λx hx=>by
  rcases Tj.1 hx with ⟨c,rfl⟩|⟨b,hb,h0,hm,rfl⟩
  · refine hp [] _ ?_
    rw [cu,if_pos c]
  have hz:=oC hq hs hb
  have hv:=v2_ hb h0 hp
  obtain ⟨w,y,hy⟩:=h.live _ (show (nxQ q s b).toNat<_ by omega) hm
  have h1:=hv w y hy
  rcases List.prefix_or_prefix_of_prefix h1 (List.prefix_append (otQ q s b) y)with h2|⟨r,hr⟩
  · exact h2.trans (List.prefix_append _ _)
  subst hr
  rw [List.prefix_append_right_inj]
  refine h.up _ (by omega) hm r λw y hy=> ?_
  have:=hv w y hy
  rwa [List.prefix_append_right_inj]at this
theorem FrI.goes{q:Seq}(hq:eH q=true){l:aB}{m:B_1}(h:FrI q l m){s:Nat}(hs:s<q.next.length)(hn:jT q l m s≠[]):V4 q s:=by
  obtain ⟨x,hx⟩:=List.exists_mem_of_ne_nil _ hn
  rcases Tj.1 hx with ⟨c,rfl⟩|⟨b,hb,h0,hm,rfl⟩
  · exact ⟨[],_,by rw [cu,if_pos c]⟩
  have hz:=oC hq hs hb
  obtain ⟨w,y,hy⟩:=h.live _ (show (nxQ q s b).toNat<_ by omega) hm
  refine ⟨UInt8.ofNat b::w,otQ q s b++y,?_⟩
  rw [cu,VO hb,if_neg (by omega),hy];rfl
theorem FrI.put{q:Seq}(hq:eH q=true){l:aB}{m:B_1}(h:FrI q l m){s:Nat}(hs:s<q.next.length)(hn:jT q l m s≠[]):FrI q (l.set s (iZ (jT q l m s))) (m.set s true):=by
  have hl:=h.ln
  have hm:=h.mn
  refine ⟨by rw [fQ];exact hl,by rw [fQ];exact hm,λz hz hz2=> ?_,λz hz hz2=> ?_,λz hz hz2 p hp=> ?_⟩
  · rw [jP]at hz2 ⊢
    by_cases c:s=z
    · rw [if_pos ⟨c,by omega⟩]at hz2;cases hz2
    rw [if_neg (λq=>c q.1)]at hz2 ⊢;exact h.no z hz hz2
  · rw [jP]at hz2
    by_cases c:s=z
    · subst c;exact h.goes hq hs hn
    rw [if_neg (λq=>c q.1)]at hz2;exact h.live z hz hz2
  rw [jP]at hz2 ⊢
  by_cases c:s=z
  · subst c
    rw [if_pos ⟨rfl,by omega⟩]
    exact kf_ hn (h.all hq hs hp)
  rw [if_neg (λq=>c q.1)]at hz2 ⊢;exact h.up z hz hz2 p hp
def MV(q:Seq)(l:aB)(m:B_1)(s:Nat):Prop:=(nth m s false=true->nth l s []=iZ (jT q l m s))/\(nth m s false=false->jT q l m s=[])
theorem n6_{q:Seq}(hq:eH q=true){l:aB}{m:B_1}(hd: ∀s,s<q.next.length->MV q l m s): ∀(w:T_1) (s:Nat) (y:T_1),s<q.next.length->cu q s w=some y->nth m s false=true/\nth l s [] <+: y
  |[],s,y,hs,hy=>by
    rw [cu]at hy
    split at hy
    · rename_i c
      cases hy
      have hmem:nth q.tail s []∈jT q l m s:=Tj.2 (.inl ⟨c,rfl⟩)
      cases hm:nth m s false with
      |false=>have:=(hd s hs).2 hm;rw [this]at hmem;cases hmem
      |true=>exact ⟨rfl,by rw [(hd s hs).1 hm];exact Ls hmem⟩
    cases hy
  | b :: w, s, y, hs, hy => by
    rw [cu]at hy
    have hb:=UInt8.toNat_lt b
    split at hy
    · cases hy
    rename_i c
    have hz:=oC hq hs (show b.toNat<256 by omega)
    cases ho:cu q (nxQ q s b.toNat).toNat w with
    |none=>rw [ho]at hy;cases hy
    |some y'=>
      rw [ho]at hy
      cases hy
      obtain ⟨h1,h2⟩:=n6_ hq hd w _ y' (show (nxQ q s b.toNat).toNat<_ by omega) ho
      have hmem:otQ q s b.toNat++nth l (nxQ q s b.toNat).toNat []∈jT q l m s:=Tj.2 (.inr ⟨b.toNat,by omega,by omega,h1,rfl⟩)
      have h3:otQ q s b.toNat++nth l (nxQ q s b.toNat).toNat [] <+: otQ q s b.toNat++y':=by rwa [List.prefix_append_right_inj]
      cases hm:nth m s false with
      |false=>have:=(hd s hs).2 hm;rw [this]at hmem;cases hmem
      |true=>exact ⟨rfl,by rw [(hd s hs).1 hm];exact (Ls hmem).trans h3⟩
structure FrOk (q:Seq) (l:aB) (m:B_1):Prop where
  ln:l.length=q.next.length
  mn:m.length=q.next.length
  live: ∀s,s<q.next.length->(nth m s false=true↔V4 q s)
  no: ∀s,s<q.next.length->nth m s false=false->nth l s []=[]
  com: ∀s,s<q.next.length->ComQ q s (nth l s [])
  up: ∀s,s<q.next.length->nth m s false=true-> ∀p,ComQ q s p->p <+: nth l s []
  le: ∀s,s<q.next.length->(nth l s []).length<=4194304
theorem FrI.ok{q:Seq}(hq:eH q=true){l:aB}{m:B_1}(h:FrI q l m)(hle: ∀s,s<q.next.length->nth m s false=true->(nth l s []).length<=4194304)(hd: ∀s,s<q.next.length->MV q l m s):FrOk q l m:=
  ⟨h.ln,h.mn,λs hs=>⟨h.live s hs,λ⟨w,y,hy⟩=>(n6_ hq hd w s y hs hy).1⟩,h.no,λs hs w y hy=>(n6_ hq hd w s y hs hy).2,h.up,λs hs=>by
    cases c:nth m s false with
    |true=>exact hle s hs c
    |false=>rw [h.no s hs c];exact Nat.zero_le _⟩
theorem FrOk.uniq{q:Seq}{l l':aB}{m m':B_1}(h:FrOk q l m)(k:FrOk q l' m'):l=l'/\m=m':=by
  have hm:m=m':=Hz false (by rw [h.mn,k.mn]) λs hs=>by
    have hs:s<q.next.length:=by rw [<-h.mn];exact hs
    rw [Bool.eq_iff_iff,h.live s hs,k.live s hs]
  subst hm
  refine ⟨Hz [] (by rw [h.ln,k.ln]) λs hs=> ?_,rfl⟩
  have hs:s<q.next.length:=by rw [<-h.ln];exact hs
  cases hc:nth m s false with
  |false=>rw [h.no s hs hc,k.no s hs hc]
  |true=>exact qe_ (k.up s hs hc _ (h.com s hs)) (h.up s hs hc _ (k.com s hs))
def LeQ(n:Nat)(l:aB)(m:B_1)(l':aB)(m':B_1):Prop:= ∀s,s<n->nth m s false=true->nth m' s false=true/\nth l' s [] <+: nth l s []
theorem LeQ.all{q:Seq}(hq:eH q=true){l l':aB}{m m':B_1}(h:LeQ q.next.length l m l' m'){s:Nat}(hs:s<q.next.length): ∀x∈jT q l m s, ∃x'∈jT q l' m' s,x' <+: x:=λx hx=>by
  rcases Tj.1 hx with ⟨c,rfl⟩|⟨b,hb,h0,hm,rfl⟩
  · exact ⟨_,Tj.2 (.inl ⟨c,rfl⟩),List.prefix_refl _⟩
  have hz:=oC hq hs hb
  obtain ⟨h1,h2⟩:=h _ (show (nxQ q s b).toNat<_ by omega) hm
  exact ⟨_,Tj.2 (.inr ⟨b,hb,h0,h1,rfl⟩),by rwa [List.prefix_append_right_inj]⟩
theorem LeQ.lcp{q:Seq}(hq:eH q=true){l l':aB}{m m':B_1}(h:LeQ q.next.length l m l' m'){s:Nat}(hs:s<q.next.length)(hn:jT q l m s≠[]):iZ (jT q l' m' s) <+: iZ (jT q l m s):=
  kf_ hn λx hx=>by
    obtain ⟨x',h1,h2⟩:=h.all hq hs x hx
    exact (Ls h1).trans h2
def vq_(q:Seq)(l:aB)(m:B_1):Prop:= ∀s,s<q.next.length->nth m s false=true->jT q l m s≠[]/\iZ (jT q l m s) <+: nth l s []
theorem z1_{q:Seq}{l:aB}{m:B_1}(h:vq_ q l m){s:Nat}(hs:s<q.next.length)(hl:l.length=q.next.length)(hm:m.length=q.next.length):LeQ q.next.length l m (l.set s (iZ (jT q l m s))) (m.set s true):=λz hz hz2=>by
  rw [jP,jP]
  by_cases c:s=z
  · subst c
    rw [if_pos ⟨rfl,by omega⟩,if_pos ⟨rfl,by omega⟩]
    exact ⟨rfl,(h s hs hz2).2⟩
  rw [if_neg (λq=>c q.1),if_neg (λq=>c q.1)]
  exact ⟨hz2,List.prefix_refl _⟩
theorem vq_.put{q:Seq}(hq:eH q=true){l:aB}{m:B_1}(h:vq_ q l m){s:Nat}(hs:s<q.next.length)(hl:l.length=q.next.length)(hm:m.length=q.next.length)(hn:jT q l m s≠[]):vq_ q (l.set s (iZ (jT q l m s))) (m.set s true):=λz hz hz2=>by
  have hle:=z1_ h hs hl hm
  rw [jP]at hz2
  by_cases c:s=z
  · subst c
    obtain ⟨x,hx⟩:=List.exists_mem_of_ne_nil _ hn
    obtain ⟨x',h1,_⟩:=hle.all hq hs x hx
    refine ⟨List.ne_nil_of_mem h1,?_⟩
    have:=hle.lcp hq hs hn
    rw [jP (l:=l),if_pos ⟨rfl,by omega⟩]
    exact this
  rw [if_neg (λq=>c q.1)]at hz2
  obtain ⟨k1,k2⟩:=h z hz hz2
  obtain ⟨x,hx⟩:=List.exists_mem_of_ne_nil _ k1
  obtain ⟨x',h1,_⟩:=hle.all hq hz x hx
  refine ⟨List.ne_nil_of_mem h1,?_⟩
  have:=hle.lcp hq hz k1
  rw [jP (l:=l),if_neg (λq=>c q.1)]
  exact this.trans k2
theorem vM{q:Seq}(h:eH q=true){s:Nat}(hs:s<q.next.length):(nth q.next s []).length=256/\(nth q.outs s []).length=256:=by
  have hst:=hi_ h (s:=((s:Nat):Int)) (by omega) (by omega)
  rw [iT]at hst
  simp only [Es,NS,Bool.and_eq_true,lg]at hst
  exact hst.2.1
theorem HY{q:Seq}(h:eH q=true){s:Nat}(hs:s<q.next.length):(nth q.tail s []).length<=4096/\(nth q.fin s false=true\/nth q.tail s []=[]):=by
  have hst:=hi_ h (s:=((s:Nat):Int)) (by omega) (by omega)
  rw [iT]at hst
  simp only [Es,Bool.and_eq_true,Bool.or_eq_true,lg]at hst
  exact hst.1
theorem Ti{q:Seq}(h:eH q=true){s b:Nat}(hs:s<q.next.length)(hb:b<256)(hn:nxQ q s b<0):otQ q s b=[]:=by
  have hst:=hi_ h (s:=((s:Nat):Int)) (by omega) (by omega)
  rw [iT]at hst
  simp only [Es,NS,Bool.and_eq_true,lg]at hst
  have hc:=ZV.1 hst.2.2 b hb
  simp only [Fq,Bool.and_eq_true,Bool.or_eq_true,lg]at hc
  have h1:nth (nth q.next s []) b 0<0:=hn
  have h2:=hc.1.1.1
  rcases hc.2 with c|c
  · omega
  exact c
end Go.Proofs.YtchebnpdnfhenaaGreatDoor
end

noncomputable section
namespace Go.E
open Go
theorem mi_{P:Program}{w:World}(t ty e:TypeId)(i:TypeInfo)(ht:P.underlying t=some (.slice e))(hi:P.info? e=some i)
    (g o sLen sCap:Nat) (cur:Array Value) (hg:w.heap[g]? =some (.cells cur e (0,0)))
    (a:Addr) (m c:Nat) (news:List Value) (hl:news.length=m * i.size) (hnews: ∀j u,news[j]? =some u->w.cell? (a.add j)=some u) (h1: ∀u∈news,u.oneCell'=true)
    (hroom:sLen+m<=sCap) (hfit:o+sLen * i.size+news.length<=cur.size):
    (Builtin.append_ #[t,t] ty #[.slice (some ⟨g,o,none⟩) sLen sCap,.slice (some a) m c]).run P w=
      .ok (.slice (some ⟨g,o,none⟩) (sLen+m) sCap) (w.setRow g (cur.toList.take (o+sLen * i.size)++news++cur.toList.drop (o+sLen * i.size+news.length)).toArray):=by
  have hf:=run_firstCells_some (P:=P) w i.size m a m c news hl hnews
  have hst:=run_storeCells_at P g (o+sLen * i.size) e news 0 cur w hg (by simpa using hfit) h1
  simp only [Nat.add_zero]at hst
  simp [Builtin.append_,run_underlying ht,sizeOf,typeInfo,hi,Builtin.lenOf,hroom,hf,Addr.add_lit,hst]
def Oh(size k:Nat):Value->Value
  | .slice a n c=> .slice (a.map λb=>b.add (k * size)) (n - k) (c - k)
  |v=>v
theorem pr_(size:Nat)(v:Value):Oh size 0 v=v:=by
  cases v<;>simp only [Oh]
  rename_i a n c
  cases a<;>simp [Addr.add]
theorem s6_(size k:Nat)(v:Value):(Oh size k v).ownBlock=v.ownBlock:=by
  cases v<;>simp only [Oh]
  rename_i a n c
  cases a with
  |none=>rfl
  |some b=>simp only [Value.ownBlock,Option.map_some,Addr.add];split<;>rfl
def View(size k:Nat)(v0 v:Value)(n:Nat):Prop:=v=Oh size k v0\/n=0/\v.ownBlock=v0.ownBlock/\ ∃a,v= .slice a 0 0
theorem View.block{size k:Nat}{v0 v:Value}{n:Nat}(h:View size k v0 v n):v.ownBlock=v0.ownBlock:=by
  rcases h with rfl|⟨_,h,_⟩
  · exact s6_ ..
  exact h
def Qd{α:Type}(E size:Nat)(enc:α->List Value)(v:Value)(L:List α)(w:World):Prop:=w.ownsRow 0 E size v L.length (L.flatMap enc)/\ ∀u∈L.flatMap enc,u.oneCell'=true
def Res.queS {α : Type} (E size : Nat) (enc : α -> List Value) (v : Value) (l : List α) : Res where
  bl:=v.ownBlock.toList
  holds w:= ∃(L:List α) (v0:Value) (k:Nat),Qd E size enc v0 L w/\k<=L.length/\l=L.drop k/\View size k v0 v l.length/\l.length<=281474976710656
  lt w b hb h:=by
    obtain ⟨L,v0,k,h,_,_,hv,_⟩:=h
    exact (h.1.lt b (by rw [<-hv.block];exact Option.mem_toList.1 hb)).2
  keep w w' hb h:=by
    obtain ⟨L,v0,k,⟨h,ho⟩,h1,h2,hv,h3⟩:=h
    refine ⟨L,v0,k,⟨⟨h.1,?_⟩,ho⟩,h1,h2,hv,h3⟩
    have hbl:=hv.block
    rcases h.2 with hn|⟨g,cap,cur,rfl,h0,hg,rest⟩
    · exact .inl hn
    exact .inr ⟨g,cap,cur,rfl,h0,by rw [hb g (by rw [hbl];exact Option.mem_toList.2 rfl)];exact hg,rest⟩
section
variable {α:Type} {E size:Nat} {enc:α->List Value} {v:Value} {l:List α}
theorem Reach.c0_{w0:World}{C:List Nat}{σ0 σ:aj}{w:World}{F:List Res}(h:Reach w0 C σ0 σ w (φ E size enc v l::F)):Reach w0 C σ0 σ w (Res.queS E size enc v l::F):=
  h.GX v.ownBlock v.ownBlock rfl rfl rfl rfl rfl (Nat.le_refl _) (Nat.le_refl _) (λ_ _ _=>rfl) ⟨l,v,0,⟨(h.holds _ (ji ..)).1,(h.holds _ (ji ..)).2.1⟩,Nat.zero_le _,rfl,.inl (pr_ size v).symm,(h.holds _ (ji ..)).2.2⟩ (λ_ hb=> .inl hb)
theorem TC.c0_{X:Ctx}{Q:QP}{c:Code}{e:Env}{σ:aj}{F:List Res}(k:TC X Q c e σ (Res.queS E size enc v l::F)):TC X Q c e σ (φ E size enc v l::F):=λw a hw ha=>k w a (hw.by λ_ h=>h.c0_) ha
theorem que_sl{w:World}(h:(Res.queS E size enc v l).holds w):wF v l.length/\l.length<=281474976710656:=by
  obtain ⟨L,v0,k,h,hk,rfl,hv,hb⟩:=h
  obtain ⟨a,c,rfl,h0,hc⟩:=isSl_row h.1
  rw [List.length_drop]at hv hb ⊢
  rcases hv with rfl|⟨h1, -,a',rfl⟩
  · refine ⟨⟨_,_,rfl,λhn=> ?_,by omega⟩,by omega⟩
    cases a with
    |none=>obtain ⟨h1,h2⟩:=h0 rfl;omega
    |some b=>cases hn
  rw [h1];exact ⟨⟨a',0,rfl,λ_=>⟨rfl,rfl⟩,Nat.le_refl _⟩,by omega⟩
theorem tu_{σ:aj}{H:List Res}{q:Nat}(hq:H[q]? =some (Res.queS E size enc v l)): ∀w,jS σ H w->wF v l.length/\l.length<=281474976710656:=λw hw=>que_sl (hw.2 _ (List.mem_of_getElem? hq))
theorem sa_{w:World}(h:(Res.queS E size enc v l).holds w):(∃(L:List α) (g k c:Nat) (cur:Array Value),k<=L.length/\l=L.drop k/\v= .slice (some ⟨g,k * size,none⟩) (L.length - k) (c - k)/\w.heap[g]? =some (.cells cur E (0,0))/\L.length<=c/\c<=maxLen/\cur.size=c * size/\cur.toList.take (L.length * size)=L.flatMap enc/\(L.flatMap enc).length=L.length * size/\(∀u∈L.flatMap enc,u.oneCell'=true)/\l.length<=281474976710656)\/l=[]/\ ∃a,v= .slice a 0 0:=by
  obtain ⟨L,v0,k,h,hk,rfl,hv,hbig⟩:=h
  rw [List.length_drop]at hv
  obtain ⟨⟨hl,h1⟩,hone⟩:=h
  rcases hv with rfl|⟨h7, -,a,rfl⟩
  · rcases h1 with ⟨rfl,hn⟩|⟨g,c,cur,rfl, -,hg,h3,h4,h5,h6⟩
    · refine .inr ⟨oU (by rw [List.length_drop];omega),none,?_⟩
      simp [Oh]
    refine .inl ⟨L,g,k,c,cur,hk,rfl,?_,hg,h3,h4,h5,h6,hl,hone,hbig⟩
    unfold Oh
    simp only [Option.map_some,Dv,Nat.zero_add]
  exact .inr ⟨oU (by rw [List.length_drop];exact h7),a,rfl⟩
theorem ug_{w:World}(h:(Res.queS E size enc v l).holds w)(h0:0<l.length): ∃(L:List α) (g k c:Nat) (cur:Array Value),k<L.length/\l=L.drop k/\v= .slice (some ⟨g,k * size,none⟩) (L.length - k) (c - k)/\w.heap[g]? =some (.cells cur E (0,0))/\L.length<=c/\c<=maxLen/\cur.size=c * size/\cur.toList.take (L.length * size)=L.flatMap enc/\(L.flatMap enc).length=L.length * size/\(∀u∈L.flatMap enc,u.oneCell'=true)/\l.length<=281474976710656:=by
  rcases sa_ h with ⟨L,g,k,c,cur,hk,rfl,h⟩|⟨rfl, -⟩
  · rw [List.length_drop]at h0;exact ⟨L,g,k,c,cur,by omega,rfl,h⟩
  cases h0
theorem og_{size:Nat}(hl: ∀x,(enc x).length=size): ∀(L:List α) (k:Nat),(L.drop k).flatMap enc=(L.flatMap enc).drop (k * size)
  |L,0=>by simp
  |[],k+1=>by simp
  |x::L,k+1=>by
    rw [List.drop_succ_cons,og_ hl L k,List.flatMap_cons,Nat.add_mul,Nat.one_mul,Nat.add_comm,<-hl x,List.drop_length_add_append]
theorem OpVal.c8_{P:Program}{n:Nat}{e:Env}{σ:aj}{H:List Res}{o:Oper}{x:Operand}{T q i:Nat}{u:Value}(d:α)(ho:o.op= .load T x)(hA:aggOf P T=some false)(hx:ev e x=oK v (i * 1))(hq:H[q]? =some (Res.queS E 1 enc v l))(hl: ∀x,(enc x).length=1)(hi:i<l.length)
    (hu:(enc (nth l i d))[0]? =some u):OpVal P n o e σ H u:=λw hw=>by
  have hQ:=hw.2 _ (List.mem_of_getElem? hq)
  obtain ⟨L,g,k,c,cur,hk,rfl,rfl,hg,h3,h4,h5,h6,h7,h8,h9⟩:=ug_ hQ (by omega)
  rw [List.length_drop]at hi
  have hn:nth (L.drop k) i d=nth L (k+i) d:=by unfold nth;simp [List.getD_eq_getElem?_getD,List.getElem?_drop]
  rw [hn]at hu
  have hx':ev e x=loc g (k+i):=by
    rw [hx];unfold oK loc;simp only [Dv,Nat.mul_one]
  have hc:cur.toList[k+i]? =some u:=by
    have h10:(L.flatMap enc)[(k+i) * 1+0]? =some u:=by rw [YF hl L (k+i) 0 _ (getD_some L (by omega) d) (by omega)];exact hu
    rw [<-h6,List.getElem?_take]at h10
    split at h10
    · simpa using h10
    cases h10
  exact OpVal.bg (n:=n) (H:=[κ g cur E]) (i:=0) ho hA hx' rfl (by simpa using hc) w ⟨hw.1,λr hr=>by rw [List.mem_singleton.1 hr];exact hg⟩
end
section
variable {X:Ctx} {e:Env} {σ:aj} {F:List Res} {o:Oper} {x y:Operand} {K:Env->aj->List Res->Prop} {α:Type} {E size d:Nat} {enc:α->List Value} {v:Value} {l:List α}
theorem OpOk.popQ {T i : Nat} {k : IntKind} (ho : o.op = .slice T x (some y) none none) (ht : X.P.underlying T = some (.slice E)) (hs : szOf X.P E = some size) (hd : o.dst = some d) (hn : Nat.blt d X.n = true) (hx : ev e x = v) (hy : ev e y = .int k (i : Nat)) (hi : i <= l.length) (h0 : 0 < l.length)
    (kk: ∀a c,K (upd e d (.slice a (l.drop i).length c)) σ (Res.queS E size enc (.slice a (l.drop i).length c) (l.drop i)::F)):OpOk X o e σ (Res.queS E size enc v l::F) K:=by
  intro u0 C0 τ0 w a hw ha K' Q hK
  have hQ:=hw.holds _ (ji ..)
  obtain ⟨L,g,q,c,cur,hk,rfl,rfl,hg,h3,h4,h5,h6,h7,h8,h9⟩:=ug_ hQ h0
  rw [List.length_drop]at hi
  have hlen:((L.drop q).drop i).length=L.length - q - i:=by rw [List.length_drop,List.length_drop]
  have hrow:Qd E size enc (.slice (some ⟨g,0,none⟩) L.length c) L w:=⟨⟨h7,.inr ⟨g,c,cur,rfl,Nat.zero_le _,hg,h3,h4,h5,h6⟩⟩,h8⟩
  obtain ⟨a',hrun,hV⟩: ∃a',(execOp (ev e) o).run X.P w= .ok (.value (.slice a' (L.length - q - i) (c - q - i))) w/\(Value.slice a' (L.length - q - i) (c - q - i)).ownBlock=(Value.slice (some ⟨g,0,none⟩) L.length c).ownBlock/\View size (q+i) (.slice (some ⟨g,0,none⟩) L.length c) (.slice a' (L.length - q - i) (c - q - i)) (L.length - q - i):=by
    by_cases hc:c - q=i
    · refine ⟨some ⟨g,q * size,none⟩,?_,rfl,.inr ⟨by omega,rfl,?_⟩⟩
      · have h1:(i:Int)<=((c - q:Nat):Int):=by omega
        have h2:(i:Int)<=((L.length - q:Nat):Int):=by omega
        simp [execOp,ho,hx,hy,Instr.sliceAt,Instr.slice,Instr.sliceBounds,Instr.sliceBound,asIntOf,run_underlying ht,zl hs]
        rw [if_pos hi,if_pos hc]
      rw [show L.length - q - i=0 by omega,show c - q - i=0 by omega];exact ⟨_,rfl⟩
    refine ⟨some ⟨g,(q+i) * size,none⟩,?_,rfl,.inl ?_⟩
    · simp [execOp,ho,hx,hy,Instr.sliceAt,Instr.slice,Instr.sliceBounds,Instr.sliceBound,asIntOf,run_underlying ht,zl hs]
      rw [if_pos hi,if_neg hc,Dv,<-Nat.add_mul]
    unfold Oh
    simp only [Option.map_some,Dv,Nat.zero_add,Nat.sub_sub]
  have hR:Reach u0 C0 τ0 σ w (Res.queS E size enc (.slice a' (L.length - q - i) (c - q - i)) ((L.drop q).drop i)::F):=
    hw.GX (some g) (some g) rfl (by show (Value.slice a' (L.length - q - i) (c - q - i)).ownBlock.toList=_;rw [hV.1];rfl) rfl rfl rfl (Nat.le_refl _) (Nat.le_refl _) (λ_ _ _=>rfl) ⟨L,_,q+i,hrow,by omega,by rw [List.drop_drop],by rw [hlen];exact hV.2,by rw [List.length_drop]at h9;omega⟩ (λ_ hb=> .inl hb)
  have hk2:=kk a' (c - q - i)
  rw [hlen]at hk2
  refine Oper.vP (w':=w) (v:= .slice a' (L.length - q - i) (c - q - i)) ?_ (hK _ _ _ _ _ hk2 hR (xQ ha hd hn _))
  rw [ha.eval'];exact hrun
theorem OpOk.cn_ {T nV : Nat} {z u : Value} {l2 : List α} {ty : TypeId} (ho : o.op = .call { callee := .builtin .append, args := #[x, y], argTypes := #[T, ty] }) (hty : ty = T) (ht : X.P.underlying T = some (.slice E)) (hs : szOf X.P E = some size) (hby : byOf X.P E = some nV) (hz : zeroOf X.P E = some z)
    (hd:o.dst=some d) (hn:Nat.blt d X.n=true) (hsz:0<size) (hzs:z.cells.size=size) (hl: ∀x,(enc x).length=size) (hx:ev e x=v) (hy:ev e y=u) (hsrc:sm_ σ F size enc u l2) (hb0:(l.length+l2.length) * nV<=140737488355328) (qh:0<nV) (h2:0<l2.length)
    (k: ∀a c,K (upd e d (.slice a (l++l2).length c)) σ (Res.queS E size enc (.slice a (l++l2).length c) (l++l2)::F)):OpOk X o e σ (Res.queS E size enc v l::F) K:=by
  subst hty
  obtain ⟨i,hi,hsi⟩:=UM hs
  have hiz:i.zero=some z:=by simpa [zeroOf,hi]using hz
  have hib:i.bytes=nV:=by simpa [byOf,hi]using hby
  have hm0:l.length+l2.length<=140737488355328:=Nat.le_trans (Nat.le_mul_of_pos_right _ qh) hb0
  have hm:l.length+l2.length<=maxLen:=by unfold maxLen;omega
  intro u0 C0 τ0 w a hw ha K' Q hK
  have hQ:=hw.holds _ (ji ..)
  have hF:jS σ F w:=⟨hw.fit,λr hr=>hw.holds r (o7 _ hr)⟩
  have hsrc':tt_ σ F size u l2.length (l2.flatMap enc):=by
    rcases hsrc with h|⟨E',q,h⟩
    · exact .inl h.rv
    exact .inr ⟨E',q,h⟩
  have hyl:(l2.flatMap enc).length=l2.length * size:=tK hl l2
  rcases hsrc'.spec hF with ⟨_,h0,_⟩|⟨ad,c2,rfl,hl2,hc2,h1⟩
  · omega
  have hone2: ∀q∈(l++l2).flatMap enc,(∀u∈l.flatMap enc,u.oneCell'=true)->q.oneCell'=true:=λq hq h0=>by
    rw [List.flatMap_append]at hq
    rcases List.mem_append.1 hq with hq|hq
    · exact h0 q hq
    exact h1 q hq
  have hfl:(l.flatMap enc).length=l.length * size:=tK hl l
  -- the end: a new row with all of it
  have fin: ∀(vb:Value) (cap:Nat),v=vb->(∀u∈l.flatMap enc,u.oneCell'=true)->cap<l.length+l2.length->
      (Builtin.append_ #[ty,ty] o.type #[vb,.slice (some ad) l2.length c2]).run X.P w=
        .ok (.slice (some ⟨w.heap.size,0,none⟩) (l.length+l2.length) (grownCap w (l.length+l2.length) cap E)) (w.drew.alloc (.cells ((l.flatMap enc).toArray++(l2.flatMap enc).toArray++Builtin.zeroCells z.cells (grownCap w (l.length+l2.length) cap E - (l.length+l2.length))) E))->
      o.wpIn (fence X.rnd) 0 X.P a w K' Q:=λvb cap hvb hone hcap hrun=>by
    subst hvb
    have hge:=grownCap_ge w (l.length+l2.length) cap E
    have hcm:grownCap w (l.length+l2.length) cap E<=maxLen:=grownCap_le_maxLen w (l.length+l2.length) cap E hm
    have hrow:Qd E size enc (.slice (some ⟨w.heap.size,0,none⟩) (l.length+l2.length) (grownCap w (l.length+l2.length) cap E)) (l++l2) (w.drew.alloc (.cells ((l.flatMap enc).toArray++(l2.flatMap enc).toArray++Builtin.zeroCells z.cells (grownCap w (l.length+l2.length) cap E - (l.length+l2.length))) E)):=by
      refine ⟨⟨by rw [tK hl],.inr ⟨w.heap.size,_,_,by rw [fU],Nat.zero_le _,heap_alloc_new w.drew _,by rw [fU];exact hge,hcm,?_,?_⟩⟩,λq hq=>hone2 q hq hone⟩
      · simp only [Array.size_append,List.size_toArray,size_zeroCells,hzs,hfl,hyl,<-Nat.add_mul]
        congr 1
        omega
      simp only [Array.toList_append,qA,List.flatMap_append]
      rw [<-qA,fU,Nat.add_mul,<-hfl,<-hyl,<-fU]
      exact List.take_left
    have hR:Reach u0 C0 τ0 σ (w.drew.alloc (.cells ((l.flatMap enc).toArray++(l2.flatMap enc).toArray++Builtin.zeroCells z.cells (grownCap w (l.length+l2.length) cap E - (l.length+l2.length))) E)) (Res.queS E size enc (.slice (some ⟨w.heap.size,0,none⟩) (l.length+l2.length) (grownCap w (l.length+l2.length) cap E)) (l++l2)::F):=
      hw.GX (Value.ownBlock v) (some w.heap.size) rfl rfl rfl rfl rfl (by simp) (Nat.le_succ _) (λk hk _=>Nh w.drew _ k hk) ⟨l++l2,_,0,hrow,Nat.zero_le _,rfl,.inl (pr_ size _).symm,by rw [fU];omega⟩ (λb hb=> .inr (by cases hb;exact Nat.le_refl _))
    have hk2:=k (some ⟨w.heap.size,0,none⟩) (grownCap w (l.length+l2.length) cap E)
    rw [fU]at hk2
    refine Oper.vP (w':=_) (v:= .slice (some ⟨w.heap.size,0,none⟩) (l.length+l2.length) (grownCap w (l.length+l2.length) cap E)) ?_ (hK _ _ _ _ _ hk2 hR (xQ ha hd hn _))
    rw [ha.eval']
    simp [execOp,ho,resolve,invoke,builtin,hx,hy,hrun]
  subst hsi hib
  rcases sa_ hQ with ⟨L,g,q,c,cur,hk,rfl,rfl,hg,h3,h4,h5,h6,h7,h8,h9⟩|⟨rfl,b,rfl⟩
  · rw [List.length_drop]at *
    have holds: ∀j u,((L.drop q).flatMap enc)[j]? =some u->w.cell? ((⟨g,q * i.size,none⟩:Addr).add j)=some u:=λj u hj=>by
      rw [og_ hl,List.getElem?_drop,<-h6,List.getElem?_take]at hj
      split at hj
      · rw [Dv]
        simp only [World.cell?,hg,Option.isSome_none,Bool.false_eq_true,if_false]
        rw [<-Array.getElem?_toList];exact hj
      cases hj
    have hone: ∀u∈(L.drop q).flatMap enc,u.oneCell'=true:=λu hu=>h8 u (by rw [og_ hl]at hu;exact List.mem_of_mem_drop hu)
    by_cases hroom:L.length - q+l2.length<=c - q
    · have e1:q * i.size+(L.length - q) * i.size=L.length * i.size:=by rw [<-Nat.add_mul];congr 1;omega
      have hfit:q * i.size+(L.length - q) * i.size+(l2.flatMap enc).length<=cur.size:=by
        rw [e1,hyl,h5,<-Nat.add_mul];exact Nat.mul_le_mul_right _ (by omega)
      have hr:=mi_ (P:=X.P) ty o.type E i ht hi g (q * i.size) (L.length - q) (c - q) cur hg ad l2.length c2 (l2.flatMap enc) hl2 hc2 h1 hroom hfit
      rw [e1]at hr
      have hrow:Qd E i.size enc (.slice (some ⟨g,0,none⟩) (L.length+l2.length) c) (L++l2) (w.setRow g (cur.toList.take (L.length * i.size)++l2.flatMap enc++cur.toList.drop (L.length * i.size+(l2.flatMap enc).length)).toArray):=by
        refine ⟨⟨by rw [tK hl],.inr ⟨g,c,_,by rw [fU],Nat.zero_le _,setRow_heap w g cur _ E _ hg,by rw [fU];omega,h4,?_,?_⟩⟩,λu hu=> ?_⟩
        · simp only [List.size_toArray,fU,List.length_take,List.length_drop,Array.length_toList]
          omega
        · rw [h6,List.flatMap_append,fU,Nat.add_mul,<-h7,<-hyl,<-fU]
          exact List.take_left
        rw [List.flatMap_append]at hu
        rcases List.mem_append.1 hu with hu|hu
        · exact h8 u hu
        exact h1 u hu
      have hR:Reach u0 C0 τ0 σ (w.setRow g (cur.toList.take (L.length * i.size)++l2.flatMap enc++cur.toList.drop (L.length * i.size+(l2.flatMap enc).length)).toArray) (Res.queS E i.size enc (.slice (some ⟨g,q * i.size,none⟩) (L.length - q+l2.length) (c - q)) (L.drop q++l2)::F):=
        hw.GX (some g) (some g) rfl rfl rfl rfl rfl (by simp) (Nat.le_refl _) (λk hk hn=>setRow_other w g k _ (λe=>hn (by rw [e]))) ⟨L++l2,_,q,hrow,by rw [fU];omega,by rw [List.drop_append_of_le_length (by omega)],.inl (by
          unfold Oh
          simp only [Option.map_some,Dv,Nat.zero_add]
          congr 1;omega),by rw [fU,List.length_drop];omega⟩ (λb hb=> .inl hb)
      have hk2:=k (some ⟨g,q * i.size,none⟩) (c - q)
      rw [fU,List.length_drop]at hk2
      refine Oper.vP (w':=_) (v:= .slice (some ⟨g,q * i.size,none⟩) (L.length - q+l2.length) (c - q)) ?_ (hK _ _ _ _ _ hk2 hR (xQ ha hd hn _))
      rw [ha.eval']
      simp [execOp,ho,resolve,invoke,builtin,hx,hy,hr]
    have hr:=run_append_grow (P:=X.P) (w:=w) ty o.type E i z ht hi hiz ⟨g,q * i.size,none⟩ (L.length - q) (c - q) ((L.drop q).flatMap enc) hfl holds ad l2.length c2 (l2.flatMap enc) hl2 hc2 (by omega) (by omega) (growslice_fits (by omega) hb0)
    exact fin _ (c - q) rfl hone (by omega) hr
  simp only [List.length_nil,Nat.zero_add,List.flatMap_nil]at *
  cases b with
  |some b=>
    have hr:=run_append_grow (P:=X.P) (w:=w) ty o.type E i z ht hi hiz b 0 0 [] (by simp) (by simp) ad l2.length c2 (l2.flatMap enc) hl2 hc2 (by omega) (by omega) (growslice_fits (by omega) (by simpa using hb0))
    simp only [Nat.zero_add]at hr
    exact fin _ 0 rfl (by simp) h2 hr
  |none=>
    have hr:=run_append_nil (P:=X.P) w ty o.type E i z ht hi hiz ad l2.length c2 (l2.flatMap enc) hl2 hc2 (by omega) (by omega) (by omega)
    exact fin _ 0 rfl (by simp) h2 (by simpa using hr)
end
end Go.E
end
