/- Parts of a proof, one behind the other: what a machine reaches, functions decompiled, plain lemmas. Conditions stand with each lemma. -/
import Derived.Test.YtchebnpdnfhenaaGreatDoorB24214c72ff
import Derived.Test.YtchebnpdnfhenaaGreatDoorBec12559f29
import Derived.RecoverIn

set_option linter.unusedVariables false
set_option linter.unusedSimpArgs false
set_option linter.unusedSectionVars false
set_option maxRecDepth 100000
set_option maxHeartbeats 8000000
variable {aI aA a0_10 a0_12 a0_16 aU a0_20 a0_22 jy iH eF iL nH:Option Go.Addr}{pK uY cO b0_11 fQ aH aX c0_11 c0_13 c0_17 ay c0_21 c0_23 jr iF dZ o9 iK:Nat}

noncomputable section
namespace Go.E
open Go
def fltV(T:TypeId)(k:Int):Value:= .iface T (.agg #[.int .i64 k])
def ConF(P:Program)(f:FuncId)(args:Array Value)(σ:aj)(H:List Res)(v:Value):Prop:=
  ∀w,Reach w (iJ H) σ σ w H->Calls P f args w λe w'=>e= .panicked [{v:=v,recovered:=false}]/\ ∃σ',Reach w (iJ H) σ σ' w' []
def uw(P:Program)(f:FuncId)(args:Array Value)(σ:aj)(H:List Res){α:Type}(T:TypeId)(Post:α->Value->aj->List Res->Prop):Int⊕α->Prop
  | .inr x=>Con P f args σ H (Post x)
  | .inl k=>ConF P f args σ H (fltV T k)
theorem uw.l{P:Program}{f:FuncId}{args:Array Value}{σ:aj}{H:List Res}{α:Type}{T:TypeId}{Post:α->Value->aj->List Res->Prop}{k:Int}(h:uw P f args σ H T Post (.inl k)):ConF P f args σ H (fltV T k):=h
theorem uw.r{P:Program}{f:FuncId}{args:Array Value}{σ:aj}{H:List Res}{α:Type}{T:TypeId}{Post:α->Value->aj->List Res->Prop}{x:α}(h:uw P f args σ H T Post (.inr x)):Con P f args σ H (Post x):=h
@[reducible]def RetX{α:Type}(P:Program)(fn:Func)(n:Nat)(T:TypeId)(Post:α->Value->aj->List Res->Prop):Int⊕α->QP
  | .inr x=>RetOk P fn n (Post x)
  | .inl k=>λex _ _ _=>ex= .panic [{v:=fltV T k,recovered:=false}]
theorem uw.mk{α:Type}{P:Program}{f:FuncId}{fn:Func}{c:Code}{args:List Value}{n:Nat}{σ:aj}{H:List Res}{T:TypeId}{Post:α->Value->aj->List Res->Prop}{r:Int⊕α}
    (hf:P.funcs[f]? =some fn) (hb:fn.body=some c) (hn:fn.ntmps=n) (ha:Nat.ble args.length n=true)
    (h: ∀w0,TC ⟨P,w0,iJ H,σ,n,none,some []⟩ (RetX P fn n T Post r) c (Py args) σ H):uw P f args.toArray σ H T Post r:=by
  cases r with
  |inr x=>exact Con.mkD hf hb hn ha λw0=>TB.fin t2_ (h w0)
  |inl k=>
    intro w hw
    refine hb_.1 (callsIn_of_wp_marks (F:=fence none) (n:=0) hf hb trivial (Go.wpIn_mono (h w w _ ⟨hw,MarksOk.start⟩ (sv_ hn ha)) ?_))
    rintro ex a w' ⟨e',σ',H',h1,h2,h3⟩
    have h3:ex= .panic [{v:=fltV T k,recovered:=false}]:=h3
    subst h3
    have hd:a.defers=[]:=h2.marks.is _ rfl
    show LeavesInM (fence none) 0 P fn a.tmps _ a.defers _ w'
    rw [hd]
    exact ⟨rfl,σ',h2.toReach.sub (List.nil_sublist _)⟩
def su{α β γ:Type}(x:α⊕β)(f:α->γ)(g:β->γ):γ:=match x with| .inl a=>f a| .inr b=>g b
section rules
variable {X:Ctx} {ops:Array Oper} {Q:QP} {e:Env} {σ:aj} {H F:List Res} {o:Oper} {rest:List Oper} {x:Operand} {K:Env->aj->List Res->Prop}
theorem OpOk.Y4{α:Type}{y:α}{T:TypeId}{f d:Nat}{opds:Array Operand}{ts:Array TypeId}{first cap:Array Value}{args:List Value}{Post:α->Value->aj->List Res->Prop}{H1:List Res}(hc:uw X.P f args.toArray σ H1 T Post (.inr y))(ho:o.op= .call {callee:= .value x,args:=opds,argTypes:=ts})
    (hx:ev e x= .func (.func f) first cap) (hp:plainF X.P f=true) (hargs:first.toList++(opds.toList.map (ev e)++cap.toList)=args) (hd:o.dst=some d) (hn:Nat.blt d X.n=true) (hH:H1++F=H)
    (k: ∀r σ' Iu,σ.le σ'->Post y r σ' Iu->K (upd e d r) σ' (Iu++F)):OpOk X o e σ H K:=OpOk.call hc ho hx hp hargs hd hn hH k
theorem OpOk.ck_{α:Type}{y:α}{T:TypeId}{f d:Nat}{opds:Array Operand}{ts:Array TypeId}{first cap:Array Value}{args:List Value}{v:Value}{Post:α->Value->aj->List Res->Prop}(hc:uw X.P f args.toArray σ [] T Post (.inr y))(hq:Post y=jQ v σ)(ho:o.op= .call {callee:= .value x,args:=opds,argTypes:=ts})
    (hx:ev e x= .func (.func f) first cap) (hp:plainF X.P f=true) (hargs:first.toList++(opds.toList.map (ev e)++cap.toList)=args) (hd:o.dst=some d) (hn:Nat.blt d X.n=true) (k:K (upd e d v) σ H):OpOk X o e σ H K:=
  OpOk.Y4 hc ho hx hp hargs hd hn rfl (λr σ' Iu _ h=>by
    rw [hq]at h
    obtain ⟨h1,h2,h3⟩:=h
    subst h1 h3
    rw [h2]
    exact k)
theorem TL.P7{f:Nat}{opds:Array Operand}{ts:Array TypeId}{first cap:Array Value}{args:List Value}{v:Value}{H1:List Res}(hg:o.guard=none)(hc:ConF X.P f args.toArray σ H1 v)(ho:o.op= .call {callee:= .value x,args:=opds,argTypes:=ts})
    (hx:ev e x= .func (.func f) first cap) (hp:plainF X.P f=true) (hargs:first.toList++(opds.toList.map (ev e)++cap.toList)=args) (hH:H1++F=H)
    (k: ∀σ',σ.le σ'->Q (.panic [{v:=v,recovered:=false}]) e σ' F):TL X ops Q (o::rest) e σ H:=by
  subst hargs hH
  intro w a hw ha
  refine wpListIn_plain hg λK hK=> ?_
  have hr:(execOp a.eval o).run X.P w= .ok (.enter f (first.toList++(opds.toList.map (ev e)++cap.toList)).toArray) w:=by
    rw [ha.eval']
    have hl:(first.toList++(opds.toList.map (ev e)++cap.toList)).toArray=first++(opds.map (ev e)++cap):=by
      apply Array.ext';simp
    rw [hl]
    simp [execOp,ho,resolve,hx,Deferred.ofValue,invoke,U_ hp,Array.append_assoc]
  refine Oper.b1_ hr (λ_=>by simp) ⟨λh=>(by cases h),hb_.2 ((hc w (hw.toReach.sub (List.sublist_append_left H1 F)).self).mono ?_)⟩
  rintro e' w' ⟨rfl,σ',h3⟩
  exact ⟨e,σ',F,ha,hw.step (hw.toReach.self.call h3) rfl,k σ' h3.le⟩
theorem TL.panic{T:TypeId}{v:Value}(hg:o.guard=none)(ho:o.op= .panic x)(hx:ev e x= .iface T v)
    (k:Q (.panic [{v:= .iface T v,recovered:=false}]) e σ H):TL X ops Q (o::rest) e σ H:=by
  intro w a hw ha
  refine wpListIn_plain hg λK hK=> ?_
  have hr:(execOp a.eval o).run X.P w= .halt (.panic (.iface T v)) w:=by
    rw [ha.eval']
    have hp:Sem.run X.P (Instr.panic (.iface T v)) w= .halt (.panic (.iface T v)) w:=rfl
    simp only [execOp,ho,hx,Sem.run_bind,hp,Result.andThen]
  refine ⟨λ_ _=>trivial,?_⟩
  rw [Oper.semAt_eq _ _ _ (λc hc=>by rw [ho]at hc;cases hc),hr]
  exact ⟨e,σ,H,ha,hw,k⟩
theorem OpVal.bt_{P:Program}{n T:Nat}{v:Value}{fs:Array Field}(ho:o.op= .makeInterface T x)(hu:P.underlying T=some (.struct fs))(hx:ev e x=v):OpVal P n o e σ H (.iface T v):=λw _=>by
  simp [execOp,ho,hx,Instr.makeInterface,run_underlying hu]
theorem OpVal.dm_{P:Program}{n T:Nat}{S:TypeId}{v:Value}{fs:Array Field}(ho:o.op= .typeAssert x S T true)(hu:P.underlying T=some (.struct fs))(hx:ev e x= .iface T v):OpVal P n o e σ H (.tuple #[v,.bool true]):=λw _=>by
  simp [execOp,ho,hx,Instr.typeAssert,run_underlying hu]
theorem OpVal.dn_{P:Program}{n T:Nat}{S:TypeId}{z:Value}{fs:Array Field}(ho:o.op= .typeAssert x S T true)(hu:P.underlying T=some (.struct fs))(hz: ∀w,(zeroValue T).run P w= .ok z w)(hx:ev e x= .nilIface):OpVal P n o e σ H (.tuple #[z,.bool false]):=λw _=>by
  simp [execOp,ho,hx,Instr.typeAssert,run_underlying hu,hz]
end rules
def ConR(P:Program)(f:FuncId)(args:Array Value)(v:Value)(σ:aj)(H:List Res)(Post:Value->aj->List Res->Prop):Prop:=
  ∀w,Reach w (iJ H) σ σ w H->CallsDIn (fence none) 0 P f args (.panicking [{v:=v,recovered:=false}]) w λe u w'=>u= .panicking [{v:=v,recovered:=true}]/\ ∃r σ' H',e= .returned r/\Post r σ' H'/\Reach w (iJ H) σ σ' w' H'
@[reducible]def weakQ(Q:QP):QP:=λex e σ H=> ∃F,Sub F H/\Q ex e σ F
theorem qv_{P:Program}{Q:Exit->Act->List Frame->World->Prop}{Q0:Exit->Act->World->Prop}{a:Act}{cs cs':List Frame}{w:World}{id d:Nat}{o0:Oper}{l:List Oper}{rv:Value}
    (hop:o0.op= .call {callee:= .builtin .recover,args:= #[],argTypes:= #[]}) (hg:o0.guard=none) (hd:o0.dst=some d)
    (hrec:(recoverD cs=some (rv,cs')\/(recoverD cs=none/\rv= .nilIface/\cs'=cs)))
    (h:wpListIn (fence none) 0 P (o0::l).toArray Q0 l (a.put (some d) rv) w) (hQ: ∀e a' w',Q0 e a' w'->Q e a' cs' w'):(Code.region id (o0::l).toArray false).wpSIn (fence none) 0 P Q a cs w:=by
  intro b k hb hro hF hroom
  have hlen:cs'.length=cs.length:=by
    rcases hrec with h1|⟨-, -,h1⟩
    · exact recoverD_length h1
    rw [h1]
  have h2:wpOpsIn (fence none) 0 P (o0::l).toArray Q0 (List.range' 1 l.length) (a.put (some d) rv) w:=by
    rw [wpOpsIn_eq_wpListIn l 1 (λj=>by simp [Nat.add_comm 1 j])]
    exact h
  obtain ⟨e,a',w',hq,harr⟩:=wp_opsIn _ _ _ h2 b k cs' hro trivial (hlen▸hroom)
  refine ⟨e,a',cs',w',hlen,hQ _ _ _ hq,?_⟩
  have hr:List.range (o0::l).toArray.size=0::List.range' 1 l.length:=by
    rw [List.range_eq_range'];simp [List.range'_succ]
  refine ArrivesIn.of_steps (.head (fenced_calm hF hroom rfl) stepR_region (.one ?_ ?_)) harr
  · rw [hr]
    exact fenced_oper (o:=o0) hF hroom rfl (λ_ _=>trivial)
  rw [hr]
  have hw:Region.wanted o0 (yielded (o0::l).toArray a.tmps)=true:=by simp [Region.wanted,hg]
  have hgr:=stepGR_op (P:=P) (b:=b) (k:=k) (cs:=cs) (w:=w) (rest:=List.range' 1 l.length) (ops:=(o0::l).toArray) (i:=0) (o:=o0) rfl hw
  rw [hro,Oper.semAt_none]at hgr
  have hfin: ∀v,(b.atR a (.inRegion (o0::l).toArray (0::List.range' 1 l.length)::k)).finish v=b.atR (a.put o0.dst v) (.inRegion (o0::l).toArray (List.range' 1 l.length)::k):=by
    intro v;rw [Frame.finish_atR];rfl
  have hk:(b.atR a (.inRegion (o0::l).toArray (0::List.range' 1 l.length)::k)).kind= .deferred:=hb
  have htr:=tryRecover_deferred hk cs
  have hrun:(execOp a.eval o0).run P w= .ok .recover w:=by
    simp only [execOp,hop,resolve,Sem.run_bind];rfl
  apply step_lone_go
  rw [hgr,<-hd,<-hfin]
  simp only [Frame.atR,hro]at htr ⊢
  rcases hrec with h1|⟨h1,rfl,rfl⟩
  · simp [stepG.apply,hrun,htr,h1]
  simp [stepG.apply,hrun,htr,h1]
theorem recD{P:Program}{f:FuncId}{fn:Func}{c2:Code}{args:List Value}{n d id:Nat}{o0:Oper}{l:List Oper}{σ:aj}{H:List Res}{Post:Value->aj->List Res->Prop}{w:World}{u u':FrameMode}{rv:Value}
    (hw:Reach w (iJ H) σ σ w H) (hf:P.funcs[f]? =some fn) (hb:fn.body=some (.seq (.region id (o0::l).toArray false) c2)) (hn:fn.ntmps=n) (ha:Nat.ble args.length n=true)
    (hop:o0.op= .call {callee:= .builtin .recover,args:= #[],argTypes:= #[]}) (hg:o0.guard=none) (hd:o0.dst=some d) (hdn:Nat.blt d n=true)
    (hrec: ∀(c₀:Frame) (cs:List Frame),c₀.mode=u->(recoverD (c₀::cs)=some (rv,{c₀ with mode:=u'}::cs)\/(recoverD (c₀::cs)=none/\rv= .nilIface/\({c₀ with mode:=u'}:Frame)::cs=c₀::cs)))
    (h:TL ⟨P,w,iJ H,σ,n,none,some []⟩ (o0::l).toArray (seqQ (TC ⟨P,w,iJ H,σ,n,none,some []⟩ (weakQ (retQ P fn n Post)) c2) (weakQ (retQ P fn n Post))) l (upd (Py args) d rv) σ H):
    CallsDIn (fence none) 0 P f args.toArray u w λe u1 w'=>u1=u'/\ ∃r σ' H',e= .returned r/\Post r σ' H'/\Reach w (iJ H) σ σ' w' H':=by
  refine callsDIn_of_wpSIn hf hb trivial λc₀ cs hu=> ?_
  apply wpSIn_seq
  refine qv_ (cs':={c₀ with mode:=u'}::cs) hop hg hd (hrec c₀ cs hu) (h w _ ⟨hw,MarksOk.start⟩ ((sv_ hn ha).put (by simpa [Nat.blt_eq]using hdn) rv)) ?_
  have hfin: ∀(ex:Exit) (a:Act) (w':World),(ex= .normal\/ex= .ret\/True)->low ⟨P,w,iJ H,σ,n,none,some []⟩ (weakQ (retQ P fn n Post)) ex a w'->bodyPostS P fn c₀ cs (λe u1 w'=>u1=u'/\ ∃r σ' H',e= .returned r/\Post r σ' H'/\Reach w (iJ H) σ σ' w' H') ex a ({c₀ with mode:=u'}::cs) w':=by
    rintro ex a w' - ⟨e',σ',H',h1,h2,F,hs,⟨hex,r,H'',h3,h4,h5⟩⟩
    have hd:a.defers=[]:=h2.marks.is _ rfl
    have h6:=h2.toReach.sG hs
    rcases hex with rfl|rfl
    · exact ⟨hd,u',rfl,r,h3 w' a h1 h6.holds,rfl,r,σ',H'',rfl,h5,h6.sub h4⟩
    exact ⟨hd,u',rfl,r,h3 w' a h1 h6.holds,rfl,r,σ',H'',rfl,h5,h6.sub h4⟩
  rintro ex a' w' ⟨e',σ',H',h1,h2,h3⟩
  cases ex with
  |normal=>exact wpSIn_of_wpIn rfl (Go.wpIn_mono (h3 w' a' h2 h1) λex a w' hq=>hfin ex a w' (.inr (.inr trivial)) hq)
  |exit id=>exact hfin _ _ _ (.inr (.inr trivial)) ⟨e',σ',H',h1,h2,h3⟩
  |goto l=>exact hfin _ _ _ (.inr (.inr trivial)) ⟨e',σ',H',h1,h2,h3⟩
  |ret=>exact hfin _ _ _ (.inr (.inr trivial)) ⟨e',σ',H',h1,h2,h3⟩
  |panic ch=>exact hfin _ _ _ (.inr (.inr trivial)) ⟨e',σ',H',h1,h2,h3⟩
  |outgrown=>exact hfin _ _ _ (.inr (.inr trivial)) ⟨e',σ',H',h1,h2,h3⟩
theorem RH.rec{P:Program}{f:FuncId}{fn:Func}{c2:Code}{args:List Value}{n d id:Nat}{o0:Oper}{l:List Oper}{σ:aj}{H:List Res}{Post:Value->aj->List Res->Prop}
    (hf:P.funcs[f]? =some fn) (hb:fn.body=some (.seq (.region id (o0::l).toArray false) c2)) (hn:fn.ntmps=n) (ha:Nat.ble args.length n=true)
    (hop:o0.op= .call {callee:= .builtin .recover,args:= #[],argTypes:= #[]}) (hg:o0.guard=none) (hd:o0.dst=some d) (hdn:Nat.blt d n=true)
    (h: ∀w0,TL ⟨P,w0,iJ H,σ,n,none,some []⟩ (o0::l).toArray (seqQ (TC ⟨P,w0,iJ H,σ,n,none,some []⟩ (weakQ (retQ P fn n Post)) c2) (weakQ (retQ P fn n Post))) l (upd (Py args) d .nilIface) σ H):RH P f args.toArray σ H Post:=λw hw=>
  recD hw hf hb hn ha hop hg hd hdn (λc₀ cs hu=> .inr ⟨by simp [recoverD,hu],rfl,by cases c₀;simp_all⟩) (h w)
theorem ConR.rec{P:Program}{f:FuncId}{fn:Func}{c2:Code}{args:List Value}{n d id:Nat}{o0:Oper}{l:List Oper}{σ:aj}{H:List Res}{v:Value}{Post:Value->aj->List Res->Prop}
    (hf:P.funcs[f]? =some fn) (hb:fn.body=some (.seq (.region id (o0::l).toArray false) c2)) (hn:fn.ntmps=n) (ha:Nat.ble args.length n=true)
    (hop:o0.op= .call {callee:= .builtin .recover,args:= #[],argTypes:= #[]}) (hg:o0.guard=none) (hd:o0.dst=some d) (hdn:Nat.blt d n=true)
    (h: ∀w0,TL ⟨P,w0,iJ H,σ,n,none,some []⟩ (o0::l).toArray (seqQ (TC ⟨P,w0,iJ H,σ,n,none,some []⟩ (weakQ (retQ P fn n Post)) c2) (weakQ (retQ P fn n Post))) l (upd (Py args) d v) σ H):ConR P f args.toArray v σ H Post:=λw hw=>
  recD hw hf hb hn ha hop hg hd hdn (λc₀ cs hu=> .inl (by simp [recoverD,hu])) (h w)
theorem ConR.mono{P:Program}{f:FuncId}{args:Array Value}{v:Value}{σ:aj}{H:List Res}{Post Post':Value->aj->List Res->Prop}
    (h:ConR P f args v σ H Post) (hp: ∀r σ' H',σ.le σ'->Post r σ' H'->Post' r σ' H'):ConR P f args v σ H Post':=λw hw=>
  (h w hw).mono λ_ _ _ ⟨h0,r,σ',H',h1,h2,h3⟩=>⟨h0,r,σ',H',h1,hp _ _ _ h3.le h2,h3⟩
def dfrX(P:Program)(fn:Func)(n:Nat)(Post:Value->aj->List Res->Prop)(f:FuncId)(args:List Value):QP:=λex e σ H=>
  dfrQ P fn n Post f args ex e σ H\/ ∃v,ex= .panic [{v:=v,recovered:=false}]/\ ∃F,Sub F H/\ConR P f args.toArray v σ F λ_ σ' H'=>RetOk P fn n Post .ret e σ' H'
theorem w7_{P:Program}{fn:Func}{w0:World}{C:List Nat}{σ0:aj}{n:Nat}{Post:Value->aj->List Res->Prop}{f:FuncId}{cap dargs:List Value}(hp:plainF P f=true):
    ∀ex a w,low ⟨P,w0,C,σ0,n,none,some [⟨.fn (.func f) cap.toArray,dargs.toArray⟩]⟩ (dfrX P fn n Post f (dargs++cap)) ex a w->endR P fn w0 C σ0 Post ex a w:=by
  rintro ex a w ⟨e,σ,H,h1,h2,h|⟨v,rfl,F,hs,hcon⟩⟩
  · exact ye_ hp ex a w ⟨e,σ,H,h1,h2,h⟩
  have hd:a.defers=[⟨.fn (.func f) cap.toArray,dargs.toArray⟩]:=h2.marks.is _ rfl
  have h3:Reach w0 C σ0 σ w F:=h2.toReach.sG hs
  show LeavesInM (fence none) 0 P fn a.tmps (endE w0 C σ0 Post) a.defers (.panicking [{v:=v,recovered:=false}]) w
  rw [hd]
  refine ⟨by simp,.inr ⟨(λh=>by cases h),.func f,cap.toArray,f,(dargs++cap).toArray,rfl,?_,(λ_ _=>trivial),(hcon w h3.self).mono ?_⟩⟩
  · simp [invoke,U_ hp]
  rintro _ _ w' ⟨rfl,r,σ',H',rfl,⟨-,v',H'',h4,h5,h6⟩,h7⟩
  have h8:Reach w0 C σ0 σ' w' H':=by
    have:=(show Reach w0 C σ0 σ w (F++[]) by rwa [List.append_nil]).call h7
    rwa [List.append_nil]at this
  exact ⟨v',h4 w' a h1 h8.holds,v',σ',H'',rfl,h6,h8.sub h5⟩
structure Flt where
  e:Int
  deriving DecidableEq
def Flt.zero:Flt:=⟨0⟩
structure Maker where
  arcs:List (List Arc)
  ends:List (List (List UInt8))
  most:Int
  rows:List (List Tip)
  places:FM (List UInt8) Int
  q:Seq
def Maker.zero:Maker:=⟨[],[],0,[],FM.emp,Seq.zero⟩
structure RMaker where
  rows:List (List Tip)
  most:Int
  e:Int
def RMaker.zero:RMaker:=⟨[],0,0⟩
structure Numb where
  places:FM (List UInt8) Int
def Numb.zero:Numb:=⟨FM.emp⟩
theorem py_{α:Type}{enc:α->List Value}{size:Nat}(hl: ∀x,(enc x).length=size)(d q:α)(off:Nat)(u:List Value)(ho:off+u.length<=size):
    ∀(l:List α) (i:Nat),i<l.length->oP (enc (nth l i d)) off u=enc q->oP (l.flatMap enc) (i * size+off) u=(l.set i q).flatMap enc
  |[],i,h,_=>by simp at h
  |y::l,0,_,hq=>by
    have h0:oP (enc y) off u=enc q:=hq
    have h1:off+u.length<=(enc y).length:=by rw [hl];exact ho
    rw [Nat.zero_mul,Nat.zero_add,List.set_cons_zero,List.flatMap_cons,List.flatMap_cons,<-h0]
    simp only [oP]
    rw [List.take_append_of_le_length (by omega),List.drop_append_of_le_length h1,<-qH]
  |y::l,i+1,h,hq=>by
    have h0:oP (enc (nth l i d)) off u=enc q:=hq
    have ih:=py_ hl d q off u ho l i (by simpa using h) h0
    rw [List.set_cons_succ,List.flatMap_cons,List.flatMap_cons,<-ih]
    simp only [oP]
    have e1:(i+1) * size+off=size+(i * size+off):=by rw [Nat.add_mul,Nat.one_mul];omega
    have e2:size+(i * size+off)=(enc y).length+(i * size+off):=by rw [hl]
    have e3:(enc y).length+(i * size+off)+u.length=(enc y).length+(i * size+off+u.length):=by omega
    rw [e1,e2,e3,List.take_length_add_append,List.drop_length_add_append]
    simp only [qH]
section
variable {X:Ctx} {e:Env} {σ:aj} {F:List Res} {o:Oper} {x y:Operand} {K:Env->aj->List Res->Prop}
theorem OpOk.c1_{α:Type}{T E size i off s:Nat}{enc:α->List Value}{v u:Value}{l:List α}(d q:α)(ho:o.op= .store T x y)(hs:szOf X.P T=some s)(hd:o.dst=none)(hx:ev e x=oN v (i * size+off))(hv:ev e y=u)
    (hu:oP (enc (nth l i d)) off u.cells.toList=enc q) (hus:u.cells.size=s) (h1: ∀c∈u.cells.toList,c.oneCell'=true) (hl: ∀x,(enc x).length=size) (h0:0<s) (hof:off+s<=size) (hi:i<l.length)
    (kk:K e σ (φ E size enc v (l.set i q)::F)):OpOk X o e σ (φ E size enc v l::F) K:=by
  refine OpOk.b6_ ho hs hd hx hv hus h1 h0 ?_ ?_
  · rw [um hl]
    have h1:(i+1) * size<=l.length * size:=Nat.mul_le_mul_right _ hi
    rw [Nat.add_mul]at h1;omega
  rw [py_ hl d q off u.cells.toList (by rw [Array.length_toList,hus];exact hof) l i hi hu]
  simpa only [φ,gy]using kk
end
end Go.E
end

noncomputable section
namespace Go.Proofs.YtchebnpdnfhenaaGreatDoor
open Go Go.E Go.E.OpVal Go.E.OpOk Go.Proofs.Tryz
open List (replicate)
theorem Il:aggOf Tryz.prog 33=some false:=by kernel_rfl
theorem RJ:aggOf Tryz.prog 70=some false:=by kernel_rfl
theorem Zf:aggOf Tryz.prog 71=some false:=by kernel_rfl
theorem Qb:aggOf Tryz.prog 72=some false:=by kernel_rfl
theorem by22:byOf Tryz.prog 22=some 24:=by kernel_rfl
theorem by23:byOf Tryz.prog 23=some 24:=by kernel_rfl
theorem RP:byOf Tryz.prog 30=some 24:=by kernel_rfl
theorem zF:byOf Tryz.prog 9=some 16:=by kernel_rfl
theorem fo142_0:foOf Tryz.prog 142 0=some 0:=by kernel_rfl
theorem sf_:foOf Tryz.prog 74 0=some 0:=by kernel_rfl
theorem Z5:foOf Tryz.prog 74 1=some 1:=by kernel_rfl
theorem fo74_2:foOf Tryz.prog 74 2=some 2:=by kernel_rfl
theorem r7_:foOf Tryz.prog 74 3=some 3:=by kernel_rfl
theorem fo74_4:foOf Tryz.prog 74 4=some 4:=by kernel_rfl
theorem Nr:foOf Tryz.prog 74 5=some 5:=by kernel_rfl
theorem pf102:plainF Tryz.prog 102=true:=by kernel_rfl
theorem SK:plainF Tryz.prog 127=true:=by kernel_rfl
theorem ZV:plainF Tryz.prog 128=true:=by kernel_rfl
theorem pf129:plainF Tryz.prog 129=true:=by kernel_rfl
theorem SI:plainF Tryz.prog 130=true:=by kernel_rfl
theorem pf131:plainF Tryz.prog 131=true:=by kernel_rfl
theorem wd_:plainF Tryz.prog 150=true:=by kernel_rfl
theorem ZY:plainF Tryz.prog 151=true:=by kernel_rfl
theorem pf155:plainF Tryz.prog 155=true:=by kernel_rfl
theorem pf44:plainF Tryz.prog 44=true:=by kernel_rfl
theorem pf45:plainF Tryz.prog 45=true:=by kernel_rfl
theorem pf86:plainF Tryz.prog 86=true:=by kernel_rfl
theorem Oz:plainF Tryz.prog 87=true:=by kernel_rfl
theorem Oy:plainF Tryz.prog 89=true:=by kernel_rfl
theorem pf90:plainF Tryz.prog 90=true:=by kernel_rfl
theorem zp_:plOf Tryz.prog 142=some #[(0,1)]:=by kernel_rfl
theorem wP:plOf Tryz.prog 32=some #[(0,1),(1,1),(2,1),(3,1),(4,1)]:=by kernel_rfl
theorem pl74:plOf Tryz.prog 74=some #[(0,1),(1,1),(2,1),(3,1),(4,1),(5,5)]:=by kernel_rfl
theorem RY:szOf Tryz.prog 142=some 1:=by kernel_rfl
theorem RQ:szOf Tryz.prog 28=some 1:=by kernel_rfl
theorem VU:szOf Tryz.prog 33=some 1:=by kernel_rfl
theorem VT:szOf Tryz.prog 71=some 1:=by kernel_rfl
theorem sz72:szOf Tryz.prog 72=some 1:=by kernel_rfl
theorem VW:zeroOf Tryz.prog 142=some (.agg #[.int .i64 0]):=by kernel_rfl
theorem ze22:zeroOf Tryz.prog 22=some (bT):=by kernel_rfl
theorem ze23:zeroOf Tryz.prog 23=some (bT):=by kernel_rfl
theorem Hy:zeroOf Tryz.prog 30=some (bT):=by kernel_rfl
theorem if_:zeroOf Tryz.prog 32=some (.agg #[.string ByteArray.empty,bT,bT,bT,bT]):=by kernel_rfl
theorem ze33:zeroOf Tryz.prog 33=some (.int .i64 0):=by kernel_rfl
theorem ze74:zeroOf Tryz.prog 74=some (.agg #[bT,bT,.int .i64 0,bT,.map none,.string ByteArray.empty,bT,bT,bT,bT]):=by kernel_rfl
theorem sQ:zeroOf Tryz.prog 9=some (.string ByteArray.empty):=by kernel_rfl
def Qr(x0:aC)(DT:T_1)(jY:Nat):Option ((T_1×Nat)⊕(T_1)):=
 aN (decide ((jY:Int)<(((x0.drop 1).length:Nat):Int))) (bnd (Fh_ DT (nth (x0.drop 1) jY [])) (λv21=>grd (0<=v21/\0<=v21.toNat/\v21.toNat<=DT.length) (nxt ((DT.take v21.toNat),(jY+1))))) (fin (some DT))
def Zx(x0:aC):Option (T_1):=
 aN (decide (((x0.length:Nat):Int)=0)) (some ([]:T_1)) (grd (0<x0.length) (grd (1<=x0.length/\x0.length<=x0.length) (bC (λq:T_1×Nat=>Qr x0 q.1 q.2) ((nth x0 0 []),0))))
theorem Hj_{σ:aj}{x0:aC}(au:dA σ aJ aI aH x0){r:T_1}(hh:Zx x0=some r):
  Con prog 127 #[.slice aI x0.length aH] σ [] (jQ (.string (bs r)) σ):=by
 dsimp only [Zx]at hh
 have f0_0b:=au.rv.big
 refine Con.mk (n:=26) Tryz.func127 z z z (λw0=> ?_)
 refine ψ (ω z (eu (.inr z) z) (ε (ζ (ψ (Φ z z (ω z (lenC z fK z) (ω z (OpVal.eql z z z) (ε (TC.cD z hh (λfC hh=> ?_) (λfC hh=> ?_))))))))))
 ·refine ψ (ω z (eu (.inr z) z) (ε (TC.ret (S.r ?_))))
  obtain rfl:=so hh
  exact rq [2] ⟨z,z,z⟩
 refine ι (S.n (ψ (Φ z z ?_)))
 obtain ⟨u7,hh⟩:=aP hh
 refine ω z (bU (i:=0) z fK fU z z au.rv.sl (by omega)) (ω z (fF ([]:T_1) z iG z au (by omega) z) (ω z (eu (.inr z) z) (ε (ζ (ψ (Φ z z ?_))))))
 obtain ⟨u11,hh⟩:=aP hh
 obtain ⟨a102,yx,Kq,hv102⟩:=au.subL 1 (by omega)
 have hr102b:=Kq.rv.big
 refine ω z (hv102 z fK fU z z) (ω z (lenC z fK z) (ξ z z (ε (υ (TC.ig (α:=(T_1×Nat)×(Unit)) (rgs [(3,1),(5,1),(15,10)]) (λg=>[(3,.string (bs g.1.1)),(15,.int .i64 ((g.1.2:Nat):Int))]) (λg=>[]) (λg=>σ) (λg=>bC (λq:T_1×Nat=>Qr x0 q.1 q.2) g.1=some r) (λg=>f_ (λq:T_1×Nat=>Qr x0 q.1 q.2) g.1) (((nth x0 0 []),0),()) (Sub.pre 0 z) z (by repeat (first|exact trivial|refine ⟨z,?_⟩)) hh (λg1 j1 hg1=> ?_))))))
 obtain ⟨⟨DT,jY⟩,_⟩:=g1
 have hh:=hg1;clear hg1
 try dsimp only
 obtain ⟨z1,hh,hR1⟩:=gJ hh
 dsimp only [Qr]at hh
 refine ψ (ω z (OpVal.lss z z z) (ε (ζ (TC.cD z hh (λl9 hh=> ?_) (λl9 hh=> ?_)))))
 ·refine ι (S.n (ζ (υ (ψ (ω z (bU z fK fU z z Kq.rv.sl (by omega)) (ω z (fF ([]:T_1) z iG z Kq (by omega) z) (ω z (eu (.inr z) z) (ε (η (ω z (eu (.inl z) z) (ω z (eu (.inl z) z) (ω z (eu (.inl z) z) ?_))))))))))))
  obtain ⟨v21,u21,hh⟩:=dM hh
  refine ν z (jF (H5_ u21) z z pf155 z z z ?_)
  obtain ⟨u22,hh⟩:=aP hh
  refine ω rfl (bo_ (l:=DT) (j:=v21.toNat) rfl kK rfl (by show Value.int _ _=_;rw [Int.toNat_of_nonneg (by omega)]) (by omega) (by omega)) (ω z (eu (.inr z) z) (TL.nil (B.n (S.n (η (ω z (OpVal.succ z z z (by omega)) (ξ z z (ε ?_))))))))
  obtain ⟨hh,Ep⟩:=dO hR1 hh
  exact lf (((DT.take v21.toNat),(jY+1)),()) Ep hh (Sub.pre 0 z)
 refine TC.exit (S.x (S.x ?_))
 replace hh:=dG hR1 hh
 refine Δ (S.n (ψ (ω z (eu (.inl z) z) (ω z (eu (.inr z) z) (ε (TC.ret ?_))))))
 obtain rfl:=so hh
 exact rq [2] ⟨z,z,z⟩
def Vh(x0:T_1):Option (Int⊕(Unit)):=
 grd (x0.length<=281474976710656) (aN (decide (4096<((x0.length:Nat):Int))) (some (.inl 2)) (some (.inr ())))
theorem Dw_{σ:aj}{x0:T_1}{r:Int⊕(Unit)}(hh:Vh x0=some r):
  uw prog 128 #[.string (bs x0)] σ [] 142 (λr:Unit=>(jQ (.tuple #[]) σ)) r:=by
 dsimp only [Vh]at hh
 refine uw.mk (n:=7) Tryz.func128 z z z (λw0=> ?_)
 have x0b:=H7 hh
 replace hh:=Hz hh
 refine ψ (ω z (eu (.inl z) z) (ω z (rY z kK z) (ω z (OpVal.gtr z z z) (ε (TC.cD z hh (λfC hh=> ?_) (λfC hh=> ?_))))))
 ·refine η (ω z (nD z zp_ VW z) (ω z (bt_ (v:= .agg #[.int .i64 2]) z underlying142 z) (TL.panic z z z ?_)))
  obtain rfl:=so hh
  exact z
 refine ι ?_
 obtain rfl:=so hh
 exact RetOk.mk' (rs:=[]) [] z (.inr z) RVs.nil (List.sublist_append_left _ _) ⟨z,z,z⟩
def Ea_(lT:Nat)(vM:aC)(v6:(List Tip)):Option ((aC×Nat)⊕(Int⊕(T_1×(List Tip)))):=
 grd (lT<vM.length) (nxt ((vM.set lT ((nth v6 lT aK).out)),(lT+1)))
def NR(v6:(List Tip))(v47:T_1)(dH:List Tip)(bY:Nat):Option (((List Tip)×Nat)⊕(Int⊕(T_1×(List Tip)))):=
 aN (decide ((bY:Int)<((v6.length:Nat):Int))) (grd (bY<dH.length) (grd (v47.length<=((nth dH bY aK).out).length/\((nth dH bY aK).out).length<=((nth dH bY aK).out).length) (grd (bY<dH.length) (grd (bY<(dH.set bY (⟨(nth dH bY aK).state,(((nth dH bY aK).out).drop v47.length)⟩:Tip)).length) (bnd (Vh ((nth (dH.set bY (⟨(nth dH bY aK).state,(((nth dH bY aK).out).drop v47.length)⟩:Tip)) bY aK).out)) (λv75=>su v75 (λv75k=>fin (some (.inl v75k))) (λv75r=>nxt ((dH.set bY (⟨(nth dH bY aK).state,(((nth dH bY aK).out).drop v47.length)⟩:Tip)),(bY+1))))))))) (fin (some (.inr (v47,dH))))
def IJ(v6:(List Tip))(vM:aC)(lT:Nat):Option ((aC×Nat)⊕(Int⊕(T_1×(List Tip)))):=
 aN (decide ((lT:Int)<((v6.length:Nat):Int))) (aN (decide (0<(lT:Int))) (grd (0<=(IntKind.i64.wrap ((lT:Int) - 1))/\(IntKind.i64.wrap ((lT:Int) - 1))<(v6.length:Int)) (aN (decide (((nth v6 ((IntKind.i64.wrap ((lT:Int) - 1)).toNat) aK).state)=((nth v6 lT aK).state))) (fin (some (.inl 12))) (Ea_ lT vM v6))) (Ea_ lT vM v6)) (fin (bnd (Zx vM) (λv47=>bnd (Vh v47) (λv50=>su v50 (λv50k=>some (.inl v50k)) (λv50r=>bC (λq:(List Tip)×Nat=>NR v6 v47 q.1 q.2) (v6,0))))))
def Fd_(x0:List Tip):Option (Int⊕(T_1×(List Tip))):=
 bnd (jp_ (sF nI x0)) (λv6=>grd (16 * v6.length<=281474976710656) (bC (λq:aC×Nat=>IJ v6 q.1 q.2) ((replicate v6.length ([]:T_1)),0)))
theorem E9_{σ:aj}{x0:List Tip}{r:Int⊕(T_1×(List Tip))}(hh:Fd_ x0=some r):
  uw prog 87 #[.slice aA x0.length ay] σ [φ 76 2 dJ (.slice aA x0.length ay) x0] 142 (λr:T_1×(List Tip)=>(λv σ' H'=> ∃a1 c1,v= .tuple #[.string (bs r.1),.slice a1 r.2.length c1]/\RS σ' 2 dJ (.slice a1 r.2.length c1) r.2/\H'=[])) r:=by
 dsimp only [Fd_]at hh
 refine uw.mk (n:=74) Tryz.func87 z z z (λw0=> ?_)
 refine ψ (ω z (eu (.inr z) z) (Φ z z (ε (ψ (Φ z z ?_)))))
 have hn102:(sF nI x0).length=x0.length:=List.length_mergeSort _
 refine ν z (OpOk.call (Iz_ (l:=x0)) z z SN z z z z ?_)
 rintro _ _ _ _ ⟨rfl,hz_,rfl⟩
 rw [<-hz_]
 refine ε (ψ (Φ z z ?_))
 rw [<-hn102]
 obtain ⟨v6,u6,hh⟩:=dM hh
 refine ν z (OpOk.call (Hh_ u6) z z SL z z z z ?_)
 rintro _ _ _ hle103 ⟨a103_1,c103_2,rfl,rfl,rfl⟩
 refine Φ z z (ε (ψ (Φ z z (ω z (lenC z kX z) ?_))))
 obtain ⟨u10,hh⟩:=aP hh
 refine ν z (pz (enc:=aJ) ([]:T_1) z fK fU zF sQ z z z z (by omega) (by decide) bF (by decide) z rE (λa105 c106=> ?_))
 refine Φ z z (ε (ζ (ψ (Φ z z (ω z (lenC z kX z) (ξ z z (ε (υ (TC.ig (α:=(aC×Nat)×(Unit)) (rgs [(5,2),(18,26)]) (λg=>[(18,.int .i64 ((g.1.2:Nat):Int))]) (λg=>[φ 76 2 dJ (.slice a103_1 v6.length c103_2) v6,φ 9 1 aJ (.slice a105 (replicate v6.length ([]:T_1)).length c106) g.1.1]) (λg=>σ) (λg=>bC (λq:aC×Nat=>IJ v6 q.1 q.2) g.1=some r/\g.1.1.length=(replicate v6.length ([]:T_1)).length) (λg=>f_ (λq:aC×Nat=>IJ v6 q.1 q.2) g.1) (((replicate v6.length ([]:T_1)),0),()) (Θ [1] 2) z (by repeat (first|exact trivial|refine ⟨z,?_⟩)) ⟨hh,z⟩ (λg1 j1 hg1=> ?_))))))))))
 obtain ⟨⟨vM,lT⟩,_⟩:=g1
 obtain ⟨hh,GL⟩:=hg1
 try dsimp only at GL ⊢
 obtain ⟨z1,hh,hR1⟩:=gJ hh
 dsimp only [IJ]at hh
 refine χ (i:=0) z (λ_ hb117 _=> ?_)
 refine χ (i:=1) z (λ_ hb118 _=> ?_)
 refine ψ (ω z (OpVal.lss z z z) (ε (ζ (TC.cD z hh (λh119 hh=> ?_) (λh119 hh=> ?_)))))
 ·refine ι (S.n (ζ (υ (ψ (ξ z z (TL.isSl (i:=0) z (λhs120 _ _=> ?_)))))))
  refine ω z (bU z kX jP z z hs120 (by omega)) (ω z (Me aK z DU jP z (q:=0) z g_ (by omega) (by omega)) (ν z (OpOk.alloc z vP z z (λb121=> ?_))))
  refine ξ z z (ν z (storeAll z jP z z z z z z ?_))
  refine ε (TC.cutG (α:=(Unit)×(Unit)) (rgs [(23,15)]) (λg=>[]) (λg=>[φ 76 2 dJ (.slice a103_1 v6.length c103_2) v6,φ 9 1 aJ (.slice a105 (replicate v6.length ([]:T_1)).length c106) vM,κ b121 #[.int .i64 ((nth v6 lT aK).state),.string (bs ((nth v6 lT aK).out))] 76]) (λg=>σ) (λg=>Ea_ lT vM v6=some z1/\vM.length=(replicate v6.length ([]:T_1)).length) ?_ (λg j hg=> ?_))
  ·skip
   refine ζ (TC.draw [] (by kernel_rfl) (Ω 0 z (dw (.inl z) z) z (Ω 1 z (OpVal.gtr z z z) z (Ω 2 z (moveB (.inl z) z) z (TA.split 25 z (λx9=> ?_) (λx9=> ?_))))))
   ·replace hh:=gZ x9 hh
    replace x9:=jg x9
    refine TA.on 3 z z z z (gu (.inl z) z) z (TA.on 4 z z z z (dw (.inl z) z) z (TA.on 5 z z z z (subW z z z) z ?_))
    obtain ⟨u28,hh⟩:=aP hh
    refine TA.isSl (i:=1) z (λhs125 _ _=> ?_)
    refine TA.on 6 z z z z (OpVal.index z kX jP z z hs125 u28.1 u28.2) z (TA.isSl (i:=1) z (λhs126 _ _=> ?_))
    refine TA.on 7 z z z z (bh_ z EZ z hs126 (by omega)) z (TA.on 8 z z z z (cp_ aK z fJ z (q:=1) z g_ (by omega) (by omega) z) z (TA.on 9 z z z z (aS z EZ z) z (TA.on 10 z z z z (aZ z fJ z (i:=0) z z) z (TA.on 11 z z z z (OpVal.eql z z z) z (Ω 12 z (dS z z z) z (TA.dn (S.n (TC.cD z hh (λh127 hh=> ?_) (λh127 hh=> ?_)))))))))
    ·refine η (ω z (nD z zp_ VW z) (ω z (bt_ (v:= .agg #[.int .i64 12]) z underlying142 z) (TL.panic z z z ?_)))
     replace hh:=dG hR1 hh
     obtain rfl:=so hh
     exact z
    exact ι (S.n (cf ((),()) ⟨hh,GL⟩ (Θ [2,2] 3)))
   replace hh:=gY x9 hh
   replace x9:=jo x9
   exact TA.off 3 z z z z z z (TA.off 4 z z z z z z (TA.off 5 z z z z z z (TA.off 6 z z z z z z (TA.off 7 z z z z z z (TA.off 8 z z z z z z (TA.off 9 z z z z z z (TA.off 10 z z z z z z (TA.off 11 z z z z z z (Ω 12 z (dV z z z) z (TA.dn (S.n (TC.f z (ι (S.n (cf ((),()) ⟨hh,GL⟩ (Θ [2,2] 3))))))))))))))))
  skip
  obtain ⟨_,_⟩:=g
  obtain ⟨hh,gG⟩:=hg
  try dsimp only at gG ⊢
  dsimp only [Ea_]at hh
  refine χ (i:=0) z (λ_ Dl _=> ?_)
  refine χ (i:=1) z (λ_ hb129 _=> ?_)
  refine η (Φ z z (ξ z z (ω z (aS z AQ z) (ω z (aZ z iG z (i:=2) z z) ?_))))
  obtain ⟨u42,hh⟩:=aP hh
  refine TL.isSl (i:=1) z (λwX _ _=> ?_)
  refine ω z (bU z fK fU z z wX (by omega)) (θ 1 z z ?_)
  have Ce:(vM.set lT ((nth v6 lT aK).out)).length=(replicate v6.length ([]:T_1)).length:=by rw [gy];exact gG
  refine ν z (lG ((nth v6 lT aK).out) z fU z z z z bF rE (by omega) (by omega) ?_)
  refine TL.nil (B.n (S.n (η (ω z (OpVal.succ z z z (by omega)) (ξ z z (ε ?_))))))
  obtain ⟨hh,Em⟩:=dO hR1 hh
  exact lf (((vM.set lT ((nth v6 lT aK).out)),(lT+1)),()) Em ⟨hh,Ce⟩ (Θ [1] 2)
 refine TC.exit (S.x (S.x ?_))
 replace hh:=dG hR1 hh
 refine Δ (S.n (ψ (Φ z z ?_)))
 rw [<-GL]
 obtain ⟨v47,Nh,hh⟩:=dM hh
 refine θ 1 z z (ν z (Ve (Con.lend bF (λ_ rQ hr133=>Hj_ hr133 Nh)) z z SK z z z z ?_))
 refine ω z (eu (.inr z) z) (ε (ψ (ω z (eu (.inl z) z) ?_)))
 obtain ⟨v50,VI,hh⟩:=dM hh
 rcases v50 with v50k|v50r
 ·dsimp only [su]at hh
  refine TL.P7 z (uw.l (Dw_ VI)) z z ZV z z (λτ135 hle135=> ?_)
  obtain rfl:=so hh
  exact z
 dsimp only [su]at hh
 refine ν z (ck_ (Dw_ VI) z z z ZV z z z ?_)
 refine ε (ζ (ψ (Φ z z (ω z (lenC z kX z) (ξ z z (ε (υ (TC.ig (α:=((List Tip)×Nat)×(Unit)) (rgs [(8,1),(50,22)]) (λg=>[(50,.int .i64 ((g.1.2:Nat):Int))]) (λg=>[φ 76 2 dJ (.slice a103_1 v6.length c103_2) g.1.1]) (λg=>σ) (λg=>bC (λq:(List Tip)×Nat=>NR v6 v47 q.1 q.2) g.1=some r/\g.1.1.length=v6.length) (λg=>f_ (λq:(List Tip)×Nat=>NR v6 v47 q.1 q.2) g.1) ((v6,0),()) (Θ [1] 1) z (by repeat (first|exact trivial|refine ⟨z,?_⟩)) ⟨hh,z⟩ (λg2 j2 hg2=> ?_)))))))))
 obtain ⟨⟨dH,bY⟩,_⟩:=g2
 obtain ⟨hh,mP⟩:=hg2
 try dsimp only at mP ⊢
 obtain ⟨z1,hh,hR1⟩:=gJ hh
 dsimp only [NR]at hh
 refine χ (i:=0) z (λ_ Dk _=> ?_)
 refine ψ (ω z (OpVal.lss z z z) (ε (ζ (TC.cD z hh (λEP hh=> ?_) (λEP hh=> ?_)))))
 ·refine ι (S.n (ζ (υ (ψ (ξ z z (ξ z z (ε (ψ (Φ z z (ξ z z (Φ z z (ξ z z ?_))))))))))))
  obtain ⟨u61,hh⟩:=aP hh
  refine TL.isSl (i:=0) z (λhs147 _ _=> ?_)
  refine ω z (bU z kX jP z z hs147 (by omega)) (TL.isSl (i:=0) z (λJZ _ _=> ?_))
  refine ω z (bh_ z AQ z JZ (by omega)) (ω z (cp_ aK z iG z (q:=0) z g_ (by omega) (by omega) z) (ω z (eu (.inl z) z) (ω z (rY z kK z) ?_)))
  obtain ⟨u66,hh⟩:=aP hh
  refine ω z (bk_ (l:=(nth dH bY aK).out) (i:=v47.length) z kK z z (by omega) (by omega)) ?_
  obtain ⟨u67,hh⟩:=aP hh
  refine TL.isSl (i:=0) z (λwW _ _=> ?_)
  refine ω z (bU z kX jP z z wW (by omega)) (TL.isSl (i:=0) z (λhs150 _ _=> ?_))
  refine ω z (bh_ z AQ z hs150 (by omega)) ?_
  have Gx:(dH.set bY (⟨(nth dH bY aK).state,(((nth dH bY aK).out).drop v47.length)⟩:Tip)).length=v6.length:=by rw [gy];exact mP
  refine ν rfl (c1_ (u:= .string (bs (((nth dH bY aK).out).drop v47.length))) aK (⟨(nth dH bY aK).state,(((nth dH bY aK).out).drop v47.length)⟩:Tip) rfl fU rfl rfl rfl rfl rfl (λc hc=>by rw [List.mem_singleton.1 (show c∈[_]from hc)];rfl) g_ (by decide) (by decide) (by omega) ?_)
  refine ε (η (Φ z z (ξ z z ?_)))
  obtain ⟨u72,hh⟩:=aP hh
  refine TL.isSl (i:=0) z (λhs152 _ _=> ?_)
  refine ω z (bU z kX jP z z hs152 (by omega)) (TL.isSl (i:=0) z (λhs153 _ _=> ?_))
  refine ω z (bh_ z AQ z hs153 (by omega)) (ω z (cp_ aK z iG z (q:=0) z g_ (by omega) (by omega) z) ?_)
  obtain ⟨v75,u75,hh⟩:=dM hh
  rcases v75 with v75k|v75r
  ·dsimp only [su]at hh
   refine TL.P7 z (uw.l (Dw_ u75)) z z ZV z z (λτ154 hle154=> ?_)
   replace hh:=dG hR1 hh
   obtain rfl:=so hh
   exact z
  dsimp only [su]at hh
  refine ν z (ck_ (Dw_ u75) z z z ZV z z z ?_)
  refine TL.nil (B.n (S.n (η (ω z (OpVal.succ z z z (by omega)) (ξ z z (ε ?_))))))
  obtain ⟨hh,Ed⟩:=dO hR1 hh
  exact lf (((dH.set bY (⟨(nth dH bY aK).state,(((nth dH bY aK).out).drop v47.length)⟩:Tip)),(bY+1)),()) Ed ⟨hh,Gx⟩ (Sub.pre 1 z)
 refine TC.exit (S.x (S.x ?_))
 replace hh:=dG hR1 hh
 refine Δ (S.n (ψ (ω z (eu (.inl z) z) (Φ z z (ω z (eu (.inr z) z) (Φ z z (ε ?_)))))))
 rw [<-mP]
 refine TC.oh g_ (λτ158 hle157 Ui=> ?_)
 have hr156b:=Ui.rv.big
 refine TC.ret ?_
 obtain rfl:=so hh
 exact rq [2,3] ⟨a103_1,c103_2,z,Ui,z⟩
def Qn(x0:List Tip)(lD:T_1)(wU:Nat):Option ((T_1×Nat)⊕(T_1)):=
 aN (decide ((wU:Int)<((x0.length:Nat):Int))) (grd (-9223372036854775808<=((nth x0 wU aK).state)/\((nth x0 wU aK).state)<=9223372036854775807) (bnd (zA (⟨lD⟩:SB) (Lib.itoa ((nth x0 wU aK).state))) (λv14=>bnd (FN (⟨v14.2.2.buf⟩:SB) (58:UInt8)) (λv15=>grd (-9223372036854775808<=((((nth x0 wU aK).out).length:Nat):Int)/\((((nth x0 wU aK).out).length:Nat):Int)<=9223372036854775807) (bnd (zA (⟨v15.2.buf⟩:SB) (Lib.itoa ((((nth x0 wU aK).out).length:Nat):Int))) (λv20=>bnd (FN (⟨v20.2.2.buf⟩:SB) (58:UInt8)) (λv21=>bnd (zA (⟨v21.2.buf⟩:SB) ((nth x0 wU aK).out)) (λv24=>nxt (v24.2.2.buf,(wU+1)))))))))) (fin (bnd (WJ (⟨lD⟩:SB)) (λv27=>some v27)))
def G1_(x0:List Tip):Option (T_1):=
 bC (λq:T_1×Nat=>Qn x0 q.1 q.2) (([]:T_1),0)
theorem Iq_{σ:aj}{x0:List Tip}(hgl:Dz σ 1 2)(au:RS σ 2 dJ (.slice aI x0.length aH) x0){r:T_1}(hh:G1_ x0=some r):
  Con prog 129 #[.slice aI x0.length aH] σ [] (jQ (.string (bs r)) σ):=by
 dsimp only [G1_]at hh
 have f0_0b:=au.rv.big
 refine Con.mk (n:=28) Tryz.func129 z z z (λw0=> ?_)
 refine ψ (ω z (eu (.inr z) z) (ε (ψ (ν z (OpOk.alloc z Vz z z (λbG=> ?_))))))
 refine TL.asH (H':=[κ bG #[uq false bG,bT] 92]) z (ε (ζ (ψ (Φ z z (ω z (lenC z kX z) (ξ z z (ε (υ (TC.nilS 5 1 kE (TC.ig (α:=(T_1×Nat)×(Bool×(Option Addr)×Nat)) (rgs [(5,1),(8,19)]) (λg=>[(8,.int .i64 ((g.1.2:Nat):Int))]) (λg=>[κ bG #[uq g.2.1 bG,.slice g.2.2.1 g.1.1.length g.2.2.2] 92,φ 5 1 kE (.slice g.2.2.1 g.1.1.length g.2.2.2) g.1.1]) (λg=>σ) (λg=>bC (λq:T_1×Nat=>Qn x0 q.1 q.2) g.1=some r) (λg=>f_ (λq:T_1×Nat=>Qn x0 q.1 q.2) g.1) ((([]:T_1),0),(false,none,0)) (Θ [1] 2) z (by repeat (first|exact trivial|refine ⟨z,?_⟩)) hh (λg1 j1 hg1=> ?_)))))))))))
 obtain ⟨⟨lD,wU⟩,⟨u115,qM,c119⟩⟩:=g1
 have hh:=hg1;clear hg1
 try dsimp only
 obtain ⟨z1,hh,hR1⟩:=gJ hh
 dsimp only [Qn]at hh
 refine χ (i:=1) z (λ_ hb122 _=> ?_)
 refine ψ (ω z (OpVal.lss z z z) (ε (ζ (TC.cD z hh (λh123 hh=> ?_) (λh123 hh=> ?_)))))
 ·refine ι (S.n (ζ (υ (ψ (ω z (bU z kX jP z z au.rv.sl (by omega)) (ω z (Io aK z DU jP z au (by omega) (by omega)) (ν z (OpOk.alloc z vP z z (λb124=> ?_)))))))))
  refine ν z (storeAll z jP z z z z z z ?_)
  refine ε (ψ (ω z (aS z EZ z) (ω z (aZ z fJ z (i:=0) z z) ?_)))
  obtain ⟨u13,hh⟩:=aP hh
  refine ν z (jF (m0_ hgl u13) z z wd_ z z z ?_)
  refine θ 2 z z (θ 2 z z ?_)
  obtain ⟨v14,u14,hh⟩:=dM hh
  refine ν z (OpOk.call (PK u14) z z Oc z z z z ?_)
  rintro _ _ _ Yr ⟨u126_1,a126_2,c126_3,rfl,rfl,rfl⟩
  refine ε (ψ (θ 1 z z (θ 1 z z ?_)))
  obtain ⟨v15,u15,hh⟩:=dM hh
  refine ν z (OpOk.call (hv_ u15) z z ZY z z z z ?_)
  rintro _ _ _ kY ⟨u128_1,a128_2,c128_3,rfl,rfl,rfl⟩
  refine ε (ψ (ω z (aS z AQ z) (ω z (aZ z iG z (i:=2) z z) (ω z (rY z kK z) ?_))))
  obtain ⟨wo,hh⟩:=aP hh
  refine ν z (jF (m0_ hgl wo) z z wd_ z z z ?_)
  refine θ 1 z z (θ 1 z z ?_)
  obtain ⟨v20,u20,hh⟩:=dM hh
  refine ν z (OpOk.call (PK u20) z z Oc z z z z ?_)
  rintro _ _ _ qh ⟨u130_1,a130_2,c130_3,rfl,rfl,rfl⟩
  refine ε (ψ (θ 1 z z (θ 1 z z ?_)))
  obtain ⟨v21,u21,hh⟩:=dM hh
  refine ν z (OpOk.call (hv_ u21) z z ZY z z z z ?_)
  rintro _ _ _ xW ⟨u132_1,a132_2,c132_3,rfl,rfl,rfl⟩
  refine ε (η (ω z (aS z AQ z) (ω z (aZ z iG z (i:=2) z z) (θ 1 z z (θ 1 z z ?_)))))
  obtain ⟨v24,u24,hh⟩:=dM hh
  refine ν z (OpOk.call (PK u24) z z Oc z z z z ?_)
  rintro _ _ _ rQ ⟨u134_1,a134_2,c134_3,rfl,rfl,rfl⟩
  refine TL.nil (B.n (S.n (η (ω z (OpVal.succ z z z (by omega)) (ξ z z (ε ?_))))))
  obtain ⟨hh,xC⟩:=dO hR1 hh
  exact lf ((v24.2.2.buf,(wU+1)),(u134_1,a134_2,c134_3)) xC hh (Θ [1,1] 2)
 refine TC.exit (S.x (S.x ?_))
 replace hh:=dG hR1 hh
 refine Δ (S.n (ψ (θ 1 z z (θ 1 z z ?_))))
 obtain ⟨v27,u27,hh⟩:=dM hh
 refine ν z (OpOk.call (ka_ u27) z z V_ z z z z ?_)
 rintro _ _ _ hle137 ⟨rfl,rfl,rfl⟩
 refine ω z (eu (.inr z) z) (ε (TC.ret ?_))
 obtain rfl:=so hh
 exact rq [2] ⟨z,z,z⟩
def IK(x0:Maker)(x1:List Tip):Option (Int⊕(Int×Maker)):=
 bnd (G1_ x1) (λv3=>aN (x0.places.has v3) (some (.inr ((x0.places.get v3 0),x0))) (aN (decide (x0.most<=((x0.rows.length:Nat):Int))) (some (.inl 2)) (grd ((x0.rows.length+[x1].length) * 24<=140737488355328) (some (.inr (((x0.rows.length:Nat):Int),(⟨x0.arcs,x0.ends,x0.most,(x0.rows++[x1]),(x0.places.put v3 ((x0.rows.length:Nat):Int)),x0.q⟩:Maker)))))))
theorem Dr_{σ:aj}{x0:Maker}{iM:List (List Tip×(aB 2 dJ g_).P)}{z0_14:List (ak×(aB 1 aG bn).P)}{z0_18:List (aC×(aB 1 aJ bF).P)}{x1:List Tip}(hgl:Dz σ 1 2)(aQ:RZ σ (aB 8 kF wB) (.slice aA x0.arcs.length ay) x0.arcs)(fG:RZ σ (aB 1 aJ bF) (.slice jy x0.ends.length jr) x0.ends)(zf0_10:ZOk σ (aB 2 dJ g_) iM x0.rows)(zf0_15:ZOk σ (aB 1 aG bn) z0_14 x0.q.next)(zf0_19:ZOk σ (aB 1 aJ bF) z0_18 x0.q.outs)(bP:RS σ 2 dJ (.slice eF x1.length dZ) x1){r:Int⊕(Int×Maker)}(hh:IK x0 x1=some r):
  uw prog 89 #[loc cO 0,.slice eF x1.length dZ] σ [κ cO #[.slice aA x0.arcs.length ay,.slice jy x0.ends.length jr,.int .i64 x0.most,.slice iH x0.rows.length iF,.map (some b0_11),.string (bs x0.q.front),.slice a0_12 x0.q.next.length c0_13,.slice a0_16 x0.q.outs.length c0_17,.slice a0_20 x0.q.fin.length c0_21,.slice a0_22 x0.q.tail.length c0_23] pK,φ 22 1 (aB 2 dJ g_).en (.slice iH x0.rows.length iF) iM,Res.mapB mg nT (some b0_11) x0.places,φ 86 1 (aB 1 aG bn).en (.slice a0_12 x0.q.next.length c0_13) z0_14,φ 30 1 (aB 1 aJ bF).en (.slice a0_16 x0.q.outs.length c0_17) z0_18,dW 4 eq_ a0_20 c0_21 x0.q.fin,dW 9 aJ a0_22 c0_23 x0.q.tail] 142 (λr:Int×Maker=>(λv σ' H'=> ∃Dx Dp, ∃(zo3:List (List Tip×(aB 2 dJ g_).P)), ∃bo5,v= .int .i64 r.1/\ZOk σ' (aB 2 dJ g_) zo3 r.2.rows/\H'=[κ cO #[.slice aA x0.arcs.length ay,.slice jy x0.ends.length jr,.int .i64 x0.most,.slice Dx r.2.rows.length Dp,.map (some bo5),.string (bs x0.q.front),.slice a0_12 x0.q.next.length c0_13,.slice a0_16 x0.q.outs.length c0_17,.slice a0_20 x0.q.fin.length c0_21,.slice a0_22 x0.q.tail.length c0_23] pK,φ 22 1 (aB 2 dJ g_).en (.slice Dx r.2.rows.length Dp) zo3,Res.mapB mg nT (some bo5) r.2.places,φ 86 1 (aB 1 aG bn).en (.slice a0_12 x0.q.next.length c0_13) z0_14,φ 30 1 (aB 1 aJ bF).en (.slice a0_16 x0.q.outs.length c0_17) z0_18,dW 4 eq_ a0_20 c0_21 x0.q.fin,dW 9 aJ a0_22 c0_23 x0.q.tail])) r:=by
 dsimp only [IK]at hh
 have f0_3b:=aQ.big
 have f0_6b:=fG.big
 have zf0_10b:=zf0_10.length
 have zf0_15b:=zf0_15.length
 have zf0_19b:=zf0_19.length
 have f1_0b:=bP.rv.big
 refine uw.mk (n:=52) Tryz.func89 z z z (λw0=> ?_)
 refine ψ (ξ z z (ε (ψ (Φ z z ?_))))
 obtain ⟨v3,u3,hh⟩:=dM hh
 refine ν z (jF (Iq_ hgl bP u3) z z pf129 z z z ?_)
 refine ω z (eu (.inr z) z) (ε (ζ (ψ (TL.l z z (ω z (nJ z z) (ω z (aS z fo74_4 z) (ω z (aZ z RJ z (i:=0) z z) (ω z (eu (.inl z) z) (ω z (OpVal.of (lookB 0 (q:=v3) z underlying70 lu z (i:=2) z z (m3_ kK)) (v':= .tuple #[.int .i64 (x0.places.get v3 0),.bool (x0.places.has v3)]) z) (ω z (wC (.inl z) z) (ω z (OpVal.extract z z z) (ω z (OpVal.extract z z z) (ξ z z (TL.j z z (ε ?_)))))))))))))))
 refine ψ (TL.j z z (ε (TC.cB z hh (λh112 hh=> ?_) (λh112 hh=> ?_))))
 ·refine ψ (ξ z z (ξ z z (ε (TC.ret (S.r ?_)))))
  obtain rfl:=so hh
  exact ro [κ cO #[.slice aA x0.arcs.length ay,.slice jy x0.ends.length jr,.int .i64 x0.most,.slice iH x0.rows.length iF,.map (some b0_11),.string (bs x0.q.front),.slice a0_12 x0.q.next.length c0_13,.slice a0_16 x0.q.outs.length c0_17,.slice a0_20 x0.q.fin.length c0_21,.slice a0_22 x0.q.tail.length c0_23] pK,φ 22 1 (aB 2 dJ g_).en (.slice iH x0.rows.length iF) iM,Res.mapB mg nT (some b0_11) x0.places,φ 86 1 (aB 1 aG bn).en (.slice a0_12 x0.q.next.length c0_13) z0_14,φ 30 1 (aB 1 aJ bF).en (.slice a0_16 x0.q.outs.length c0_17) z0_18,dW 4 eq_ a0_20 c0_21 x0.q.fin,dW 9 aJ a0_22 c0_23 x0.q.tail] z (RVs.tmp z RVs.nil) ⟨iH,iF,iM,b0_11,z,zf0_10,z⟩
 refine ι (S.n (ψ (TL.l z z (ω z (nJ z z) (ω z (aS z r7_ z) (ω z (aZ z Qb z (i:=0) z z) (ω z (lenC z underlying72 z) (ξ z z (ε (ζ (ψ (ξ z z (TL.l z z (ω z (nJ z z) (ω z (aS z fo74_2 z) ?_)))))))))))))))
 refine ω z (aZ z fJ z (i:=0) z z) (ω z (OpVal.geq z z z) (ε (TC.cD z hh (λqA hh=> ?_) (λqA hh=> ?_))))
 ·refine η (ω z (nD z zp_ VW z) (ω z (bt_ (v:= .agg #[.int .i64 2]) z underlying142 z) (TL.panic z z z ?_)))
  obtain rfl:=so hh
  exact z
 refine ι (S.n (ψ (TL.l z z (ω z (nJ z z) (ω z (aS z fo74_4 z) (ω z (aZ z RJ z (i:=0) z z) (ω z (eu (.inl z) z) (ξ z z (θ 2 z z (ν z (updB v3 ((x0.rows.length:Nat):Int) z underlying70 z z z z (m3_ kK) ?_)))))))))))
 refine ε (ψ (TL.l z z (TL.l z z (ω z (nJ z z) (ω z (aS z r7_ z) (ω z (aZ z Qb z (i:=1) z z) (Φ z z ?_)))))))
 have wL:ZOk _ (aB 2 dJ g_) ([(x1,(eF,dZ))]:List (List Tip×(aB 2 dJ g_).P)) [x1]:=ZOk.cons (bP) (ZOk.nil _ _)
 refine ν z (litZ wL z underlying72 Jv z ze22 z z z (by decide) (by decide) z (by decide) z (by decide) (λpq o_=> ?_))
 refine θ 3 z z ?_
 obtain ⟨u48,hh⟩:=aP hh
 refine ν z (MJ (k:=(aB 2 dJ g_)) zf0_10 wL z z underlying72 Jv by22 ze22 z z (by decide) z z z (.inr ⟨_,0,z⟩) (by simpa using u48) (by decide) (λqM c119 Bc=> ?_))
 refine ω z (nJ z z) (ω z (aS z r7_ z) (θ 3 z z (ν z (gK z sz72 z z z z z ?_))))
 refine ε (ψ (ξ z z (ξ z z (ε (TC.sG (Θ [7,7,7,7,7,6,6] 7) (TC.ret ?_))))))
 obtain rfl:=so hh
 exact ro [κ cO #[.slice aA x0.arcs.length ay,.slice jy x0.ends.length jr,.int .i64 x0.most,.slice qM ((x0.rows++[x1]).length) c119,.map (some b0_11),.string (bs x0.q.front),.slice a0_12 x0.q.next.length c0_13,.slice a0_16 x0.q.outs.length c0_17,.slice a0_20 x0.q.fin.length c0_21,.slice a0_22 x0.q.tail.length c0_23] pK,φ 22 1 (aB 2 dJ g_).en (.slice qM (x0.rows++[x1]).length c119) (iM++([(x1,(eF,dZ))]:List (List Tip×(aB 2 dJ g_).P))),Res.mapB mg nT (some b0_11) (x0.places.put v3 ((x0.rows.length:Nat):Int)),φ 86 1 (aB 1 aG bn).en (.slice a0_12 x0.q.next.length c0_13) z0_14,φ 30 1 (aB 1 aJ bF).en (.slice a0_16 x0.q.outs.length c0_17) z0_18,dW 4 eq_ a0_20 c0_21 x0.q.fin,dW 9 aJ a0_22 c0_23 x0.q.tail] z (RVs.tmp z RVs.nil) ⟨qM,c119,(iM++([(x1,(eF,dZ))]:List (List Tip×(aB 2 dJ g_).P))),b0_11,z,Bc,z⟩
def Dd_(x1:List Tip)(fH:Nat)(x0:Maker)(vT:Nat):Option ((Bool×T_1×Nat)⊕((Bool×T_1×Nat)⊕(Int⊕(Bool×T_1)))):=
 nxt (true,((nth x1 fH aK).out++(nth (nth x0.ends (((nth x1 fH aK).state).toNat) []) vT [])),(vT+1))
def N7(x0:Maker)(x1:List Tip)(fH:Nat)(Oq:Bool)(Ou:T_1)(vT:Nat):Option ((Bool×T_1×Nat)⊕((Bool×T_1×Nat)⊕(Int⊕(Bool×T_1)))):=
 aN (decide ((vT:Int)<(((nth x0.ends (((nth x1 fH aK).state).toNat) []).length:Nat):Int))) (grd (((nth x1 fH aK).out).length+(nth (nth x0.ends (((nth x1 fH aK).state).toNat) []) vT []).length<=9223372036854775807) (aN Oq (aN (decide (((nth x1 fH aK).out++(nth (nth x0.ends (((nth x1 fH aK).state).toNat) []) vT []))≠Ou)) (fin (fin (some (.inl 12)))) (Dd_ x1 fH x0 vT)) (Dd_ x1 fH x0 vT))) (fin (nxt (Oq,Ou,(fH+1))))
def QM(x1:List Tip)(x0:Maker)(Ot:Bool)(Jz:T_1)(fH:Nat):Option ((Bool×T_1×Nat)⊕(Int⊕(Bool×T_1))):=
 aN (decide ((fH:Int)<((x1.length:Nat):Int))) (grd (0<=((nth x1 fH aK).state)/\((nth x1 fH aK).state)<(x0.ends.length:Int)) (bC (λq:Bool×T_1×Nat=>N7 x0 x1 fH q.1 q.2.1 q.2.2) (Ot,Jz,0))) (fin (bnd (Vh Jz) (λv49=>su v49 (λv49k=>some (.inl v49k)) (λv49r=>some (.inr (Ot,Jz))))))
def Ed_(x0:Maker)(x1:List Tip):Option (Int⊕(Bool×T_1)):=
 bC (λq:Bool×T_1×Nat=>QM x1 x0 q.1 q.2.1 q.2.2) (false,([]:T_1),0)
theorem F3_{σ:aj}{x0:Maker}{iM:List (List Tip×(aB 2 dJ g_).P)}{z0_14:List (ak×(aB 1 aG bn).P)}{z0_18:List (aC×(aB 1 aJ bF).P)}{x1:List Tip}(aQ:RZ σ (aB 8 kF wB) (.slice aA x0.arcs.length ay) x0.arcs)(fG:RZ σ (aB 1 aJ bF) (.slice jy x0.ends.length jr) x0.ends)(zf0_10:ZOk σ (aB 2 dJ g_) iM x0.rows)(zf0_15:ZOk σ (aB 1 aG bn) z0_14 x0.q.next)(zf0_19:ZOk σ (aB 1 aJ bF) z0_18 x0.q.outs)(bP:RS σ 2 dJ (.slice eF x1.length dZ) x1){r:Int⊕(Bool×T_1)}(hh:Ed_ x0 x1=some r):
  uw prog 130 #[loc cO 0,.slice eF x1.length dZ] σ [κ cO #[.slice aA x0.arcs.length ay,.slice jy x0.ends.length jr,.int .i64 x0.most,.slice iH x0.rows.length iF,.map (some b0_11),.string (bs x0.q.front),.slice a0_12 x0.q.next.length c0_13,.slice a0_16 x0.q.outs.length c0_17,.slice a0_20 x0.q.fin.length c0_21,.slice a0_22 x0.q.tail.length c0_23] pK,φ 22 1 (aB 2 dJ g_).en (.slice iH x0.rows.length iF) iM,Res.mapB mg nT (some b0_11) x0.places,φ 86 1 (aB 1 aG bn).en (.slice a0_12 x0.q.next.length c0_13) z0_14,φ 30 1 (aB 1 aJ bF).en (.slice a0_16 x0.q.outs.length c0_17) z0_18,dW 4 eq_ a0_20 c0_21 x0.q.fin,dW 9 aJ a0_22 c0_23 x0.q.tail] 142 (λr:Bool×T_1=>(λv σ' H'=>v= .tuple #[.bool r.1,.string (bs r.2)]/\σ=σ'/\H'=[κ cO #[.slice aA x0.arcs.length ay,.slice jy x0.ends.length jr,.int .i64 x0.most,.slice iH x0.rows.length iF,.map (some b0_11),.string (bs x0.q.front),.slice a0_12 x0.q.next.length c0_13,.slice a0_16 x0.q.outs.length c0_17,.slice a0_20 x0.q.fin.length c0_21,.slice a0_22 x0.q.tail.length c0_23] pK,φ 22 1 (aB 2 dJ g_).en (.slice iH x0.rows.length iF) iM,Res.mapB mg nT (some b0_11) x0.places,φ 86 1 (aB 1 aG bn).en (.slice a0_12 x0.q.next.length c0_13) z0_14,φ 30 1 (aB 1 aJ bF).en (.slice a0_16 x0.q.outs.length c0_17) z0_18,dW 4 eq_ a0_20 c0_21 x0.q.fin,dW 9 aJ a0_22 c0_23 x0.q.tail])) r:=by
 dsimp only [Ed_]at hh
 have f0_3b:=aQ.big
 have f0_6b:=fG.big
 have zf0_10b:=zf0_10.length
 have zf0_15b:=zf0_15.length
 have zf0_19b:=zf0_19.length
 have f1_0b:=bP.rv.big
 refine uw.mk (n:=51) Tryz.func130 z z z (λw0=> ?_)
 refine ψ (TL.j z z (ω z (eu (.inr z) z) (ε (ψ (TL.j z z (ω z (eu (.inr z) z) (ε (ζ (ψ (Φ z z (ω z (lenC z kX z) (ξ z z (ε (υ (TC.ig (α:=(Bool×T_1×Nat)×(aj)) (rgs [(6,2),(9,1),(11,2),(15,32)]) (λg=>[(6,.bool g.1.1),(7,.string (bs g.1.2.1)),(15,.int .i64 ((g.1.2.2:Nat):Int))]) (λg=>[κ cO #[.slice aA x0.arcs.length ay,.slice jy x0.ends.length jr,.int .i64 x0.most,.slice iH x0.rows.length iF,.map (some b0_11),.string (bs x0.q.front),.slice a0_12 x0.q.next.length c0_13,.slice a0_16 x0.q.outs.length c0_17,.slice a0_20 x0.q.fin.length c0_21,.slice a0_22 x0.q.tail.length c0_23] pK,φ 22 1 (aB 2 dJ g_).en (.slice iH x0.rows.length iF) iM,Res.mapB mg nT (some b0_11) x0.places,φ 86 1 (aB 1 aG bn).en (.slice a0_12 x0.q.next.length c0_13) z0_14,φ 30 1 (aB 1 aJ bF).en (.slice a0_16 x0.q.outs.length c0_17) z0_18,dW 4 eq_ a0_20 c0_21 x0.q.fin,dW 9 aJ a0_22 c0_23 x0.q.tail]) (λg=>g.2) (λg=>bC (λq:Bool×T_1×Nat=>QM x1 x0 q.1 q.2.1 q.2.2) g.1=some r/\ZOk g.2 (aB 2 dJ g_) iM x0.rows/\ZOk g.2 (aB 1 aG bn) z0_14 x0.q.next/\ZOk g.2 (aB 1 aJ bF) z0_18 x0.q.outs/\aj.le σ g.2) (λg=>f_ (λq:Bool×T_1×Nat=>QM x1 x0 q.1 q.2.1 q.2.2) g.1) ((false,([]:T_1),0),σ) (Θ [6,6,6,6,6,6,6] 7) z (by repeat (first|exact trivial|refine ⟨z,?_⟩)) ⟨hh,zf0_10,zf0_15,zf0_19,(aj.le.refl _)⟩ (λg1 j1 hg1=> ?_))))))))))))))))
 obtain ⟨⟨Ot,Jz,fH⟩,τ131⟩:=g1
 obtain ⟨hh,Jd,Jc,Jb,xW⟩:=hg1
 try dsimp only at Jd
 try dsimp only at Jc
 try dsimp only at Jb
 dsimp only at xW
 replace fG:=fG.mono xW
 replace bP:=bP.mono xW
 try dsimp only
 obtain ⟨z1,hh,hR1⟩:=gJ hh
 dsimp only [QM]at hh
 have zf125b:=Jd.length
 have zf126b:=Jc.length
 have zf127b:=Jb.length
 refine χ (i:=1) z (λ_ hb133 _=> ?_)
 refine χ (i:=3) z (λ_ U8 _=> ?_)
 refine χ (i:=4) z (λ_ hb135 _=> ?_)
 refine χ (i:=5) z (λ_ hb136 _=> ?_)
 refine χ (i:=6) z (λ_ U7 _=> ?_)
 refine ψ (ω z (OpVal.lss z z z) (ε (ζ (TC.cD z hh (λqx hh=> ?_) (λqx hh=> ?_)))))
 ·refine ι (S.n (ζ (υ (ψ (ω z (bU z kX jP z z bP.rv.sl (by omega)) (ω z (Io aK z DU jP z bP (by omega) (by omega)) (ν z (OpOk.alloc z vP z z (λb139=> ?_)))))))))
  refine ν z (storeAll z jP z z z z z z ?_)
  refine ε (ζ ?_)
  obtain ⟨wo,hh⟩:=aP hh
  refine TC.draw [] (by kernel_rfl) (Ω 0 z (MI (.inl z) z) z (Ω 1 z (nJ z z) z (Ω 2 z (aS z Z5 z) z (TA.b 3 z (aZ z pI z (i:=1) z z) z (Ω 4 z (aS z EZ z) z (TA.b 5 z (aZ z fJ z (i:=0) z z) z (TA.b 6 z (OpVal.index z lI mM z z fG.isSl wo.1 wo.2) z ?_)))))))
  obtain ⟨OW,xY,hg142⟩:=RZ.seg fG (((nth x1 fH aK).state).toNat) (by omega)
  replace xY:RS _ 1 aJ (.slice OW.1 (nth x0.ends (((nth x1 fH aK).state).toNat) []).length OW.2) (nth x0.ends (((nth x1 fH aK).state).toNat) []):=xY
  have hk142b:=xY.rv.big
  refine TA.b 7 z (OpVal.of (kZ z lJ z hg142 z) (v':= .slice OW.1 ((nth x0.ends (((nth x1 fH aK).state).toNat) []).length) OW.2) z) z (TA.b 8 z (lenC z fK z) z (Ω 9 z (dw (.inl z) z) z (TA.dn (S.n (υ (TC.ig (α:=(Bool×T_1×Nat)×(aj)) (rgs [(6,2),(11,2),(28,18)]) (λg=>[(6,.bool g.1.1),(7,.string (bs g.1.2.1)),(28,.int .i64 ((g.1.2.2:Nat):Int))]) (λg=>[κ cO #[.slice aA x0.arcs.length ay,.slice jy x0.ends.length jr,.int .i64 x0.most,.slice iH x0.rows.length iF,.map (some b0_11),.string (bs x0.q.front),.slice a0_12 x0.q.next.length c0_13,.slice a0_16 x0.q.outs.length c0_17,.slice a0_20 x0.q.fin.length c0_21,.slice a0_22 x0.q.tail.length c0_23] pK,φ 22 1 (aB 2 dJ g_).en (.slice iH x0.rows.length iF) iM,Res.mapB mg nT (some b0_11) x0.places,φ 86 1 (aB 1 aG bn).en (.slice a0_12 x0.q.next.length c0_13) z0_14,φ 30 1 (aB 1 aJ bF).en (.slice a0_16 x0.q.outs.length c0_17) z0_18,dW 4 eq_ a0_20 c0_21 x0.q.fin,dW 9 aJ a0_22 c0_23 x0.q.tail,κ b139 #[.int .i64 ((nth x1 fH aK).state),.string (bs ((nth x1 fH aK).out))] 76]) (λg=>g.2) (λg=>bC (λq:Bool×T_1×Nat=>N7 x0 x1 fH q.1 q.2.1 q.2.2) g.1=some z1/\ZOk g.2 (aB 2 dJ g_) iM x0.rows/\ZOk g.2 (aB 1 aG bn) z0_14 x0.q.next/\ZOk g.2 (aB 1 aJ bF) z0_18 x0.q.outs/\aj.le τ131 g.2) (λg=>f_ (λq:Bool×T_1×Nat=>N7 x0 x1 fH q.1 q.2.1 q.2.2) g.1) ((Ot,Jz,0),τ131) (Θ [7,7,7,7,7,7,7] 8) z (by repeat (first|exact trivial|refine ⟨z,?_⟩)) ⟨hh,Jd,Jc,Jb,(aj.le.refl _)⟩ (λg2 j2 hg2=> ?_)))))))
  obtain ⟨⟨Oq,Ou,vT⟩,τ164⟩:=g2
  obtain ⟨hh,sN,wK,wJ,Ad⟩:=hg2
  try dsimp only at sN
  try dsimp only at wK
  try dsimp only at wJ
  dsimp only at Ad
  replace xY:=xY.mono Ad
  try dsimp only
  obtain ⟨z2,hh,hR2⟩:=gJ hh
  dsimp only [N7]at hh
  have zf158b:=sN.length
  have zf159b:=wK.length
  have zf160b:=wJ.length
  refine χ (i:=1) z (λ_ hb166 _=> ?_)
  refine χ (i:=3) z (λ_ hb167 _=> ?_)
  refine χ (i:=4) z (λ_ hb168 _=> ?_)
  refine χ (i:=5) z (λ_ hb169 _=> ?_)
  refine χ (i:=6) z (λ_ hb170 _=> ?_)
  refine ψ (ω z (OpVal.lss z z z) (ε (ζ (TC.cD z hh (λh171 hh=> ?_) (λh171 hh=> ?_)))))
  ·refine ι (S.n (ζ (υ (ψ (ω z (bU z fK fU z z xY.rv.sl (by omega)) (ω z (fF ([]:T_1) z iG z xY (by omega) z) (ω z (eu (.inr z) z) (ε (ψ (ω z (aS z AQ z) (ω z (aZ z iG z (i:=7) z z) (ω z (eu (.inl z) z) ?_))))))))))))
   obtain ⟨u30,hh⟩:=aP hh
   refine ω z (P8 z z z u30) (ω z (eu (.inr z) z) (ε (TC.cutG (α:=(Unit)×(aj)) (rgs [(36,8)]) (λg=>[]) (λg=>[κ cO #[.slice aA x0.arcs.length ay,.slice jy x0.ends.length jr,.int .i64 x0.most,.slice iH x0.rows.length iF,.map (some b0_11),.string (bs x0.q.front),.slice a0_12 x0.q.next.length c0_13,.slice a0_16 x0.q.outs.length c0_17,.slice a0_20 x0.q.fin.length c0_21,.slice a0_22 x0.q.tail.length c0_23] pK,φ 22 1 (aB 2 dJ g_).en (.slice iH x0.rows.length iF) iM,Res.mapB mg nT (some b0_11) x0.places,φ 86 1 (aB 1 aG bn).en (.slice a0_12 x0.q.next.length c0_13) z0_14,φ 30 1 (aB 1 aJ bF).en (.slice a0_16 x0.q.outs.length c0_17) z0_18,dW 4 eq_ a0_20 c0_21 x0.q.fin,dW 9 aJ a0_22 c0_23 x0.q.tail,κ b139 #[.int .i64 ((nth x1 fH aK).state),.string (bs ((nth x1 fH aK).out))] 76]) (λg=>g.2) (λg=>Dd_ x1 fH x0 vT=some z2/\ZOk g.2 (aB 2 dJ g_) iM x0.rows/\ZOk g.2 (aB 1 aG bn) z0_14 x0.q.next/\ZOk g.2 (aB 1 aJ bF) z0_18 x0.q.outs/\aj.le τ164 g.2) ?_ (λg j hg=> ?_))))
   ·skip
    refine ψ (TL.j z z (TL.j z z (TL.split 37 z (λLK=> ?_) (λLK=> ?_))))
    ·replace hh:=gZ LK hh
     refine Ψ z (eu (.inl z) z) (Ψ z (eu (.inl z) z) (Ψ z (Ih z z z) (ω z (dS z z z) (ε (TC.cD z hh (λh176 hh=> ?_) (λh176 hh=> ?_))))))
     ·refine η (ω z (nD z zp_ VW z) (ω z (bt_ (v:= .agg #[.int .i64 12]) z underlying142 z) (TL.panic z z z ?_)))
      replace hh:=dG hR2 hh
      replace hh:=dG hR1 hh
      obtain rfl:=so hh
      exact z
     exact ι (S.n (cf ((),τ164) ⟨hh,sN,wK,wJ,(aj.le.refl _)⟩ (Θ [7,7,7,7,7,7,7,7] 8)))
    replace hh:=gY LK hh
    exact π z (π z (π z (ω z (dV z z z) (ε (TC.f z (ι (S.n (cf ((),τ164) ⟨hh,sN,wK,wJ,(aj.le.refl _)⟩ (Θ [7,7,7,7,7,7,7,7] 8)))))))))
   skip
   obtain ⟨_,τ177⟩:=g
   obtain ⟨hh,qN,Ba,I8,xR⟩:=hg
   try dsimp only at qN
   try dsimp only at Ba
   try dsimp only at I8
   dsimp only at xR
   replace sN:=sN.mono xR
   replace wK:=wK.mono xR
   replace wJ:=wJ.mono xR
   try dsimp only
   dsimp only [Dd_]at hh
   have zf172b:=qN.length
   have zf173b:=Ba.length
   have zf174b:=I8.length
   refine χ (i:=1) z (λ_ hb179 _=> ?_)
   refine χ (i:=3) z (λ_ hb180 _=> ?_)
   refine χ (i:=4) z (λ_ hb181 _=> ?_)
   refine χ (i:=5) z (λ_ hb182 _=> ?_)
   refine χ (i:=6) z (λ_ hb183 _=> ?_)
   refine η (ω z (eu (.inl z) z) (TL.j z z (ω z (eu (.inr z) z) (TL.nil (B.n (S.n (η (ω z (OpVal.succ z z z (by omega)) (ξ z z (ε ?_))))))))))
   obtain ⟨hh,Eb⟩:=dO hR2 hh
   exact lf ((true,((nth x1 fH aK).out++(nth (nth x0.ends (((nth x1 fH aK).state).toNat) []) vT [])),(vT+1)),τ177) Eb ⟨hh,qN,Ba,I8,(Ad.trans xR)⟩ (Θ [7,7,7,7,7,7,7,7] 8)
  refine TC.exit (S.x (S.x ?_))
  replace hh:=dG hR2 hh
  refine Δ (B.n (S.n (η (ω z (OpVal.succ z z z (by omega)) (ξ z z (ε ?_))))))
  obtain ⟨hh,Ea⟩:=dO hR1 hh
  exact lf ((Oq,Ou,(fH+1)),τ164) Ea ⟨hh,sN,wK,wJ,(xW.trans Ad)⟩ (Θ [6,6,6,6,6,6,6] 7)
 refine TC.exit (S.x (S.x ?_))
 replace hh:=dG hR1 hh
 refine Δ (S.n (ψ (ω z (eu (.inl z) z) ?_)))
 obtain ⟨v49,u49,hh⟩:=dM hh
 rcases v49 with v49k|v49r
 ·dsimp only [su]at hh
  refine TL.P7 z (uw.l (Dw_ u49)) z z ZV z z (λτ186 hle186=> ?_)
  obtain rfl:=so hh
  exact z
 dsimp only [su]at hh
 refine ν z (ck_ (Dw_ u49) z z z ZV z z z ?_)
 refine ε (ψ (TL.j z z (ω z (eu (.inl z) z) (TL.j z z (ω z (eu (.inr z) z) (ε (TC.back (TC.ret ?_))))))))
 obtain rfl:=so hh
 exact ro [κ cO #[.slice aA x0.arcs.length ay,.slice jy x0.ends.length jr,.int .i64 x0.most,.slice iH x0.rows.length iF,.map (some b0_11),.string (bs x0.q.front),.slice a0_12 x0.q.next.length c0_13,.slice a0_16 x0.q.outs.length c0_17,.slice a0_20 x0.q.fin.length c0_21,.slice a0_22 x0.q.tail.length c0_23] pK,φ 22 1 (aB 2 dJ g_).en (.slice iH x0.rows.length iF) iM,Res.mapB mg nT (some b0_11) x0.places,φ 86 1 (aB 1 aG bn).en (.slice a0_12 x0.q.next.length c0_13) z0_14,φ 30 1 (aB 1 aJ bF).en (.slice a0_16 x0.q.outs.length c0_17) z0_18,dW 4 eq_ a0_20 c0_21 x0.q.fin,dW 9 aJ a0_22 c0_23 x0.q.tail] z (RVs.tmp z (RVs.tmp z RVs.nil)) ⟨z,z,z⟩
def ZK(kV:Nat)(WB:List Tip):Option (((List Tip)×Nat)⊕(((List Tip)×Nat)⊕((List Tip)))):=
 nxt (WB,(kV+1))
def Cu_(fM:List Tip)(kV:Nat)(Jj:Tip):Option (((List Tip)×Nat)⊕(((List Tip)×Nat)⊕((List Tip)))):=
 grd ((fM.length+[Jj].length) * 24<=140737488355328) (ZK kV (fM++[Jj]))
def NT(x0:Maker)(x1:List Tip)(fB:Nat)(x2:UInt8)(fM:List Tip)(kV:Nat):Option (((List Tip)×Nat)⊕(((List Tip)×Nat)⊕((List Tip)))):=
 aN (decide ((kV:Int)<(((nth x0.arcs (((nth x1 fB aK).state).toNat) []).length:Nat):Int))) (aN (!(((nth (nth x0.arcs (((nth x1 fB aK).state).toNat) []) kV bg).set).has x2.toNat)) (ZK kV fM) (grd (((nth x1 fB aK).out).length+((nth (nth x0.arcs (((nth x1 fB aK).state).toNat) []) kV bg).out).length<=9223372036854775807) (aN ((nth (nth x0.arcs (((nth x1 fB aK).state).toNat) []) kV bg).copy) (grd (((nth x1 fB aK).out++(nth (nth x0.arcs (((nth x1 fB aK).state).toNat) []) kV bg).out).length+[x2].length<=9223372036854775807) (Cu_ fM kV (⟨(nth (nth x0.arcs (((nth x1 fB aK).state).toNat) []) kV bg).to,(((nth x1 fB aK).out++(nth (nth x0.arcs (((nth x1 fB aK).state).toNat) []) kV bg).out)++[x2])⟩:Tip))) (Cu_ fM kV (⟨(nth (nth x0.arcs (((nth x1 fB aK).state).toNat) []) kV bg).to,((nth x1 fB aK).out++(nth (nth x0.arcs (((nth x1 fB aK).state).toNat) []) kV bg).out)⟩:Tip))))) (fin (nxt (fM,(fB+1))))
def QT(x1:List Tip)(x0:Maker)(x2:UInt8)(vK:List Tip)(fB:Nat):Option (((List Tip)×Nat)⊕((List Tip))):=
 aN (decide ((fB:Int)<((x1.length:Nat):Int))) (grd (0<=((nth x1 fB aK).state)/\((nth x1 fB aK).state)<(x0.arcs.length:Int)) (bC (λq:(List Tip)×Nat=>NT x0 x1 fB x2 q.1 q.2) (vK,0))) (fin (some vK))
def Dn_(x0:Maker)(x1:List Tip)(x2:UInt8):Option ((List Tip)):=
 bC (λq:(List Tip)×Nat=>QT x1 x0 x2 q.1 q.2) (([]:List Tip),0)
theorem G6_{σ:aj}{x0:Maker}{iM:List (List Tip×(aB 2 dJ g_).P)}{z0_14:List (ak×(aB 1 aG bn).P)}{z0_18:List (aC×(aB 1 aJ bF).P)}{x1:List Tip}{x2:UInt8}(aQ:RZ σ (aB 8 kF wB) (.slice aA x0.arcs.length ay) x0.arcs)(fG:RZ σ (aB 1 aJ bF) (.slice jy x0.ends.length jr) x0.ends)(zf0_10:ZOk σ (aB 2 dJ g_) iM x0.rows)(zf0_15:ZOk σ (aB 1 aG bn) z0_14 x0.q.next)(zf0_19:ZOk σ (aB 1 aJ bF) z0_18 x0.q.outs)(bP:RS σ 2 dJ (.slice eF x1.length dZ) x1){r:(List Tip)}(hh:Dn_ x0 x1 x2=some r):
  Con prog 131 #[loc cO 0,.slice eF x1.length dZ,.int .u8 ((x2.toNat:Nat):Int)] σ [κ cO #[.slice aA x0.arcs.length ay,.slice jy x0.ends.length jr,.int .i64 x0.most,.slice iH x0.rows.length iF,.map (some b0_11),.string (bs x0.q.front),.slice a0_12 x0.q.next.length c0_13,.slice a0_16 x0.q.outs.length c0_17,.slice a0_20 x0.q.fin.length c0_21,.slice a0_22 x0.q.tail.length c0_23] pK,φ 22 1 (aB 2 dJ g_).en (.slice iH x0.rows.length iF) iM,Res.mapB mg nT (some b0_11) x0.places,φ 86 1 (aB 1 aG bn).en (.slice a0_12 x0.q.next.length c0_13) z0_14,φ 30 1 (aB 1 aJ bF).en (.slice a0_16 x0.q.outs.length c0_17) z0_18,dW 4 eq_ a0_20 c0_21 x0.q.fin,dW 9 aJ a0_22 c0_23 x0.q.tail] (λv σ' H'=> ∃a1 c1,v= .slice a1 r.length c1/\σ=σ'/\H'=[φ 76 2 dJ (.slice a1 r.length c1) r,κ cO #[.slice aA x0.arcs.length ay,.slice jy x0.ends.length jr,.int .i64 x0.most,.slice iH x0.rows.length iF,.map (some b0_11),.string (bs x0.q.front),.slice a0_12 x0.q.next.length c0_13,.slice a0_16 x0.q.outs.length c0_17,.slice a0_20 x0.q.fin.length c0_21,.slice a0_22 x0.q.tail.length c0_23] pK,φ 22 1 (aB 2 dJ g_).en (.slice iH x0.rows.length iF) iM,Res.mapB mg nT (some b0_11) x0.places,φ 86 1 (aB 1 aG bn).en (.slice a0_12 x0.q.next.length c0_13) z0_14,φ 30 1 (aB 1 aJ bF).en (.slice a0_16 x0.q.outs.length c0_17) z0_18,dW 4 eq_ a0_20 c0_21 x0.q.fin,dW 9 aJ a0_22 c0_23 x0.q.tail]):=by
 dsimp only [Dn_]at hh
 have f0_3b:=aQ.big
 have f0_6b:=fG.big
 have zf0_10b:=zf0_10.length
 have zf0_15b:=zf0_15.length
 have zf0_19b:=zf0_19.length
 have f1_0b:=bP.rv.big
 refine Con.mk (n:=61) Tryz.func131 z z z (λw0=> ?_)
 refine ψ (Φ z z (ε (ψ (Φ z z (ε (ζ (ψ (Φ z z (ω z (lenC z kX z) (ξ z z (ε (υ (TC.nilS 76 2 dJ (TC.ig (α:=((List Tip)×Nat)×((Option Addr)×Nat×aj)) (rgs [(7,1),(9,1),(11,2),(15,45)]) (λg=>[(7,.slice g.2.1 g.1.1.length g.2.2.1),(15,.int .i64 ((g.1.2:Nat):Int))]) (λg=>[κ cO #[.slice aA x0.arcs.length ay,.slice jy x0.ends.length jr,.int .i64 x0.most,.slice iH x0.rows.length iF,.map (some b0_11),.string (bs x0.q.front),.slice a0_12 x0.q.next.length c0_13,.slice a0_16 x0.q.outs.length c0_17,.slice a0_20 x0.q.fin.length c0_21,.slice a0_22 x0.q.tail.length c0_23] pK,φ 22 1 (aB 2 dJ g_).en (.slice iH x0.rows.length iF) iM,Res.mapB mg nT (some b0_11) x0.places,φ 86 1 (aB 1 aG bn).en (.slice a0_12 x0.q.next.length c0_13) z0_14,φ 30 1 (aB 1 aJ bF).en (.slice a0_16 x0.q.outs.length c0_17) z0_18,dW 4 eq_ a0_20 c0_21 x0.q.fin,dW 9 aJ a0_22 c0_23 x0.q.tail,φ 76 2 dJ (.slice g.2.1 g.1.1.length g.2.2.1) g.1.1]) (λg=>g.2.2.2) (λg=>bC (λq:(List Tip)×Nat=>QT x1 x0 x2 q.1 q.2) g.1=some r/\ZOk g.2.2.2 (aB 2 dJ g_) iM x0.rows/\ZOk g.2.2.2 (aB 1 aG bn) z0_14 x0.q.next/\ZOk g.2.2.2 (aB 1 aJ bF) z0_18 x0.q.outs/\aj.le σ g.2.2.2) (λg=>f_ (λq:(List Tip)×Nat=>QT x1 x0 x2 q.1 q.2) g.1) ((([]:List Tip),0),(none,0,σ)) (Θ [7,7,7,7,7,7,7] 8) z (by repeat (first|exact trivial|refine ⟨z,?_⟩)) ⟨hh,zf0_10,zf0_15,zf0_19,(aj.le.refl _)⟩ (λg1 j1 hg1=> ?_)))))))))))))))
 obtain ⟨⟨vK,fB⟩,⟨Fq,Fb,τ138⟩⟩:=g1
 obtain ⟨hh,Ja,I_,I9,Af⟩:=hg1
 try dsimp only at Ja
 try dsimp only at I_
 try dsimp only at I9
 dsimp only at Af
 replace aQ:=aQ.mono Af
 replace bP:=bP.mono Af
 try dsimp only
 obtain ⟨z1,hh,hR1⟩:=gJ hh
 dsimp only [QT]at hh
 have zf129b:=Ja.length
 have zf130b:=I_.length
 have zf131b:=I9.length
 refine χ (i:=1) z (λ_ hb140 _=> ?_)
 refine χ (i:=3) z (λ_ hb141 _=> ?_)
 refine χ (i:=4) z (λ_ hb142 _=> ?_)
 refine χ (i:=5) z (λ_ U6 _=> ?_)
 refine χ (i:=6) z (λ_ U5 _=> ?_)
 refine χ (i:=7) z (λ_ Dk _=> ?_)
 refine ψ (ω z (OpVal.lss z z z) (ε (ζ (TC.cD z hh (λEP hh=> ?_) (λEP hh=> ?_)))))
 ·refine ι (S.n (ζ (υ (ψ (ω z (bU z kX jP z z bP.rv.sl (by omega)) (ω z (Io aK z DU jP z bP (by omega) (by omega)) (ν z (OpOk.alloc z vP z z (λZc=> ?_)))))))))
  refine ν z (storeAll z jP z z z z z z ?_)
  refine ε (ζ ?_)
  obtain ⟨ZX,hh⟩:=aP hh
  refine TC.draw [] (by kernel_rfl) (Ω 0 z (MI (.inl z) z) z (Ω 1 z (nJ z z) z (Ω 2 z (aS z sf_ z) z (TA.b 3 z (aZ z Zf z (i:=1) z z) z (Ω 4 z (aS z EZ z) z (TA.b 5 z (aZ z fJ z (i:=0) z z) z (TA.b 6 z (OpVal.index z underlying71 Oa z z aQ.isSl ZX.1 ZX.2) z ?_)))))))
  obtain ⟨yI,nV,Lj⟩:=RZ.seg aQ (((nth x1 fB aK).state).toNat) (by omega)
  replace nV:RS _ 8 kF (.slice yI.1 (nth x0.arcs (((nth x1 fB aK).state).toNat) []).length yI.2) (nth x0.arcs (((nth x1 fB aK).state).toNat) []):=nV
  have hk150b:=nV.rv.big
  refine TA.b 7 z (OpVal.of (kZ z Nb z Lj z) (v':= .slice yI.1 ((nth x0.arcs (((nth x1 fB aK).state).toNat) []).length) yI.2) z) z (TA.b 8 z (lenC z qF z) z (Ω 9 z (dw (.inl z) z) z (TA.dn (S.n (υ (TC.ig (α:=((List Tip)×Nat)×((Option Addr)×Nat×aj)) (rgs [(7,1),(11,2),(28,31)]) (λg=>[(7,.slice g.2.1 g.1.1.length g.2.2.1),(28,.int .i64 ((g.1.2:Nat):Int))]) (λg=>[κ cO #[.slice aA x0.arcs.length ay,.slice jy x0.ends.length jr,.int .i64 x0.most,.slice iH x0.rows.length iF,.map (some b0_11),.string (bs x0.q.front),.slice a0_12 x0.q.next.length c0_13,.slice a0_16 x0.q.outs.length c0_17,.slice a0_20 x0.q.fin.length c0_21,.slice a0_22 x0.q.tail.length c0_23] pK,φ 22 1 (aB 2 dJ g_).en (.slice iH x0.rows.length iF) iM,Res.mapB mg nT (some b0_11) x0.places,φ 86 1 (aB 1 aG bn).en (.slice a0_12 x0.q.next.length c0_13) z0_14,φ 30 1 (aB 1 aJ bF).en (.slice a0_16 x0.q.outs.length c0_17) z0_18,dW 4 eq_ a0_20 c0_21 x0.q.fin,dW 9 aJ a0_22 c0_23 x0.q.tail,φ 76 2 dJ (.slice g.2.1 g.1.1.length g.2.2.1) g.1.1,κ Zc #[.int .i64 ((nth x1 fB aK).state),.string (bs ((nth x1 fB aK).out))] 76]) (λg=>g.2.2.2) (λg=>bC (λq:(List Tip)×Nat=>NT x0 x1 fB x2 q.1 q.2) g.1=some z1/\ZOk g.2.2.2 (aB 2 dJ g_) iM x0.rows/\ZOk g.2.2.2 (aB 1 aG bn) z0_14 x0.q.next/\ZOk g.2.2.2 (aB 1 aJ bF) z0_18 x0.q.outs/\aj.le τ138 g.2.2.2) (λg=>f_ (λq:(List Tip)×Nat=>NT x0 x1 fB x2 q.1 q.2) g.1) ((vK,0),(Fq,Fb,τ138)) (Θ [8,8,8,8,8,8,8,8] 9) z (by repeat (first|exact trivial|refine ⟨z,?_⟩)) ⟨hh,Ja,I_,I9,(aj.le.refl _)⟩ (λg2 j2 hg2=> ?_)))))))
  obtain ⟨⟨fM,kV⟩,⟨Au,c173,τ175⟩⟩:=g2
  obtain ⟨hh,qO,je,kJ,Ac⟩:=hg2
  try dsimp only at qO
  try dsimp only at je
  try dsimp only at kJ
  dsimp only at Ac
  replace nV:=nV.mono Ac
  try dsimp only
  obtain ⟨z2,hh,hR2⟩:=gJ hh
  dsimp only [NT]at hh
  have zf168b:=qO.length
  have zf169b:=je.length
  have zf170b:=kJ.length
  refine χ (i:=1) z (λ_ U2 _=> ?_)
  refine χ (i:=3) z (λ_ hb178 _=> ?_)
  refine χ (i:=4) z (λ_ hb179 _=> ?_)
  refine χ (i:=5) z (λ_ hb180 _=> ?_)
  refine χ (i:=6) z (λ_ hb181 _=> ?_)
  refine χ (i:=7) z (λ_ hb182 _=> ?_)
  refine ψ (ω z (OpVal.lss z z z) (ε (ζ (TC.cD z hh (λh183 hh=> ?_) (λh183 hh=> ?_)))))
  ·refine ι (S.n (TC.cutG (α:=((List Tip))×((Option Addr)×Nat×aj)) (rgs [(7,1),(11,2),(30,28)]) (λg=>[(7,.slice g.2.1 g.1.length g.2.2.1)]) (λg=>[κ cO #[.slice aA x0.arcs.length ay,.slice jy x0.ends.length jr,.int .i64 x0.most,.slice iH x0.rows.length iF,.map (some b0_11),.string (bs x0.q.front),.slice a0_12 x0.q.next.length c0_13,.slice a0_16 x0.q.outs.length c0_17,.slice a0_20 x0.q.fin.length c0_21,.slice a0_22 x0.q.tail.length c0_23] pK,φ 22 1 (aB 2 dJ g_).en (.slice iH x0.rows.length iF) iM,Res.mapB mg nT (some b0_11) x0.places,φ 86 1 (aB 1 aG bn).en (.slice a0_12 x0.q.next.length c0_13) z0_14,φ 30 1 (aB 1 aJ bF).en (.slice a0_16 x0.q.outs.length c0_17) z0_18,dW 4 eq_ a0_20 c0_21 x0.q.fin,dW 9 aJ a0_22 c0_23 x0.q.tail,φ 76 2 dJ (.slice g.2.1 g.1.length g.2.2.1) g.1,κ Zc #[.int .i64 ((nth x1 fB aK).state),.string (bs ((nth x1 fB aK).out))] 76]) (λg=>g.2.2.2) (λg=>ZK kV g.1=some z2/\ZOk g.2.2.2 (aB 2 dJ g_) iM x0.rows/\ZOk g.2.2.2 (aB 1 aG bn) z0_14 x0.q.next/\ZOk g.2.2.2 (aB 1 aJ bF) z0_18 x0.q.outs/\aj.le τ175 g.2.2.2) ?_ (λg j hg=> ?_)))
   ·skip
    refine υ (ψ (ω z (bU z qF nZ z z nV.rv.sl (by omega)) (ω z (Io bg z Jr nZ z nV (by omega) (by omega)) (ν z (OpOk.alloc z AO z z (λb190=> ?_))))))
    refine ν z (storeAll z nZ z z z z z z ?_)
    refine ε (ζ (ψ (ω z (aS z l5_ z) (ω z (bj_ z MG Hw z (i:=0) z z z) (ξ z z (ν z (jF (has_con _ ((nth (nth x0.arcs (((nth x1 fB aK).state).toNat) []) kV bg).set) x2.toNat (BSet.isOk _) (UInt8.toNat_lt _)) z z pf102 z z z ?_)))))))
    refine ω z (OpVal.not z z) (ε (TC.cB z hh (λh192 hh=> ?_) (λh192 hh=> ?_)))
    ·exact TC.exit (S.x (Δ (S.n (cf (fM,(Au,c173,τ175)) ⟨hh,qO,je,kJ,(aj.le.refl _)⟩ (Θ [9,9,9,9,9,9,9,9,9] 9)))))
    refine ι (S.n (ψ (ω z (aS z Ti z) (ω z (aZ z fJ z (i:=0) z z) (ω z (aS z AQ z) (ω z (aZ z iG z (i:=9) z z) (ω z (aS z l8_ z) (ω z (aZ z iG z (i:=0) z z) ?_))))))))
    obtain ⟨u37,hh⟩:=aP hh
    refine ω z (P8 z z z u37) (ω z (nD z JB vP z) (ν z (OpOk.alloc z vP z z (λb193=> ?_))))
    refine ν z (storeAll z jP z z z z z z ?_)
    refine ε (TC.cutG (α:=(Tip)×(aj)) (rgs [(45,9)]) (λg=>[]) (λg=>[κ cO #[.slice aA x0.arcs.length ay,.slice jy x0.ends.length jr,.int .i64 x0.most,.slice iH x0.rows.length iF,.map (some b0_11),.string (bs x0.q.front),.slice a0_12 x0.q.next.length c0_13,.slice a0_16 x0.q.outs.length c0_17,.slice a0_20 x0.q.fin.length c0_21,.slice a0_22 x0.q.tail.length c0_23] pK,φ 22 1 (aB 2 dJ g_).en (.slice iH x0.rows.length iF) iM,Res.mapB mg nT (some b0_11) x0.places,φ 86 1 (aB 1 aG bn).en (.slice a0_12 x0.q.next.length c0_13) z0_14,φ 30 1 (aB 1 aJ bF).en (.slice a0_16 x0.q.outs.length c0_17) z0_18,dW 4 eq_ a0_20 c0_21 x0.q.fin,dW 9 aJ a0_22 c0_23 x0.q.tail,φ 76 2 dJ (.slice Au fM.length c173) fM,κ Zc #[.int .i64 ((nth x1 fB aK).state),.string (bs ((nth x1 fB aK).out))] 76,κ b193 #[.int .i64 g.1.state,.string (bs g.1.out)] 76]) (λg=>g.2) (λg=>Cu_ fM kV g.1=some z2/\ZOk g.2 (aB 2 dJ g_) iM x0.rows/\ZOk g.2 (aB 1 aG bn) z0_14 x0.q.next/\ZOk g.2 (aB 1 aJ bF) z0_18 x0.q.outs/\aj.le τ175 g.2) ?_ (λg j hg=> ?_))
    ·skip
     refine ψ (ω z (aS z pt_ z) (ω z (aZ z nG z (i:=1) z z) (ε (TC.cB z hh (λh199 hh=> ?_) (λh199 hh=> ?_)))))
     ·refine η (ω z (aS z AQ z) (ω z (aZ z iG z (i:=0) z z) (ξ z z (ν z (OpOk.lit (enc:=kE) [x2] z Ho Ju MX z z z UL (by decide) (by decide) (0:UInt8) z (by decide) z (by decide) UO (λIq c201=> ?_))))))
      refine TL.isSl (i:=0) z (λhs203 _ _=> ?_)
      refine ω z (b9_ (l:=[x2]) z Ho underlying5 kK z hs203 (λw hw=>rdb_row (q:=0) z hw)) ?_
      obtain ⟨u48,hh⟩:=aP hh
      refine ω z (P8 z z z u48) (ω z (aS z AQ z) (θ 1 z z (ν z (b7_ z fU z z z z z ?_))))
      exact ε (cf ((⟨(nth (nth x0.arcs (((nth x1 fB aK).state).toNat) []) kV bg).to,(((nth x1 fB aK).out++(nth (nth x0.arcs (((nth x1 fB aK).state).toNat) []) kV bg).out)++[x2])⟩:Tip),τ175) ⟨hh,qO,je,kJ,(aj.le.refl _)⟩ (Θ [11,11,11,11,11,11,11,11,11] 10))
     exact ι (S.n (cf ((⟨(nth (nth x0.arcs (((nth x1 fB aK).state).toNat) []) kV bg).to,((nth x1 fB aK).out++(nth (nth x0.arcs (((nth x1 fB aK).state).toNat) []) kV bg).out)⟩:Tip),τ175) ⟨hh,qO,je,kJ,(aj.le.refl _)⟩ (Θ [10,10,10,10,10,10,10,10,10] 10)))
    skip
    obtain ⟨Jj,τ204⟩:=g
    obtain ⟨hh,wH,iU,y9,xQ⟩:=hg
    try dsimp only at wH
    try dsimp only at iU
    try dsimp only at y9
    dsimp only at xQ
    replace qO:=qO.mono xQ
    replace je:=je.mono xQ
    replace kJ:=kJ.mono xQ
    try dsimp only
    dsimp only [Cu_]at hh
    have zf195b:=wH.length
    have zf196b:=iU.length
    have zf197b:=y9.length
    refine χ (i:=1) z (λ_ hb206 _=> ?_)
    refine χ (i:=3) z (λ_ hb207 _=> ?_)
    refine χ (i:=4) z (λ_ U1 _=> ?_)
    refine χ (i:=5) z (λ_ LH _=> ?_)
    refine χ (i:=6) z (λ_ LG _=> ?_)
    refine χ (i:=7) z (λ_ U0 _=> ?_)
    refine η (Φ z z (ω z (kG z DU jP z (i:=9) z z) (ν z (OpOk.lit (enc:=dJ) [Jj] z kX jP vP z z z g_ (by decide) (by decide) aK z (by decide) z (by decide) PL (λa212 c213=> ?_)))))
    refine θ 8 z z ?_
    obtain ⟨Jp,hh⟩:=aP hh
    refine ν z (as_ z z kX jP PZ vP z z (by decide) z z z (.inr ⟨_,0,z⟩) (by simpa using Jp) (by decide) (λa215 c216=> ?_))
    exact Φ z z (TL.nil (B.n (S.n (cf ((fM++[Jj]),(a215,c216,τ204)) ⟨hh,wH,iU,y9,xQ⟩ (Θ [9,1,9,9,9,9,9,9,9] 9)))))
   skip
   obtain ⟨WB,⟨tZ,tX,τ217⟩⟩:=g
   obtain ⟨hh,I7,A_,I5,xO⟩:=hg
   try dsimp only at I7
   try dsimp only at A_
   try dsimp only at I5
   dsimp only at xO
   replace qO:=qO.mono xO
   replace je:=je.mono xO
   replace kJ:=kJ.mono xO
   try dsimp only
   dsimp only [ZK]at hh
   have zf184b:=I7.length
   have zf185b:=A_.length
   have zf186b:=I5.length
   refine χ (i:=1) z (λ_ hb219 _=> ?_)
   refine χ (i:=3) z (λ_ hb220 _=> ?_)
   refine χ (i:=4) z (λ_ UZ _=> ?_)
   refine χ (i:=5) z (λ_ LD _=> ?_)
   refine χ (i:=6) z (λ_ LC _=> ?_)
   refine χ (i:=7) z (λ_ UY _=> ?_)
   refine η (ω z (OpVal.succ z z z (by omega)) (ξ z z (ε ?_)))
   obtain ⟨hh,XA⟩:=dO hR2 hh
   exact lf ((WB,(kV+1)),(tZ,tX,τ217)) XA ⟨hh,I7,A_,I5,(Ac.trans xO)⟩ (Θ [8,8,8,8,8,8,8,8,8] 9)
  refine TC.exit (S.x (S.x ?_))
  replace hh:=dG hR2 hh
  refine Δ (B.n (S.n (η (ω z (OpVal.succ z z z (by omega)) (ξ z z (ε ?_))))))
  obtain ⟨hh,Xz⟩:=dO hR1 hh
  exact lf ((fM,(fB+1)),(Au,c173,τ175)) Xz ⟨hh,qO,je,kJ,(Af.trans Ac)⟩ (Θ [7,7,7,7,7,7,7,7] 8)
 refine TC.exit (S.x (S.x ?_))
 replace hh:=dG hR1 hh
 refine Δ (S.n (ψ (Φ z z (Φ z z (ε (TC.sG (Θ [6,6,6,6,6,6,6,7] 8) (TC.back (TC.ret ?_))))))))
 obtain rfl:=so hh
 exact ro [φ 76 2 dJ (.slice Fq vK.length Fb) vK,κ cO #[.slice aA x0.arcs.length ay,.slice jy x0.ends.length jr,.int .i64 x0.most,.slice iH x0.rows.length iF,.map (some b0_11),.string (bs x0.q.front),.slice a0_12 x0.q.next.length c0_13,.slice a0_16 x0.q.outs.length c0_17,.slice a0_20 x0.q.fin.length c0_21,.slice a0_22 x0.q.tail.length c0_23] pK,φ 22 1 (aB 2 dJ g_).en (.slice iH x0.rows.length iF) iM,Res.mapB mg nT (some b0_11) x0.places,φ 86 1 (aB 1 aG bn).en (.slice a0_12 x0.q.next.length c0_13) z0_14,φ 30 1 (aB 1 aJ bF).en (.slice a0_16 x0.q.outs.length c0_17) z0_18,dW 4 eq_ a0_20 c0_21 x0.q.fin,dW 9 aJ a0_22 c0_23 x0.q.tail] z (RVs.tmp z RVs.nil) ⟨Fq,Fb,z,z,z⟩
def MW(x0:Maker)(x1:Int)(v11r:Bool×T_1)(wS:List (List Tip))(yL:FM T_1 Int)(eY:ak)(jH:aC)(gV:Nat):Option (((List (List Tip))×(FM T_1 Int)×ak×aC×Nat)⊕(Int⊕(Maker))):=
 aN (decide ((gV:Int)<256)) (grd (gV<eY.length) (bnd (Dn_ (⟨x0.arcs,x0.ends,x0.most,wS,yL,x0.q⟩:Maker) (nth x0.rows x1.toNat []) (qR (gV:Int))) (λv33=>aN (decide (0<((v33.length:Nat):Int))) (bnd (Fd_ v33) (λv41=>su v41 (λv41k=>fin (some (.inl v41k))) (λv41r=>grd (gV<jH.length) (bnd (IK (⟨x0.arcs,x0.ends,x0.most,wS,yL,x0.q⟩:Maker) v41r.2) (λv52=>su v52 (λv52k=>fin (some (.inl v52k))) (λv52r=>grd (gV<(eY.set gV (-1)).length) (nxt (v52r.2.rows,v52r.2.places,((eY.set gV (-1)).set gV v52r.1),(jH.set gV v41r.1),(gV+1))))))))) (nxt (wS,yL,(eY.set gV (-1)),jH,(gV+1)))))) (fin (grd ((x0.q.next.length+[eY].length) * 24<=140737488355328) (grd ((x0.q.outs.length+[jH].length) * 24<=140737488355328) (grd ((x0.q.fin.length+[v11r.1].length) * 1<=140737488355328) (grd ((x0.q.tail.length+[v11r.2].length) * 16<=140737488355328) (some (.inr (⟨x0.arcs,x0.ends,x0.most,wS,yL,(⟨x0.q.front,(x0.q.next++[eY]),(x0.q.outs++[jH]),(x0.q.fin++[v11r.1]),(x0.q.tail++[v11r.2])⟩:Seq)⟩:Maker))))))))
def D2_(x0:Maker)(x1:Int)(v11r:Bool×T_1):Option (Int⊕(Maker)):=
 bC (λq:(List (List Tip))×(FM T_1 Int)×ak×aC×Nat=>MW x0 x1 v11r q.1 q.2.1 q.2.2.1 q.2.2.2.1 q.2.2.2.2) (x0.rows,x0.places,(replicate 256 (0:Int)),(replicate 256 ([]:T_1)),0)
def Eu_(x0:Maker)(x1:Int):Option (Int⊕(Maker)):=
 grd (0<=x1/\x1<(x0.rows.length:Int)) (bnd (Ed_ x0 (nth x0.rows x1.toNat [])) (λv11=>su v11 (λv11k=>some (.inl v11k)) (λv11r=>D2_ x0 x1 v11r)))
theorem Gi_{σ:aj}{x0:Maker}{iM:List (List Tip×(aB 2 dJ g_).P)}{z0_14:List (ak×(aB 1 aG bn).P)}{z0_18:List (aC×(aB 1 aJ bF).P)}{x1:Int}(hgl:Dz σ 1 2)(aQ:RZ σ (aB 8 kF wB) (.slice aA x0.arcs.length ay) x0.arcs)(fG:RZ σ (aB 1 aJ bF) (.slice jy x0.ends.length jr) x0.ends)(zf0_10:ZOk σ (aB 2 dJ g_) iM x0.rows)(zf0_15:ZOk σ (aB 1 aG bn) z0_14 x0.q.next)(zf0_19:ZOk σ (aB 1 aJ bF) z0_18 x0.q.outs){r:Int⊕(Maker)}(hh:Eu_ x0 x1=some r):
  uw prog 90 #[loc cO 0,.int .i64 x1] σ [κ cO #[.slice aA x0.arcs.length ay,.slice jy x0.ends.length jr,.int .i64 x0.most,.slice iH x0.rows.length iF,.map (some b0_11),.string (bs x0.q.front),.slice a0_12 x0.q.next.length c0_13,.slice a0_16 x0.q.outs.length c0_17,.slice a0_20 x0.q.fin.length c0_21,.slice a0_22 x0.q.tail.length c0_23] pK,φ 22 1 (aB 2 dJ g_).en (.slice iH x0.rows.length iF) iM,Res.mapB mg nT (some b0_11) x0.places,φ 86 1 (aB 1 aG bn).en (.slice a0_12 x0.q.next.length c0_13) z0_14,φ 30 1 (aB 1 aJ bF).en (.slice a0_16 x0.q.outs.length c0_17) z0_18,dW 4 eq_ a0_20 c0_21 x0.q.fin,dW 9 aJ a0_22 c0_23 x0.q.tail] 142 (λr:Maker=>(λv σ' H'=> ∃Dx Dp, ∃(zo3:List (List Tip×(aB 2 dJ g_).P)), ∃bo5 ao6 co7, ∃(zo8:List (ak×(aB 1 aG bn).P)), ∃MF LZ, ∃(zo12:List (aC×(aB 1 aJ bF).P)), ∃ao14 co15 ao16 co17,v= .tuple #[]/\ZOk σ' (aB 2 dJ g_) zo3 r.rows/\ZOk σ' (aB 1 aG bn) zo8 r.q.next/\ZOk σ' (aB 1 aJ bF) zo12 r.q.outs/\H'=[κ cO #[.slice aA x0.arcs.length ay,.slice jy x0.ends.length jr,.int .i64 x0.most,.slice Dx r.rows.length Dp,.map (some bo5),.string (bs x0.q.front),.slice ao6 r.q.next.length co7,.slice MF r.q.outs.length LZ,.slice ao14 r.q.fin.length co15,.slice ao16 r.q.tail.length co17] pK,φ 22 1 (aB 2 dJ g_).en (.slice Dx r.rows.length Dp) zo3,Res.mapB mg nT (some bo5) r.places,φ 86 1 (aB 1 aG bn).en (.slice ao6 r.q.next.length co7) zo8,φ 30 1 (aB 1 aJ bF).en (.slice MF r.q.outs.length LZ) zo12,dW 4 eq_ ao14 co15 r.q.fin,dW 9 aJ ao16 co17 r.q.tail])) r:=by
 dsimp only [Eu_]at hh
 have f0_3b:=aQ.big
 have f0_6b:=fG.big
 have zf0_10b:=zf0_10.length
 have zf0_15b:=zf0_15.length
 have zf0_19b:=zf0_19.length
 refine uw.mk (n:=103) Tryz.func90 z z z (λw0=> ?_)
 refine TC.c4_ (ψ (TL.l z z (ω z (nJ z z) (ω z (aS z r7_ z) (ω z (aZ z Qb z (i:=0) z z) (ξ z z ?_))))))
 obtain ⟨u6,hh⟩:=aP hh
 refine TL.isSl (i:=1) z (λhs116 _ _=> ?_)
 refine ω z (OpVal.index z underlying72 Jv z z (zf0_10.isSl hs116) u6.1 u6.2) ?_
 obtain ⟨O5,Uk⟩: ∃p,p=(nth iM x1.toNat ((aB 2 dJ g_).d,(aB 2 dJ g_).dp)).2:=⟨_,rfl⟩
 have tH:RS σ 2 dJ (.slice O5.1 (nth x0.rows x1.toNat []).length O5.2) (nth x0.rows x1.toNat []):=by rw [Uk];exact (zf0_10.at (by omega)).2
 refine ω z (OpVal.of (Uk▸dj_ zf0_10 z FH z (q:=1) z (by omega) z) (v':= .slice O5.1 ((nth x0.rows x1.toNat []).length) O5.2) z) (Φ z z (ε (ψ (TL.l z z (Φ z z (θ 6 z z (θ 6 z z (θ 6 z z (θ 6 z z (θ 6 z z (θ 6 z z (θ 6 z z ?_))))))))))))
 obtain ⟨v11,u11,hh⟩:=dM hh
 rcases v11 with v11k|v11r
 ·dsimp only [su]at hh
  refine TL.P7 z (uw.l (F3_ (x0:=x0) aQ fG zf0_10 zf0_15 zf0_19 tH u11)) z z SI z z (λτ118 rU=> ?_)
  replace aQ:=aQ.mono rU
  replace fG:=fG.mono rU
  replace zf0_10:=zf0_10.mono rU
  replace zf0_15:=zf0_15.mono rU
  replace zf0_19:=zf0_19.mono rU
  replace hgl:=hgl.mono rU
  replace tH:=tH.mono rU
  obtain rfl:=so hh
  exact ⟨_,Sub.pre 0 z,z⟩
 dsimp only [su]at hh
 refine ν z (Y4 (F3_ (x0:=x0) aQ fG zf0_10 zf0_15 zf0_19 tH u11) z z SI z z z z ?_)
 rintro _ _ _ Yt ⟨rfl,rfl,rfl⟩
 refine ω z (wC (.inl z) z) (ω z (OpVal.extract z z z) (ω z (OpVal.extract z z z) (TL.j z z (ω z (eu (.inr z) z) (ε (TC.cutG (α:=(Unit)×((Option Addr)×Nat×(Option Addr)×Nat×aj)) [7,8,24,25] (λg=>[(7,.slice g.2.1 ((replicate 256 (0:Int)).length) g.2.2.1),(8,.slice g.2.2.2.1 ((replicate 256 ([]:T_1)).length) g.2.2.2.2.1)]) (λg=>[κ cO #[.slice aA x0.arcs.length ay,.slice jy x0.ends.length jr,.int .i64 x0.most,.slice iH x0.rows.length iF,.map (some b0_11),.string (bs x0.q.front),.slice a0_12 x0.q.next.length c0_13,.slice a0_16 x0.q.outs.length c0_17,.slice a0_20 x0.q.fin.length c0_21,.slice a0_22 x0.q.tail.length c0_23] pK,φ 22 1 (aB 2 dJ g_).en (.slice iH x0.rows.length iF) iM,Res.mapB mg nT (some b0_11) x0.places,φ 86 1 (aB 1 aG bn).en (.slice a0_12 x0.q.next.length c0_13) z0_14,φ 30 1 (aB 1 aJ bF).en (.slice a0_16 x0.q.outs.length c0_17) z0_18,dW 4 eq_ a0_20 c0_21 x0.q.fin,dW 9 aJ a0_22 c0_23 x0.q.tail,φ 3 1 aG (.slice g.2.1 (replicate 256 (0:Int)).length g.2.2.1) (replicate 256 (0:Int)),φ 9 1 aJ (.slice g.2.2.2.1 (replicate 256 ([]:T_1)).length g.2.2.2.2.1) (replicate 256 ([]:T_1))]) (λg=>g.2.2.2.2.2) (λg=>D2_ x0 x1 v11r=some r/\ZOk g.2.2.2.2.2 (aB 2 dJ g_) iM x0.rows/\ZOk g.2.2.2.2.2 (aB 1 aG bn) z0_14 x0.q.next/\ZOk g.2.2.2.2.2 (aB 1 aJ bF) z0_18 x0.q.outs/\aj.le σ g.2.2.2.2.2) ?_ (λg j hg=> ?_)))))))
 ·skip
  refine TC.draw [] (by kernel_rfl) (TA.actN [0,1] (by kernel_rfl) (an z z (pz (m:=256) (enc:=aG) (0:Int) z b_ dB uV lu z z z z (by omega) (by decide) bn (by decide) z jS (λyT vY=>(k1 ?_))) (an z z (pz (m:=256) (enc:=aJ) ([]:T_1) z fK fU zF sQ z z z z (by omega) (by decide) bF (by decide) z rE (λa138 c139=>(k1 ?_))) (True.intro))))
  ·skip
   refine Ω 2 z (gu (.inr z) z) z (TA.ac 1 z (pz (m:=256) (enc:=aJ) ([]:T_1) z fK fU zF sQ z z z z (by omega) (by decide) bF (by decide) z rE (λa141 PW=>(k2 ?_))))
   exact Ω 3 z (gu (.inr z) z) z (TA.dn (S.n (cf ((),(yT,vY,a141,PW,σ)) ⟨hh,zf0_10,zf0_15,zf0_19,(aj.le.refl _)⟩ (Θ [1,8,8,8,8,8,8,8] 9))))
  skip
  refine TA.ac 0 z (pz (m:=256) (enc:=aG) (0:Int) z b_ dB uV lu z z z z (by omega) (by decide) bn (by decide) z jS (λa144 c145=>(k2 ?_)))
  exact Ω 2 z (gu (.inr z) z) z (Ω 3 z (gu (.inr z) z) z (TA.dn (S.n (cf ((),(a144,c145,a138,c139,σ)) ⟨hh,zf0_10,zf0_15,zf0_19,(aj.le.refl _)⟩ (Θ [1,1,8,8,8,8,8,8,8] 9)))))
 skip
 obtain ⟨_,⟨a124,Aq,a127,Mc,τ147⟩⟩:=g
 obtain ⟨hh,Bc,lN,mJ,xU⟩:=hg
 try dsimp only at Bc
 try dsimp only at lN
 try dsimp only at mJ
 dsimp only at xU
 replace aQ:=aQ.mono xU
 replace fG:=fG.mono xU
 replace hgl:=hgl.mono xU
 replace tH:=tH.mono xU
 try dsimp only
 dsimp only [D2_]at hh
 have zf120b:=Bc.length
 have zf121b:=lN.length
 have zf122b:=mJ.length
 refine χ (i:=1) z (λ_ hb149 _=> ?_)
 refine χ (i:=3) z (λ_ hb150 _=> ?_)
 refine χ (i:=4) z (λ_ U4 _=> ?_)
 refine χ (i:=5) z (λ_ hb152 _=> ?_)
 refine χ (i:=6) z (λ_ U3 _=> ?_)
 refine χ (i:=7) z (λ_ hb154 _=> ?_)
 refine χ (i:=8) z (λ_ hb155 _=> ?_)
 refine ζ (ψ (ξ z z (ε (υ (TC.ig (α:=((List (List Tip))×(FM T_1 Int)×ak×aC×Nat)×((Option Addr)×Nat×(List (List Tip×(aB 2 dJ g_).P))×Nat×aj)) (rgs [(9,2),(26,29)]) (λg=>[(26,.int .i64 ((g.1.2.2.2.2:Nat):Int))]) (λg=>[κ cO #[.slice aA x0.arcs.length ay,.slice jy x0.ends.length jr,.int .i64 x0.most,.slice g.2.1 g.1.1.length g.2.2.1,.map (some g.2.2.2.2.1),.string (bs x0.q.front),.slice a0_12 x0.q.next.length c0_13,.slice a0_16 x0.q.outs.length c0_17,.slice a0_20 x0.q.fin.length c0_21,.slice a0_22 x0.q.tail.length c0_23] pK,φ 22 1 (aB 2 dJ g_).en (.slice g.2.1 g.1.1.length g.2.2.1) g.2.2.2.1,Res.mapB mg nT (some g.2.2.2.2.1) g.1.2.1,φ 86 1 (aB 1 aG bn).en (.slice a0_12 x0.q.next.length c0_13) z0_14,φ 30 1 (aB 1 aJ bF).en (.slice a0_16 x0.q.outs.length c0_17) z0_18,dW 4 eq_ a0_20 c0_21 x0.q.fin,dW 9 aJ a0_22 c0_23 x0.q.tail,φ 3 1 aG (.slice a124 (replicate 256 (0:Int)).length Aq) g.1.2.2.1,φ 9 1 aJ (.slice a127 (replicate 256 ([]:T_1)).length Mc) g.1.2.2.2.1]) (λg=>g.2.2.2.2.2) (λg=>bC (λq:(List (List Tip))×(FM T_1 Int)×ak×aC×Nat=>MW x0 x1 v11r q.1 q.2.1 q.2.2.1 q.2.2.2.1 q.2.2.2.2) g.1=some r/\ZOk g.2.2.2.2.2 (aB 2 dJ g_) g.2.2.2.1 g.1.1/\ZOk g.2.2.2.2.2 (aB 1 aG bn) z0_14 x0.q.next/\ZOk g.2.2.2.2.2 (aB 1 aJ bF) z0_18 x0.q.outs/\g.1.2.2.1.length=(replicate 256 (0:Int)).length/\g.1.2.2.2.1.length=(replicate 256 ([]:T_1)).length/\aj.le τ147 g.2.2.2.2.2) (λg=>f_ (λq:(List (List Tip))×(FM T_1 Int)×ak×aC×Nat=>MW x0 x1 v11r q.1 q.2.1 q.2.2.1 q.2.2.2.1 q.2.2.2.2) g.1) ((x0.rows,x0.places,(replicate 256 (0:Int)),(replicate 256 ([]:T_1)),0),(iH,iF,iM,b0_11,τ147)) (Θ [8,8,8,8,8,8,8,8,8] 9) z (by repeat (first|exact trivial|refine ⟨z,?_⟩)) ⟨hh,Bc,lN,mJ,z,z,(aj.le.refl _)⟩ (λg1 j1 hg1=> ?_))))))
 obtain ⟨⟨wS,yL,eY,jH,gV⟩,⟨a193,c194,VE,Fe,τ207⟩⟩:=g1
 obtain ⟨hh,iU,dF,jJ,vC,Gs,rP⟩:=hg1
 try dsimp only at iU
 try dsimp only at dF
 try dsimp only at jJ
 try dsimp only at vC
 try dsimp only at Gs
 dsimp only at rP
 replace aQ:=aQ.mono rP
 replace fG:=fG.mono rP
 replace hgl:=hgl.mono rP
 replace tH:=tH.mono rP
 try dsimp only
 obtain ⟨z1,hh,hR1⟩:=gJ hh
 dsimp only [MW]at hh
 have zf196b:=iU.length
 have zf200b:=dF.length
 have zf201b:=jJ.length
 refine χ (i:=1) z (λ_ LH _=> ?_)
 refine χ (i:=3) z (λ_ LG _=> ?_)
 refine χ (i:=4) z (λ_ U0 _=> ?_)
 refine χ (i:=5) z (λ_ hb212 _=> ?_)
 refine χ (i:=6) z (λ_ hb213 _=> ?_)
 refine χ (i:=7) z (λ_ hb214 _=> ?_)
 refine χ (i:=8) z (λ_ hb215 _=> ?_)
 refine ψ (ω z (OpVal.lss z z z) (ε (ζ (TC.cD z hh (λh216 hh=> ?_) (λh216 hh=> ?_)))))
 ·refine ι (S.n (ζ (υ (ψ (ξ z z (ξ z z (ε (ψ (Φ z z (ξ z z ?_))))))))))
  obtain ⟨u27,hh⟩:=aP hh
  refine TL.isSl (i:=7) z (λJR _ _=> ?_)
  refine ω z (bU z b_ dB z z JR (by omega)) (θ 7 z z ?_)
  have Ux:(eY.set gV (-1)).length=(replicate 256 (0:Int)).length:=by rw [gy];exact vC
  refine ν z (lG (-1) z dB z z z z bn jS (by omega) (by omega) ?_)
  refine ε (ψ (TL.l z z (Φ z z (ξ z z (ω z (bz_ z underlying3 underlying5 z) (θ 7 z z (θ 7 z z (θ 7 z z (θ 7 z z (θ 7 z z (θ 7 z z (θ 7 z z ?_))))))))))))
  obtain ⟨v33,u33,hh⟩:=dM hh
  refine ν z (OpOk.call (G6_ (x0:=(⟨x0.arcs,x0.ends,x0.most,wS,yL,x0.q⟩:Maker)) aQ fG iU dF jJ tH u33) z z pf131 z z z z ?_)
  rintro _ _ _ hle219 ⟨a219_1,c219_2,rfl,rfl,rfl⟩
  refine Φ z z (ε (ψ (Φ z z (ω z (lenC z kX z) (ω z (OpVal.gtr z z z) (ε (TC.cD z hh (λYC hh=> ?_) (λYC hh=> ?_))))))))
  ·refine ψ (Φ z z (ξ z z (Φ z z ?_)))
   obtain ⟨v41,FB,hh⟩:=dM hh
   rcases v41 with v41k|v41r
   ·dsimp only [su]at hh
    refine TL.P7 z (uw.l (E9_ FB)) z z Oz z z (λτ222 uK=> ?_)
    replace aQ:=aQ.mono uK
    replace fG:=fG.mono uK
    replace hgl:=hgl.mono uK
    replace iU:=iU.mono uK
    replace dF:=dF.mono uK
    replace jJ:=jJ.mono uK
    replace hh:=dG hR1 hh
    obtain rfl:=so hh
    exact ⟨_,Sub.pre 0 z,z⟩
   dsimp only [su]at hh
   refine ν z (Y4 (E9_ FB) z z Oz z z z z ?_)
   rintro _ τ223 _ rO ⟨a223_1,c223_2,rfl,hr223_3,rfl⟩
   replace aQ:=aQ.mono rO
   replace fG:=fG.mono rO
   replace hgl:=hgl.mono rO
   replace iU:=iU.mono rO
   replace dF:=dF.mono rO
   replace jJ:=jJ.mono rO
   have hr223_3b:=hr223_3.rv.big
   refine ω z (wC (.inl z) z) (ω z (OpVal.extract z z z) (ω z (OpVal.extract z z z) ?_))
   obtain ⟨u45,hh⟩:=aP hh
   refine TL.isSl (i:=8) z (λBF _ _=> ?_)
   refine ω z (bU z fK fU z z BF (by omega)) (θ 8 z z ?_)
   have hn225:(jH.set gV v41r.1).length=(replicate 256 ([]:T_1)).length:=by rw [gy];exact Gs
   refine ν z (lG v41r.1 z fU z z z z bF rE (by omega) (by omega) ?_)
   refine Φ z z (ε (η (Φ z z (ξ z z (TL.l z z (Φ z z (θ 7 z z (θ 7 z z (θ 7 z z (θ 7 z z (θ 7 z z (θ 7 z z (θ 7 z z ?_)))))))))))))
   obtain ⟨v52,Oi,hh⟩:=dM hh
   rcases v52 with v52k|v52r
   ·dsimp only [su]at hh
    refine TL.P7 z (uw.l (Dr_ (x0:=(⟨x0.arcs,x0.ends,x0.most,wS,yL,x0.q⟩:Maker)) hgl aQ fG iU dF jJ hr223_3 Oi)) z z Oy z z (λτ226 rM=> ?_)
    replace aQ:=aQ.mono rM
    replace fG:=fG.mono rM
    replace hgl:=hgl.mono rM
    replace iU:=iU.mono rM
    replace dF:=dF.mono rM
    replace jJ:=jJ.mono rM
    replace hr223_3:=hr223_3.mono rM
    replace hh:=dG hR1 hh
    obtain rfl:=so hh
    exact ⟨_,Sub.pre 0 z,z⟩
   dsimp only [su]at hh
   refine ν z (Y4 (Dr_ (x0:=(⟨x0.arcs,x0.ends,x0.most,wS,yL,x0.q⟩:Maker)) hgl aQ fG iU dF jJ hr223_3 Oi) z z Oy z z z z ?_)
   rintro _ τ227 _ Aa ⟨a227_1,c227_2,z227_3,b227_5,rfl,zf227_4,rfl⟩
   replace iU:=iU.mono Aa
   replace dF:=dF.mono Aa
   replace jJ:=jJ.mono Aa
   have zf227_4b:=zf227_4.length
   obtain ⟨u53,hh⟩:=aP hh
   refine TL.isSl (i:=8) z (λhs230 _ _=> ?_)
   refine ω z (bU z b_ dB z z hs230 (by omega)) (θ 8 z z ?_)
   have oO:((eY.set gV (-1)).set gV v52r.1).length=(replicate 256 (0:Int)).length:=by rw [gy];exact Ux
   refine ν z (lG v52r.1 z dB z z z z bn jS (by omega) (by omega) ?_)
   refine TL.nil (B.n (S.n (η (ω z (OpVal.succ z z z (by omega)) (ξ z z (ε ?_))))))
   obtain ⟨hh,D6⟩:=dO hR1 hh
   exact lf ((v52r.2.rows,v52r.2.places,((eY.set gV (-1)).set gV v52r.1),(jH.set gV v41r.1),(gV+1)),(a227_1,c227_2,z227_3,b227_5,τ227)) D6 ⟨hh,zf227_4,dF,jJ,oO,hn225,((rP.trans rO).trans Aa)⟩ (Θ [8,1,8,8,8,8,8,8,8] 9)
  refine ι (B.n (S.n (η (ω z (OpVal.succ z z z (by omega)) (ξ z z (ε ?_))))))
  obtain ⟨hh,D5⟩:=dO hR1 hh
  exact lf ((wS,yL,(eY.set gV (-1)),jH,(gV+1)),(a193,c194,VE,Fe,τ207)) D5 ⟨hh,iU,dF,jJ,Ux,Gs,rP⟩ (Θ [9,9,9,9,9,9,9,9,9] 9)
 refine TC.exit (S.x (S.x ?_))
 replace hh:=dG hR1 hh
 refine Δ (S.n (ψ (TL.l z z (TL.l z z (ω z (nJ z z) (ω z (aS z Nr z) (ω z (aS z kS z) (ω z (aZ z jT z (i:=0) z z) (Φ z z ?_)))))))))
 rw [<-vC]
 refine θ 7 z z (TL.oh bn (λτ238 xK BN=> ?_))
 replace iU:=iU.mono xK
 replace dF:=dF.mono xK
 replace jJ:=jJ.mono xK
 have hr236b:=BN.rv.big
 have Ry:ZOk _ (aB 1 aG bn) ([(eY,(a124,Aq))]:List (ak×(aB 1 aG bn).P)) [eY]:=ZOk.cons (BN) (ZOk.nil _ _)
 refine ν z (litZ Ry z eU fZ z lq z z z (by decide) (by decide) z (by decide) z (by decide) (λa234 c235=> ?_))
 refine θ 4 z z ?_
 obtain ⟨u65,hh⟩:=aP hh
 refine ν z (MJ (k:=(aB 1 aG bn)) dF Ry z z eU fZ mV lq z z (by decide) z z z (.inr ⟨_,0,z⟩) (by simpa using u65) (by decide) (λZk YT IW=> ?_))
 refine ω z (nJ z z) (ω z (aS z Nr z) (ω z (aS z kS z) (θ 2 z z (ν z (gK z jC z z z z z ?_)))))
 refine ε (ψ (TL.l z z (TL.l z z (ω z (nJ z z) (ω z (aS z Nr z) (ω z (aS z oQ z) (ω z (aZ z pI z (i:=0) z z) (Φ z z ?_))))))))
 rw [<-Gs]
 refine θ 8 z z (TL.oh bF (λτ248 ED Ud=> ?_))
 replace iU:=iU.mono ED
 replace jJ:=jJ.mono ED
 replace IW:=IW.mono ED
 have hr246b:=Ud.rv.big
 have A8:ZOk _ (aB 1 aJ bF) ([(jH,(a127,Mc))]:List (aC×(aB 1 aJ bF).P)) [jH]:=ZOk.cons (Ud) (ZOk.nil _ _)
 refine ν z (litZ A8 z lI mM z Hy z z z (by decide) (by decide) z (by decide) z (by decide) (λa244 c245=> ?_))
 refine θ 6 z z ?_
 obtain ⟨u78,hh⟩:=aP hh
 refine ν z (MJ (k:=(aB 1 aJ bF)) jJ A8 z z lI mM RP Hy z z (by decide) z z z (.inr ⟨_,0,z⟩) (by simpa using u78) (by decide) (λMN L9 nM=> ?_))
 refine ω z (nJ z z) (ω z (aS z Nr z) (ω z (aS z oQ z) (θ 2 z z (ν z (gK z RQ z z z z z ?_)))))
 refine ε (ψ (TL.l z z (TL.l z z (ω z (nJ z z) (ω z (aS z Nr z) (ω z (aS z tV z) (ω z (aZ z qV z (i:=0) z z) (TL.j z z (ν z (OpOk.lit (enc:=eq_) [v11r.1] z gI gQ AA z z z jc (by decide) (by decide) false z (by decide) z (by decide) qZ (λa254 c255=> ?_)))))))))))
 refine θ 8 z z ?_
 obtain ⟨u91,hh⟩:=aP hh
 refine ν z (as_ z z gI gQ G8 AA z z (by decide) z z z (.inr ⟨_,0,z⟩) (by simpa using u91) (by decide) (λML L8=> ?_))
 refine ω z (nJ z z) (ω z (aS z Nr z) (ω z (aS z tV z) (θ 2 z z (ν z (gK z Js z z z z z ?_)))))
 refine ε (η (TL.l z z (TL.l z z (ω z (nJ z z) (ω z (aS z Nr z) (ω z (aS z uh z) (ω z (aZ z lJ z (i:=0) z z) (ω z (eu (.inl z) z) (ν z (OpOk.lit (enc:=aJ) [v11r.2] z fK fU sQ z z z bF (by decide) (by decide) ([]:T_1) z (by decide) z (by decide) rE (λa259 c260=> ?_)))))))))))
 refine θ 10 z z ?_
 obtain ⟨Oo,hh⟩:=aP hh
 refine ν z (as_ z z fK fU zF sQ z z (by decide) z z z (.inr ⟨_,0,z⟩) (by simpa using Oo) (by decide) (λMK L6=> ?_))
 refine ω z (nJ z z) (ω z (aS z Nr z) (ω z (aS z uh z) (θ 2 z z (ν z (gK z mM z z z z z ?_)))))
 refine TL.nil ?_
 obtain rfl:=so hh
 refine ⟨_,Θ [1,3,5,7,10,10,6] 7,?_⟩
 exact RetOk.mk' (rs:=[]) [κ cO #[.slice aA x0.arcs.length ay,.slice jy x0.ends.length jr,.int .i64 x0.most,.slice a193 wS.length c194,.map (some Fe),.string (bs x0.q.front),.slice Zk ((x0.q.next++[eY]).length) YT,.slice MN ((x0.q.outs++[jH]).length) L9,.slice ML ((x0.q.fin++[v11r.1]).length) L8,.slice MK ((x0.q.tail++[v11r.2]).length) L6] pK,φ 22 1 (aB 2 dJ g_).en (.slice a193 wS.length c194) VE,Res.mapB mg nT (some Fe) yL,φ 86 1 (aB 1 aG bn).en (.slice Zk (x0.q.next++[eY]).length YT) (z0_14++([(eY,(a124,Aq))]:List (ak×(aB 1 aG bn).P))),φ 30 1 (aB 1 aJ bF).en (.slice MN (x0.q.outs++[jH]).length L9) (z0_18++([(jH,(a127,Mc))]:List (aC×(aB 1 aJ bF).P))),dW 4 eq_ ML L8 (x0.q.fin++[v11r.1]),dW 9 aJ MK L6 (x0.q.tail++[v11r.2])] z (.inr z) RVs.nil (List.sublist_append_left _ _) ⟨a193,c194,VE,Fe,Zk,YT,(z0_14++([(eY,(a124,Aq))]:List (ak×(aB 1 aG bn).P))),MN,L9,(z0_18++([(jH,(a127,Mc))]:List (aC×(aB 1 aJ bF).P))),ML,L8,MK,L6,z,iU,IW,nM,z⟩
def Gn_(x0:Seq)(x1:Int):Option (Unit):=
 some ()
theorem Ha_{σ:aj}{x0:Seq}{x1:Int}(aQ:RZ σ (aB 1 aG bn) (.slice aA x0.next.length ay) x0.next)(fG:RZ σ (aB 1 aJ bF) (.slice jy x0.outs.length jr) x0.outs)(f0_9:dA σ eq_ iH iF x0.fin)(f0_12:dA σ aJ a0_10 c0_11 x0.tail){r:Unit}(hh:Gn_ x0 x1=some r):
  RH prog 86 #[loc cO 0,loc fQ 0] σ [κ cO (oI x0 aA ay jy jr iH iF a0_10 c0_11) pK,κ fQ #[.int .i64 x1] uY] (λv σ' H'=>v= .tuple #[]/\σ=σ'/\H'=[κ cO (oI x0 aA ay jy jr iH iF a0_10 c0_11) pK,κ fQ #[.int .i64 x1] uY]):=by
 dsimp only [Gn_]at hh
 have f0_3b:=aQ.big
 have f0_6b:=fG.big
 have f0_9b:=f0_9.rv.big
 have f0_12b:=f0_12.rv.big
 refine RH.rec (n:=13) Tryz.func86 z z z z z z z (λw0=> ?_)
 refine ω z (dn_ z underlying142 (Va VW) z) (ω z (wC (.inl z) z) (ω z (OpVal.extract z z z) (ω z (OpVal.extract z z z) (ν z (OpOk.alloc z VW z z (λb107=> ?_))))))
 refine ν z (storeAll z RY z z z z z z ?_)
 refine TL.j z z (ε (ψ (TL.j z z (ε (TC.f z (ι ?_))))))
 obtain rfl:=so hh
 refine ⟨_,Θ [2,2] 2,?_⟩
 exact RetOk.mk' (rs:=[]) [κ cO (oI x0 aA ay jy jr iH iF a0_10 c0_11) pK,κ fQ #[.int .i64 x1] uY] z (.inr z) RVs.nil (List.sublist_append_left _ _) ⟨z,z,z⟩
def Fb_(k:Int):Option (Seq×Int):=
 some ((⟨([]:T_1),([]:bZ),([]:fO),([]:B_1),([]:aC)⟩:Seq),k)
theorem F7_{σ:aj}{x1g:Int}{k:Int}{r:Seq×Int}(hh:Fb_ k=some r):
  ConR prog 86 #[loc cO 0,loc fQ 0] (fltV 142 k) σ [κ cO #[.string (bs ([]:T_1)),bT,bT,bT,bT] pK,κ fQ #[.int .i64 x1g] uY] (λv σ' H'=> ∃Dx Dp ao4 co5 ao7 co8 MF LZ,v= .tuple #[]/\RZ σ' (aB 1 aG bn) (.slice Dx r.1.next.length Dp) r.1.next/\RZ σ' (aB 1 aJ bF) (.slice ao4 r.1.outs.length co5) r.1.outs/\dA σ' eq_ ao7 co8 r.1.fin/\dA σ' aJ MF LZ r.1.tail/\H'=[κ cO (oI r.1 Dx Dp ao4 co5 ao7 co8 MF LZ) pK,κ fQ #[.int .i64 r.2] uY]):=by
 dsimp only [Fb_]at hh
 refine ConR.rec (n:=13) Tryz.func86 z z z z z z z (λw0=> ?_)
 refine ω z (dm_ z underlying142 z) (ω z (wC (.inl z) z) (ω z (OpVal.extract z z z) (ω z (OpVal.extract z z z) (ν z (OpOk.alloc z VW z z (λb107=> ?_))))))
 refine ν z (storeAll z RY z z z z z z ?_)
 refine TL.j z z (ε (ψ (TL.j z z (ε (TC.t z (TC.P6 (Hr:=[κ b107 #[.int .i64 k] 142,κ cO #[.string (bs ([]:T_1)),bT,bT,bT,bT] pK]) (λr hr=>qG [0,1] z hr) [] (by kernel_rfl) (Ω 0 z (nD z wP if_ z) z (Ω 1 z (aS z fo142_0 z) z (TA.b 2 z (aZ z Il z (i:=0) z z) z (TA.front 1 z z (TA.ac 3 z (storeAll z fE z z z z z z ⟨(λw h=>rX (aj.le.refl _) (λr hr=>qG [1,0] z hr) w h),?_⟩))))))))))))
 refine TA.front 2 z z (TA.ac 4 z (b8_ z VU z z z z z ⟨(λw h=>rX (aj.le.refl _) (λr hr=>qG [2,1] z hr) w h),?_⟩))
 refine TA.dn ?_
 obtain rfl:=so hh
 refine ⟨_,Θ [1] 2,?_⟩
 exact RetOk.mk' (rs:=[]) [κ cO #[.string (bs ([]:T_1)),bT,bT,bT,bT] pK,κ fQ #[.int .i64 k] uY] z (.inr z) RVs.nil (List.sublist_append_left _ _) ⟨none,0,none,0,none,0,none,0,z,(RZ.nilF _ (aB 1 aG bn)),(RZ.nilF _ (aB 1 aJ bF)),(RS.nilF _ eq_ jc),(RS.nilF _ aJ bF),z⟩
def MS(x0:Maker)(v16r:T_1×(List Tip))(JG:List (List Tip))(Pg:FM T_1 Int)(mD:bZ)(nR:fO)(H9:B_1)(H8:aC)(JI:Nat):Option (((List (List Tip))×(FM T_1 Int)×bZ×fO×B_1×aC×Nat)⊕(Seq×Int)):=
 aN (decide ((JI:Int)<((JG.length:Nat):Int))) (bnd (Eu_ (⟨x0.arcs,x0.ends,x0.most,JG,Pg,(⟨v16r.1,mD,nR,H9,H8⟩:Seq)⟩:Maker) (JI:Int)) (λv41=>su v41 (λv41k=>fin (bnd (Fb_ v41k) (λv70=>some (v70.1,v70.2)))) (λv41r=>nxt (v41r.rows,v41r.places,v41r.q.next,v41r.q.outs,v41r.q.fin,v41r.q.tail,(JI+1))))) (fin (bnd (Gn_ (⟨v16r.1,mD,nR,H9,H8⟩:Seq) 0) (λv71=>some ((⟨v16r.1,mD,nR,H9,H8⟩:Seq),0))))
def En_(x0:Maker)(x1:Fst):Option (Seq×Int):=
 aN (decide (((x1.starts.length:Nat):Int)=0)) (bnd (Gn_ (⟨([]:T_1),([]:bZ),([]:fO),([]:B_1),([]:aC)⟩:Seq) 0) (λv51=>some ((⟨([]:T_1),([]:bZ),([]:fO),([]:B_1),([]:aC)⟩:Seq),0))) (grd (x1.starts.length * 24<=140737488355328) (bnd (Fd_ x1.starts) (λv16=>su v16 (λv16k=>bnd (Fb_ v16k) (λv52=>some (v52.1,v52.2))) (λv16r=>bnd (IK (⟨x0.arcs,x0.ends,x0.most,x0.rows,x0.places,(⟨v16r.1,x0.q.next,x0.q.outs,x0.q.fin,x0.q.tail⟩:Seq)⟩:Maker) v16r.2) (λv30=>su v30 (λv30k=>bnd (Fb_ v30k) (λv53=>some (v53.1,v53.2))) (λv30r=>bC (λq:(List (List Tip))×(FM T_1 Int)×bZ×fO×B_1×aC×Nat=>MS x0 v16r q.1 q.2.1 q.2.2.1 q.2.2.2.1 q.2.2.2.2.1 q.2.2.2.2.2.1 q.2.2.2.2.2.2) (v30r.2.rows,v30r.2.places,x0.q.next,x0.q.outs,x0.q.fin,x0.q.tail,0)))))))
theorem Hq_{σ:aj}{x0:Maker}{iM:List (List Tip×(aB 2 dJ g_).P)}{z0_14:List (ak×(aB 1 aG bn).P)}{z0_18:List (aC×(aB 1 aJ bF).P)}{x1:Fst}(hgl:Dz σ 1 2)(aQ:RZ σ (aB 8 kF wB) (.slice aA x0.arcs.length ay) x0.arcs)(fG:RZ σ (aB 1 aJ bF) (.slice jy x0.ends.length jr) x0.ends)(zf0_10:ZOk σ (aB 2 dJ g_) iM x0.rows)(zf0_15:ZOk σ (aB 1 aG bn) z0_14 x0.q.next)(zf0_19:ZOk σ (aB 1 aJ bF) z0_18 x0.q.outs)(bP:RS σ 2 dJ (.slice eF x1.starts.length dZ) x1.starts)(ku:RS σ 2 dJ (.slice iL x1.ends.length o9) x1.ends)(kQ:RS σ 8 kF (.slice nH x1.arcs.length iK) x1.arcs){r:Seq×Int}(hh:En_ x0 x1=some r):
  Con prog 45 #[loc cO 0,.agg (oU x1 eF dZ iL o9 nH iK)] σ [κ cO #[.slice aA x0.arcs.length ay,.slice jy x0.ends.length jr,.int .i64 x0.most,.slice iH x0.rows.length iF,.map (some b0_11),.string (bs x0.q.front),.slice a0_12 x0.q.next.length c0_13,.slice a0_16 x0.q.outs.length c0_17,.slice a0_20 x0.q.fin.length c0_21,.slice a0_22 x0.q.tail.length c0_23] pK,φ 22 1 (aB 2 dJ g_).en (.slice iH x0.rows.length iF) iM,Res.mapB mg nT (some b0_11) x0.places,φ 86 1 (aB 1 aG bn).en (.slice a0_12 x0.q.next.length c0_13) z0_14,φ 30 1 (aB 1 aJ bF).en (.slice a0_16 x0.q.outs.length c0_17) z0_18,dW 4 eq_ a0_20 c0_21 x0.q.fin,dW 9 aJ a0_22 c0_23 x0.q.tail] (λv σ' H'=> ∃a1 c1 a2 c2 a3 c3 a4 c4,v= .tuple #[.agg (oI r.1 a1 c1 a2 c2 a3 c3 a4 c4),.int .i64 r.2]/\RZ σ' (aB 1 aG bn) (.slice a1 r.1.next.length c1) r.1.next/\RZ σ' (aB 1 aJ bF) (.slice a2 r.1.outs.length c2) r.1.outs/\dA σ' eq_ a3 c3 r.1.fin/\dA σ' aJ a4 c4 r.1.tail/\H'=[]):=by
 dsimp only [En_]at hh
 have f0_3b:=aQ.big
 have f0_6b:=fG.big
 have zf0_10b:=zf0_10.length
 have zf0_15b:=zf0_15.length
 have zf0_19b:=zf0_19.length
 have f1_0b:=bP.rv.big
 have f1_1b:=ku.rv.big
 have f1_2b:=kQ.rv.big
 refine Con.mkD (n:=46) Tryz.func45 z z z (λw0=> ?_)
 refine TB.seq t2_ (η (ν z (boxA z z z z (λb110=> ?_))))
 refine ν z (OpOk.alloc z if_ z z (λqC=> ?_))
 refine ν z (OpOk.alloc z ze33 z z (λZd=> ?_))
 refine ε (TB.seqD (TLB.v z (ce_ z) z z (TLB.dfr (dargs:=[]) z z z z z (λa_ w_ hw_ ha_=> ?_))))
 refine TB.fin (Q:=dfrX _ _ _ _ 86 [loc qC 0,loc Zd 0]) (w7_ (cap:=[loc qC 0,loc Zd 0]) (dargs:=[]) pf86) ?_ w_ a_ hw_ ha_
 clear hw_ ha_ a_ w_
 refine ζ (ψ (ω z (aS z Td z) (ω z (aZ z FH z (i:=2) z z) (ω z (lenC z kX z) (ω z (OpVal.eql z z z) (ε (TC.cD z hh (λh116 hh=> ?_) (λh116 hh=> ?_))))))))
 ·refine ψ (ω z (nD z wP if_ z) (θ 1 z z (ν z (storeAll z fE z z z z z z ?_))))
  refine θ 1 z z (ν z (b8_ z VU z z z z z ?_))
  refine ε (TC.front 1 z z ?_)
  obtain ⟨v51,u51,hh⟩:=dM hh
  refine TC.ret (S.r (.inl ⟨.inl z,_,Sub.pre 2 z,(Ha_ (RZ.nilF _ (aB 1 aG bn)) (RZ.nilF _ (aB 1 aJ bF)) (RS.nilF _ eq_ jc) (RS.nilF _ aJ bF) u51).mono ?_⟩))
  rintro _ _ _ KZ ⟨rfl,rfl,rfl⟩
  obtain rfl:=so hh
  exact RetOk.mk' (rs:=[.cell 4 32,.cell 5 33]) [] z (.inl z) (RVs.agg ji fE z (i:=0) z z (RVs.one Il z (i:=1) z z RVs.nil)) (List.nil_sublist _) ⟨none,0,none,0,none,0,none,0,z,(RZ.nilF _ (aB 1 aG bn)),(RZ.nilF _ (aB 1 aJ bF)),(RS.nilF _ eq_ jc),(RS.nilF _ aJ bF),z⟩
 refine ι (S.n (ψ (ω z (aS z Td z) (ω z (aZ z FH z (i:=2) z z) ?_))))
 obtain ⟨u15,hh⟩:=aP hh
 refine ν z (OpOk.call (Hu_ bP u15) z z pf88 z z z z ?_)
 rintro _ _ _ _ ⟨⟨qM,c119,rfl⟩,rfl,rfl⟩
 obtain ⟨v16,u16,hh⟩:=dM hh
 rcases v16 with v16k|v16r
 ·dsimp only [su]at hh
  refine TL.P7 z (uw.l (E9_ u16)) z z Oz z z (λτ121 uN=> ?_)
  replace aQ:=aQ.mono uN
  replace fG:=fG.mono uN
  replace zf0_10:=zf0_10.mono uN
  replace zf0_15:=zf0_15.mono uN
  replace zf0_19:=zf0_19.mono uN
  replace hgl:=hgl.mono uN
  obtain ⟨v52,Oi,hh⟩:=dM hh
  refine .inr ⟨_,z,_,Θ [1] 2,(F7_ Oi).mono ?_⟩
  rintro _ τ122 _ lX ⟨a122_1,c122_2,a122_4,c122_5,a122_7,c122_8,a122_10,c122_11,rfl,f122_3,f122_6,f122_9,f122_12,rfl⟩
  replace aQ:=aQ.mono lX
  replace fG:=fG.mono lX
  replace zf0_10:=zf0_10.mono lX
  replace zf0_15:=zf0_15.mono lX
  replace zf0_19:=zf0_19.mono lX
  replace hgl:=hgl.mono lX
  have f122_3b:=f122_3.big
  have f122_6b:=f122_6.big
  have f122_9b:=f122_9.rv.big
  have f122_12b:=f122_12.rv.big
  obtain rfl:=so hh
  exact RetOk.mk' (rs:=[.cell 4 32,.cell 5 33]) [] z (.inl z) (RVs.agg ji fE z (i:=0) z z (RVs.one Il z (i:=1) z z RVs.nil)) (List.nil_sublist _) ⟨a122_1,c122_2,a122_4,c122_5,a122_7,c122_8,a122_10,c122_11,z,f122_3,f122_6,f122_9,f122_12,z⟩
 dsimp only [su]at hh
 refine ν z (Y4 (E9_ u16) z z Oz z z z z ?_)
 rintro _ τ127 _ ny ⟨a127_1,c127_2,rfl,hr127_3,rfl⟩
 replace aQ:=aQ.mono ny
 replace fG:=fG.mono ny
 replace zf0_10:=zf0_10.mono ny
 replace zf0_15:=zf0_15.mono ny
 replace zf0_19:=zf0_19.mono ny
 replace hgl:=hgl.mono ny
 have hr127_3b:=hr127_3.rv.big
 refine ω z (wC (.inl z) z) (ω z (OpVal.extract z z z) (ω z (OpVal.extract z z z) (ω z (eu (.inr z) z) (Φ z z (ε (ψ (TL.l z z (ω z (eu (.inl z) z) (ω z (nJ z z) (ω z (aS z Nr z) (ω z (aS z DL z) (θ 3 z z (ν z (b7_ z fU z z z z z ?_))))))))))))))
 refine ε (ψ (TL.l z z (Φ z z (θ 9 z z (θ 9 z z (θ 9 z z (θ 9 z z (θ 9 z z (θ 9 z z (θ 6 z z ?_))))))))))
 obtain ⟨v30,u30,hh⟩:=dM hh
 rcases v30 with v30k|v30r
 ·dsimp only [su]at hh
  refine TL.P7 z (uw.l (Dr_ (x0:=(⟨x0.arcs,x0.ends,x0.most,x0.rows,x0.places,(⟨v16r.1,x0.q.next,x0.q.outs,x0.q.fin,x0.q.tail⟩:Seq)⟩:Maker)) hgl aQ fG zf0_10 zf0_15 zf0_19 hr127_3 u30)) z z Oy z z (λτ128 kY=> ?_)
  replace aQ:=aQ.mono kY
  replace fG:=fG.mono kY
  replace zf0_10:=zf0_10.mono kY
  replace zf0_15:=zf0_15.mono kY
  replace zf0_19:=zf0_19.mono kY
  replace hgl:=hgl.mono kY
  replace hr127_3:=hr127_3.mono kY
  obtain ⟨v53,u53,hh⟩:=dM hh
  refine .inr ⟨_,z,_,Θ [1] 2,(F7_ u53).mono ?_⟩
  rintro _ τ129 _ qj ⟨a129_1,c129_2,a129_4,c129_5,a129_7,c129_8,a129_10,c129_11,rfl,f129_3,f129_6,f129_9,f129_12,rfl⟩
  replace aQ:=aQ.mono qj
  replace fG:=fG.mono qj
  replace zf0_10:=zf0_10.mono qj
  replace zf0_15:=zf0_15.mono qj
  replace zf0_19:=zf0_19.mono qj
  replace hgl:=hgl.mono qj
  replace hr127_3:=hr127_3.mono qj
  have f129_3b:=f129_3.big
  have f129_6b:=f129_6.big
  have f129_9b:=f129_9.rv.big
  have f129_12b:=f129_12.rv.big
  obtain rfl:=so hh
  exact RetOk.mk' (rs:=[.cell 4 32,.cell 5 33]) [] z (.inl z) (RVs.agg ji fE z (i:=0) z z (RVs.one Il z (i:=1) z z RVs.nil)) (List.nil_sublist _) ⟨a129_1,c129_2,a129_4,c129_5,a129_7,c129_8,a129_10,c129_11,z,f129_3,f129_6,f129_9,f129_12,z⟩
 dsimp only [su]at hh
 refine ν z (Y4 (Dr_ (x0:=(⟨x0.arcs,x0.ends,x0.most,x0.rows,x0.places,(⟨v16r.1,x0.q.next,x0.q.outs,x0.q.fin,x0.q.tail⟩:Seq)⟩:Maker)) hgl aQ fG zf0_10 zf0_15 zf0_19 hr127_3 u30) z z Oy z z z z ?_)
 rintro _ τ134 _ rQ ⟨a134_1,c134_2,z134_3,b134_5,rfl,zf134_4,rfl⟩
 replace aQ:=aQ.mono rQ
 replace fG:=fG.mono rQ
 replace zf0_15:=zf0_15.mono rQ
 replace zf0_19:=zf0_19.mono rQ
 replace hgl:=hgl.mono rQ
 have zf134_4b:=zf134_4.length
 refine ε (ζ (ψ (ξ z z (ε (υ (TC.ig (α:=((List (List Tip))×(FM T_1 Int)×bZ×fO×B_1×aC×Nat)×((Option Addr)×Nat×(List (List Tip×(aB 2 dJ g_).P))×Nat×(Option Addr)×Nat×(List (ak×(aB 1 aG bn).P))×(Option Addr)×Nat×(List (aC×(aB 1 aJ bF).P))×(Option Addr)×Nat×(Option Addr)×Nat×aj)) (rgs [(8,1),(30,12)]) (λg=>[(8,.int .i64 ((g.1.2.2.2.2.2.2:Nat):Int))]) (λg=>[κ cO #[.slice aA x0.arcs.length ay,.slice jy x0.ends.length jr,.int .i64 x0.most,.slice g.2.1 g.1.1.length g.2.2.1,.map (some g.2.2.2.2.1),.string (bs v16r.1),.slice g.2.2.2.2.2.1 g.1.2.2.1.length g.2.2.2.2.2.2.1,.slice g.2.2.2.2.2.2.2.2.1 g.1.2.2.2.1.length g.2.2.2.2.2.2.2.2.2.1,.slice g.2.2.2.2.2.2.2.2.2.2.2.1 g.1.2.2.2.2.1.length g.2.2.2.2.2.2.2.2.2.2.2.2.1,.slice g.2.2.2.2.2.2.2.2.2.2.2.2.2.1 g.1.2.2.2.2.2.1.length g.2.2.2.2.2.2.2.2.2.2.2.2.2.2.1] pK,φ 22 1 (aB 2 dJ g_).en (.slice g.2.1 g.1.1.length g.2.2.1) g.2.2.2.1,Res.mapB mg nT (some g.2.2.2.2.1) g.1.2.1,φ 86 1 (aB 1 aG bn).en (.slice g.2.2.2.2.2.1 g.1.2.2.1.length g.2.2.2.2.2.2.1) g.2.2.2.2.2.2.2.1,φ 30 1 (aB 1 aJ bF).en (.slice g.2.2.2.2.2.2.2.2.1 g.1.2.2.2.1.length g.2.2.2.2.2.2.2.2.2.1) g.2.2.2.2.2.2.2.2.2.2.1,φ 4 1 eq_ (.slice g.2.2.2.2.2.2.2.2.2.2.2.1 g.1.2.2.2.2.1.length g.2.2.2.2.2.2.2.2.2.2.2.2.1) g.1.2.2.2.2.1,φ 9 1 aJ (.slice g.2.2.2.2.2.2.2.2.2.2.2.2.2.1 g.1.2.2.2.2.2.1.length g.2.2.2.2.2.2.2.2.2.2.2.2.2.2.1) g.1.2.2.2.2.2.1,κ qC #[.string (bs ([]:T_1)),bT,bT,bT,bT] 32,κ Zd #[.int .i64 0] 33]) (λg=>g.2.2.2.2.2.2.2.2.2.2.2.2.2.2.2) (λg=>bC (λq:(List (List Tip))×(FM T_1 Int)×bZ×fO×B_1×aC×Nat=>MS x0 v16r q.1 q.2.1 q.2.2.1 q.2.2.2.1 q.2.2.2.2.1 q.2.2.2.2.2.1 q.2.2.2.2.2.2) g.1=some r/\ZOk g.2.2.2.2.2.2.2.2.2.2.2.2.2.2.2 (aB 2 dJ g_) g.2.2.2.1 g.1.1/\ZOk g.2.2.2.2.2.2.2.2.2.2.2.2.2.2.2 (aB 1 aG bn) g.2.2.2.2.2.2.2.1 g.1.2.2.1/\ZOk g.2.2.2.2.2.2.2.2.2.2.2.2.2.2.2 (aB 1 aJ bF) g.2.2.2.2.2.2.2.2.2.2.1 g.1.2.2.2.1/\aj.le τ134 g.2.2.2.2.2.2.2.2.2.2.2.2.2.2.2) (λg=>f_ (λq:(List (List Tip))×(FM T_1 Int)×bZ×fO×B_1×aC×Nat=>MS x0 v16r q.1 q.2.1 q.2.2.1 q.2.2.2.1 q.2.2.2.2.1 q.2.2.2.2.2.1 q.2.2.2.2.2.2) g.1) ((v30r.2.rows,v30r.2.places,x0.q.next,x0.q.outs,x0.q.fin,x0.q.tail,0),(a134_1,c134_2,z134_3,b134_5,a0_12,c0_13,z0_14,a0_16,c0_17,z0_18,a0_20,c0_21,a0_22,c0_23,τ134)) (Θ [7,8,8,8,8,8,8,8,8] 9) z (by repeat (first|exact trivial|refine ⟨z,?_⟩)) ⟨hh,zf134_4,zf0_15,zf0_19,(aj.le.refl _)⟩ (λg1 j1 hg1=> ?_)))))))
 obtain ⟨⟨JG,Pg,mD,nR,H9,H8,JI⟩,⟨a202,c203,z204,b208,yB,c212,z213,tY,c218,z219,Zm,YU,a227,c228,τ230⟩⟩:=g1
 obtain ⟨hh,u_,jd,nN,xM⟩:=hg1
 try dsimp only at u_
 try dsimp only at jd
 try dsimp only at nN
 dsimp only at xM
 replace aQ:=aQ.mono xM
 replace fG:=fG.mono xM
 replace hgl:=hgl.mono xM
 try dsimp only
 obtain ⟨z1,hh,hR1⟩:=gJ hh
 dsimp only [MS]at hh
 have zf205b:=u_.length
 have zf214b:=jd.length
 have zf220b:=nN.length
 refine χ (i:=1) z (λ_ hb232 _=> ?_)
 refine χ (i:=3) z (λ_ hb233 _=> ?_)
 refine χ (i:=4) z (λ_ hb234 _=> ?_)
 refine χ (i:=5) z (λ_ UW _=> ?_)
 refine χ (i:=6) z (λ_ GZ _=> ?_)
 refine ζ (ψ (ξ z z (TL.l z z (ω z (nJ z z) (ω z (aS z r7_ z) (ω z (aZ z Qb z (i:=0) z z) (ω z (lenC z underlying72 z) (ω z (OpVal.lss z z z) (ε (TC.cD z hh (λLJ hh=> ?_) (λLJ hh=> ?_)))))))))))
 ·refine ι (S.n (ζ (υ (η (TL.l z z (ξ z z (θ 6 z z (θ 6 z z (θ 6 z z (θ 6 z z (θ 6 z z (θ 6 z z (θ 6 z z ?_)))))))))))))
  obtain ⟨v41,FB,hh⟩:=dM hh
  rcases v41 with v41k|v41r
  ·dsimp only [su]at hh
   refine TL.P7 z (uw.l (Gi_ (x0:=(⟨x0.arcs,x0.ends,x0.most,JG,Pg,(⟨v16r.1,mD,nR,H9,H8⟩:Seq)⟩:Maker)) hgl aQ fG u_ jd nN FB)) z z pf90 z z (λτ238 uJ=> ?_)
   replace aQ:=aQ.mono uJ
   replace fG:=fG.mono uJ
   replace hgl:=hgl.mono uJ
   replace u_:=u_.mono uJ
   replace jd:=jd.mono uJ
   replace nN:=nN.mono uJ
   replace hh:=dG hR1 hh
   obtain ⟨v70,u70,hh⟩:=dM hh
   refine .inr ⟨_,z,_,Θ [1,1] 2,(F7_ u70).mono ?_⟩
   rintro _ τ239 _ uI ⟨a239_1,c239_2,a239_4,c239_5,a239_7,c239_8,a239_10,c239_11,rfl,f239_3,f239_6,f239_9,f239_12,rfl⟩
   replace aQ:=aQ.mono uI
   replace fG:=fG.mono uI
   replace hgl:=hgl.mono uI
   replace u_:=u_.mono uI
   replace jd:=jd.mono uI
   replace nN:=nN.mono uI
   have f239_3b:=f239_3.big
   have f239_6b:=f239_6.big
   have f239_9b:=f239_9.rv.big
   have f239_12b:=f239_12.rv.big
   obtain rfl:=so hh
   exact RetOk.mk' (rs:=[.cell 4 32,.cell 5 33]) [] z (.inl z) (RVs.agg ji fE z (i:=0) z z (RVs.one Il z (i:=1) z z RVs.nil)) (List.nil_sublist _) ⟨a239_1,c239_2,a239_4,c239_5,a239_7,c239_8,a239_10,c239_11,z,f239_3,f239_6,f239_9,f239_12,z⟩
  dsimp only [su]at hh
  refine ν z (Y4 (Gi_ (x0:=(⟨x0.arcs,x0.ends,x0.most,JG,Pg,(⟨v16r.1,mD,nR,H9,H8⟩:Seq)⟩:Maker)) hgl aQ fG u_ jd nN FB) z z pf90 z z z z ?_)
  rintro _ τ244 _ EF ⟨a244_1,c244_2,z244_3,b244_5,a244_6,c244_7,z244_8,a244_10,c244_11,z244_12,a244_14,c244_15,a244_16,c244_17,rfl,zf244_4,zf244_9,zf244_13,rfl⟩
  replace jd:=jd.mono EF
  replace nN:=nN.mono EF
  have zf244_4b:=zf244_4.length
  have zf244_9b:=zf244_9.length
  have zf244_13b:=zf244_13.length
  refine TL.nil (B.n (S.n (η (ξ z z (ω z (OpVal.succ z z z (by omega)) (ξ z z (ε ?_)))))))
  obtain ⟨hh,Xv⟩:=dO hR1 hh
  exact lf ((v41r.rows,v41r.places,v41r.q.next,v41r.q.outs,v41r.q.fin,v41r.q.tail,(JI+1)),(a244_1,c244_2,z244_3,b244_5,a244_6,c244_7,z244_8,a244_10,c244_11,z244_12,a244_14,c244_15,a244_16,c244_17,τ244)) Xv ⟨hh,zf244_4,zf244_9,zf244_13,(xM.trans EF)⟩ (Θ [8,8,8,8,8,8,8,8,8] 9)
 refine TC.exit (S.x (S.x ?_))
 replace hh:=dG hR1 hh
 refine Δ (S.n (ψ (TL.l z z (ω z (nJ z z) (ω z (aS z Nr z) (ω z (bj_ z ji fE z (i:=0) z z z) (θ 7 z z (ν z (storeAll z fE z z z z z z ?_)))))))))
 refine θ 8 z z (ν z (b8_ z VU z z z z z ?_))
 refine ε (TC.front 5 z z (TC.Md jd (λτ254 Ym tq=> ?_)))
 replace nN:=nN.mono Ym
 have hr252b:=tq.big
 refine TC.front 5 z z (TC.Md nN (λτ257 Yl xg=> ?_))
 replace tq:=tq.mono Yl
 have hr255b:=xg.big
 refine TC.front 5 z z (TC.oh jc (λτ260 lW BM=> ?_))
 replace tq:=tq.mono lW
 replace xg:=xg.mono lW
 have hr258b:=BM.rv.big
 refine TC.front 5 z z (TC.oh bF (λτ263 jq J_=> ?_))
 replace tq:=tq.mono jq
 replace xg:=xg.mono jq
 replace BM:=BM.mono jq
 have hr261b:=J_.rv.big
 refine TC.front 1 z z ?_
 obtain ⟨v71,u71,hh⟩:=dM hh
 refine TC.ret (.inl ⟨.inl z,_,Sub.pre 2 z,(Ha_ tq xg BM J_ u71).mono ?_⟩)
 rintro _ _ _ hle264 ⟨rfl,rfl,rfl⟩
 obtain rfl:=so hh
 exact RetOk.mk' (rs:=[.cell 4 32,.cell 5 33]) [] z (.inl z) (RVs.agg ji fE z (i:=0) z z (RVs.one Il z (i:=1) z z RVs.nil)) (List.nil_sublist _) ⟨yB,c212,tY,c218,Zm,YU,a227,c228,z,tq,xg,BM,J_,z⟩
def MQ(v19:Fst×Int)(dK:List (List Arc))(x1:Int)(kN:fO)(iE:Nat):Option ((fO×Nat)⊕(Seq×Int)):=
 aN (decide ((iE:Int)<((v19.1.ends.length:Nat):Int))) (grd (0<=((nth v19.1.ends iE aK).state)/\((nth v19.1.ends iE aK).state)<(kN.length:Int)) (grd (((nth kN (((nth v19.1.ends iE aK).state).toNat) []).length+[(nth v19.1.ends iE aK).out].length) * 16<=140737488355328) (grd (0<=((nth v19.1.ends iE aK).state)/\((nth v19.1.ends iE aK).state)<(kN.length:Int)) (nxt ((kN.set (((nth v19.1.ends iE aK).state).toNat) ((nth kN (((nth v19.1.ends iE aK).state).toNat) [])++[(nth v19.1.ends iE aK).out])),(iE+1)))))) (fin (bnd (En_ (⟨dK,kN,x1,([]:List (List Tip)),(FM.emp:FM T_1 Int),(⟨([]:T_1),([]:bZ),([]:fO),([]:B_1),([]:aC)⟩:Seq)⟩:Maker) v19.1) (λVG=>some (VG.1,VG.2))))
def Qm(v19:Fst×Int)(x1:Int)(dK:List (List Arc))(fV:Nat):Option (((List (List Arc))×Nat)⊕(Seq×Int)):=
 aN (decide ((fV:Int)<((v19.1.arcs.length:Nat):Int))) (grd (0<=((nth v19.1.arcs fV bg).frm)/\((nth v19.1.arcs fV bg).frm)<(dK.length:Int)) (grd (((nth dK (((nth v19.1.arcs fV bg).frm).toNat) []).length+[(nth v19.1.arcs fV bg)].length) * 72<=140737488355328) (grd (0<=((nth v19.1.arcs fV bg).frm)/\((nth v19.1.arcs fV bg).frm)<(dK.length:Int)) (nxt ((dK.set (((nth v19.1.arcs fV bg).frm).toNat) ((nth dK (((nth v19.1.arcs fV bg).frm).toNat) [])++[(nth v19.1.arcs fV bg)])),(fV+1)))))) (fin (bC (λq:fO×Nat=>MQ v19 dK x1 q.1 q.2) ((replicate v19.1.states.toNat ([]:aC)),0)))
def Fe_(v19:Fst×Int)(x1:Int):Option (Seq×Int):=
 bC (λq:(List (List Arc))×Nat=>Qm v19 x1 q.1 q.2) ((replicate v19.1.states.toNat ([]:List Arc)),0)
def Gv_(x0:Fst)(x1:Int):Option (Seq×Int):=
 bnd (ZA x0) (λv5=>aN (decide (v5≠0)) (some ((⟨([]:T_1),([]:bZ),([]:fO),([]:B_1),([]:aC)⟩:Seq),1)) (aN (decide (x1<1)) (some ((⟨([]:T_1),([]:bZ),([]:fO),([]:B_1),([]:aC)⟩:Seq),1)) (aN (decide (1024<x1)) (some ((⟨([]:T_1),([]:bZ),([]:fO),([]:B_1),([]:aC)⟩:Seq),1)) (bnd (Fk_ x0) (λv19=>aN (decide (v19.2≠0)) (some ((⟨([]:T_1),([]:bZ),([]:fO),([]:B_1),([]:aC)⟩:Seq),v19.2)) (grd (0<=v19.1.states/\24 * v19.1.states.toNat<=281474976710656) (grd (0<=v19.1.states/\24 * v19.1.states.toNat<=281474976710656) (Fe_ v19 x1))))))))
def I9_(σ:aj)(r:Seq×Int):Value->aj->List Res->Prop:=λv σ' H'=>
 ∃a1 c1 a2 c2 a3 c3 a4 c4,v= .tuple #[.agg (oI r.1 a1 c1 a2 c2 a3 c3 a4 c4),.int .i64 r.2]/\RZ σ' (aB 1 aG bn) (.slice a1 r.1.next.length c1) r.1.next/\RZ σ' (aB 1 aJ bF) (.slice a2 r.1.outs.length c2) r.1.outs/\dA σ' eq_ a3 c3 r.1.fin/\dA σ' aJ a4 c4 r.1.tail/\H'=[]
theorem It_{σ:aj}{x0:Fst}{x1:Int}(hgl:Dz σ 1 2)(au:RS σ 2 dJ (.slice aI x0.starts.length aH) x0.starts)(aY:RS σ 2 dJ (.slice aA x0.ends.length aX) x0.ends)(aV:RS σ 8 kF (.slice aU x0.arcs.length ay) x0.arcs){r:Seq×Int}(hh:Gv_ x0 x1=some r):
  Con prog 14 #[.agg (oU x0 aI aH aA aX aU ay),.int .i64 x1] σ [] (I9_ σ r):=by
 dsimp only [Gv_]at hh
 have f0_0b:=au.rv.big
 have f0_1b:=aY.rv.big
 have f0_2b:=aV.rv.big
 refine Con.mk (n:=107) Tryz.func14 z z z (λw0=> ?_)
 refine ψ (ν z (boxA z z z z (λbG=> ?_)))
 refine ν z (OpOk.alloc z if_ z z (λd_=> ?_))
 refine ξ z z (ε (ζ (ψ (ω z (kG z IB AL z (i:=1) z z) ?_))))
 obtain ⟨v5,u5,hh⟩:=dM hh
 refine ν z (jF (F8_ (x0:=x0) au aY aV u5) z z Wi z z z ?_)
 refine ω z (OpVal.neq z z z) (TL.j z z (TL.split 15 z (λbW=> ?_) (λbW=> ?_)))
 ·replace hh:=gZ bW hh
  replace bW:=jg bW
  refine π z (π z (ω z (dS z z z) (TL.j z z (π z (π z (ω z (dS z z z) (ε (TC.t z (ψ (ω z (nD z wP if_ z) (ν z (storeAll z fE z z z z z z ?_))))))))))))
  refine ξ z z (ε (TC.rt 1 (S.r ?_)))
  obtain rfl:=so hh
  exact ro [] z (RVs.agg ji fE z (i:=0) z z (RVs.tmp z RVs.nil)) ⟨none,0,none,0,none,0,none,0,z,(RZ.nilF _ (aB 1 aG bn)),(RZ.nilF _ (aB 1 aJ bF)),(RS.nilF _ eq_ jc),(RS.nilF _ aJ bF),z⟩
 replace hh:=gY bW hh
 replace bW:=jo bW
 refine Ψ z (dw (.inl z) z) (Ψ z (OpVal.lss z z z) (ω z (dV z z z) (TL.j z z (TL.split 19 z (λdN=> ?_) (λdN=> ?_)))))
 ·replace hh:=gZ dN hh
  replace dN:=jg dN
  refine π z (π z (ω z (dS z z z) (ε (TC.t z (ψ (ω z (nD z wP if_ z) (ν z (storeAll z fE z z z z z z ?_))))))))
  refine ξ z z (ε (TC.rt 1 (S.r ?_)))
  obtain rfl:=so hh
  exact ro [] z (RVs.agg ji fE z (i:=0) z z (RVs.tmp z RVs.nil)) ⟨none,0,none,0,none,0,none,0,z,(RZ.nilF _ (aB 1 aG bn)),(RZ.nilF _ (aB 1 aJ bF)),(RS.nilF _ eq_ jc),(RS.nilF _ aJ bF),z⟩
 replace hh:=gY dN hh
 replace dN:=jo dN
 refine Ψ z (dw (.inl z) z) (Ψ z (OpVal.gtr z z z) (ω z (dV z z z) (ε (TC.cD z hh (λdP hh=> ?_) (λdP hh=> ?_)))))
 ·refine ψ (ω z (nD z wP if_ z) (ν z (storeAll z fE z z z z z z ?_)))
  refine ξ z z (ε (TC.rt 1 (S.r ?_)))
  obtain rfl:=so hh
  exact ro [] z (RVs.agg ji fE z (i:=0) z z (RVs.tmp z RVs.nil)) ⟨none,0,none,0,none,0,none,0,z,(RZ.nilF _ (aB 1 aG bn)),(RZ.nilF _ (aB 1 aJ bF)),(RS.nilF _ eq_ jc),(RS.nilF _ aJ bF),z⟩
 refine ι (S.n (ψ (ω z (kG z IB AL z (i:=1) z z) ?_)))
 obtain ⟨v19,wo,hh⟩:=dM hh
 refine ν z (OpOk.call (H4_ (x0:=x0) au aY aV wo) z z pf44 z z z z ?_)
 rintro _ τ108 _ ql ⟨a108_1,c108_1,a108_2,c108_2,a108_3,c108_3,rfl,hr108_0,hr108_1,hr108_2,rfl⟩
 replace hgl:=hgl.mono ql
 have hr108_0b:=hr108_0.rv.big
 have hr108_1b:=hr108_1.rv.big
 have hr108_2b:=hr108_2.rv.big
 refine ω z (wC (.inl z) z) (ω z (OpVal.extract z z z) (ω z (OpVal.extract z z z) (θ 1 z z (ν z (storeAll z AL z z z z z z ?_)))))
 refine ξ z z (ε (ζ (ψ (ξ z z (ω z (OpVal.neq z z z) (ε (TC.cD z hh (λl9 hh=> ?_) (λl9 hh=> ?_))))))))
 ·refine ψ (ω z (nD z wP if_ z) (ξ z z (θ 1 z z (ν z (storeAll z fE z z z z z z ?_)))))
  refine ξ z z (ε (TC.rt 1 (S.r ?_)))
  obtain rfl:=so hh
  exact ro [] z (RVs.agg ji fE z (i:=0) z z (RVs.tmp z RVs.nil)) ⟨none,0,none,0,none,0,none,0,z,(RZ.nilF _ (aB 1 aG bn)),(RZ.nilF _ (aB 1 aJ bF)),(RS.nilF _ eq_ jc),(RS.nilF _ aJ bF),z⟩
 refine ι (S.n (ψ (ξ z z (ν z (bv_ (enc:=mg) (encV:=nT) z z z (λb110=> ?_))))))
 refine ω z (nD z pl74 ze74 z) (ν z (boxA z z z z (λqC=> ?_)))
 refine TL.l z z (ε (TC.cutG (α:=(Unit)×((Option Addr)×Nat×(Option Addr)×Nat)) (rgs [(37,12)]) (λg=>[]) (λg=>[κ bG (oU v19.1 a108_1 c108_1 a108_2 c108_2 a108_3 c108_3) 25,κ d_ #[.string (bs ([]:T_1)),bT,bT,bT,bT] 32,κ qC #[.slice g.2.1 ((replicate v19.1.states.toNat ([]:List Arc)).length) g.2.2.1,.slice g.2.2.2.1 ((replicate v19.1.states.toNat ([]:aC)).length) g.2.2.2.2,.int .i64 x1,bT,.map (some b110),.string (bs ([]:T_1)),bT,bT,bT,bT] 74,Res.nest 23 66 8 kF (.slice g.2.1 (replicate v19.1.states.toNat ([]:List Arc)).length g.2.2.1) (replicate v19.1.states.toNat (ou:NP Arc)),Res.nest 30 9 1 aJ (.slice g.2.2.2.1 (replicate v19.1.states.toNat ([]:aC)).length g.2.2.2.2) (replicate v19.1.states.toNat (ou:NP T_1)),Res.mapB mg nT (some b110) (FM.emp:FM T_1 Int)]) (λg=>τ108) (λg=>Fe_ v19 x1=some r/\Zn (replicate v19.1.states.toNat (ou:NP Arc)) (replicate v19.1.states.toNat ([]:List Arc))/\Zn (replicate v19.1.states.toNat (ou:NP T_1)) (replicate v19.1.states.toNat ([]:aC))) ?_ (λg j hg=> ?_)))
 ·skip
  obtain ⟨u40,hh⟩:=aP hh
  obtain ⟨Nj,hh⟩:=aP hh
  refine TC.P6 (Hr:=[Res.mapB mg nT (some b110) (FM.emp:FM T_1 Int),κ bG (oU v19.1 a108_1 c108_1 a108_2 c108_2 a108_3 c108_3) 25,κ d_ #[.string (bs ([]:T_1)),bT,bT,bT,bT] 32]) (λr hr=>qG [1,2,3] z hr) [] (by kernel_rfl) (Ω 0 z (MI (.inl z) z) z (Ω 1 z (MI (.inl z) z) z (Ω 2 z (aS z E5 z) z (TA.b 3 z (aZ z fJ z (i:=1) z z) z (Ω 5 z (aS z E5 z) z (TA.b 6 z (aZ z fJ z (i:=1) z z) z ?_))))))
  refine TA.actN [4,7] (by kernel_rfl) (an rfl rfl (mX (q:=v19.1.states.toNat) (E:=66) (size:=8) (enc:=kF) rfl underlying71 Oa by23 ze23 rfl rfl (vN u40.1) (vN u40.1) (by omega) (by decide) rfl (λa130 c131 RD=>(k2 ?_))) (an rfl rfl (mX (q:=v19.1.states.toNat) (E:=9) (size:=1) (enc:=aJ) rfl lI mM RP Hy rfl rfl (vN Nj.1) (vN Nj.1) (by omega) (by decide) rfl (λFq Fb zf136=>(k2 ?_))) (True.intro)))
  ·skip
   refine Ω 8 z (nJ z z) z (Ω 9 z (aS z sf_ z) z ?_)
   refine TA.actN [7,10] (by kernel_rfl) (an rfl rfl (mX (q:=v19.1.states.toNat) (E:=9) (size:=1) (enc:=aJ) rfl lI mM RP Hy rfl rfl (vN Nj.1) (vN Nj.1) (by omega) (by decide) rfl (λa138 c139 sO=>(k3 ?_))) (an rfl rfl (OpOk.front 1 rfl rfl (gK rfl VT rfl rfl rfl rfl rfl (k2 ?_))) (True.intro)))
   ·skip
    refine TA.front 2 z z (TA.ac 10 z (gK z VT z z z z z (k3 ?_)))
    refine Ω 11 z (nJ z z) z (Ω 12 z (aS z Z5 z) z (TA.ac 13 z (gK z RQ z z z z z (k3 ?_))))
    exact TA.dn (S.n (cf ((),(a130,c131,a138,c139)) ⟨hh,RD,sO⟩ (Θ [3,2,3,3,5,5] 6)))
   skip
   refine TA.ac 7 rfl (mX (q:=v19.1.states.toNat) (E:=9) (size:=1) (enc:=aJ) rfl lI mM RP Hy rfl rfl (vN Nj.1) (vN Nj.1) (by omega) (by decide) rfl (λZu c143 zf144=>(k3 ?_)))
   refine Ω 11 z (nJ z z) z (Ω 12 z (aS z Z5 z) z (TA.front 1 z z (TA.ac 13 z (gK z RQ z z z z z (k3 ?_)))))
   exact TA.dn (S.n (cf ((),(a130,c131,Zu,c143)) ⟨hh,RD,zf144⟩ (Θ [3,2,3,3,5,5] 6)))
  skip
  refine TA.ac 4 rfl (mX (q:=v19.1.states.toNat) (E:=66) (size:=8) (enc:=kF) rfl underlying71 Oa by23 ze23 rfl rfl (vN u40.1) (vN u40.1) (by omega) (by decide) rfl (λa146 Y1 zf148=>(k3 ?_)))
  refine Ω 8 z (nJ z z) z (Ω 9 z (aS z sf_ z) z (TA.front 2 z z (TA.ac 10 z (gK z VT z z z z z (k3 ?_)))))
  refine Ω 11 z (nJ z z) z (Ω 12 z (aS z Z5 z) z (TA.ac 13 z (gK z RQ z z z z z (k3 ?_))))
  exact TA.dn (S.n (cf ((),(a146,Y1,Fq,Fb)) ⟨hh,zf148,zf136⟩ (Θ [3,3,3,3,5,5] 6)))
 skip
 obtain ⟨_,⟨Aw,c116,a119,qL⟩⟩:=g
 obtain ⟨hh,Fz,lN⟩:=hg
 try dsimp only at Fz lN ⊢
 dsimp only [Fe_]at hh
 have zf117b:=Fz.len
 have zf121b:=lN.len
 refine TC.know (nX (q:=3) z Fz) (λ⟨_,hb150⟩=> ?_)
 refine TC.know (nX (q:=4) z lN) (λ⟨_,U4⟩=> ?_)
 refine ζ (ψ (ω z (aS z Tf z) (ω z (aZ z Nb z (i:=0) z z) (ω z (lenC z qF z) (ξ z z (ε (υ (TC.ig (α:=((List (List Arc))×Nat)×((List (NP Arc)))) (rgs [(9,1),(52,23)]) (λg=>[(52,.int .i64 ((g.1.2:Nat):Int))]) (λg=>[κ bG (oU v19.1 a108_1 c108_1 a108_2 c108_2 a108_3 c108_3) 25,κ d_ #[.string (bs ([]:T_1)),bT,bT,bT,bT] 32,κ qC #[.slice Aw ((replicate v19.1.states.toNat ([]:List Arc)).length) c116,.slice a119 ((replicate v19.1.states.toNat ([]:aC)).length) qL,.int .i64 x1,bT,.map (some b110),.string (bs ([]:T_1)),bT,bT,bT,bT] 74,Res.nest 23 66 8 kF (.slice Aw (replicate v19.1.states.toNat ([]:List Arc)).length c116) g.2,Res.nest 30 9 1 aJ (.slice a119 (replicate v19.1.states.toNat ([]:aC)).length qL) (replicate v19.1.states.toNat (ou:NP T_1)),Res.mapB mg nT (some b110) (FM.emp:FM T_1 Int)]) (λg=>τ108) (λg=>bC (λq:(List (List Arc))×Nat=>Qm v19 x1 q.1 q.2) g.1=some r/\g.1.1.length=(replicate v19.1.states.toNat ([]:List Arc)).length/\Zn g.2 g.1.1/\Zn (replicate v19.1.states.toNat (ou:NP T_1)) (replicate v19.1.states.toNat ([]:aC))) (λg=>f_ (λq:(List (List Arc))×Nat=>Qm v19 x1 q.1 q.2) g.1) (((replicate v19.1.states.toNat ([]:List Arc)),0),(replicate v19.1.states.toNat (ou:NP Arc))) (Θ [5,5,5,5,5,5] 6) z (by repeat (first|exact trivial|refine ⟨z,?_⟩)) ⟨hh,z,Fz,lN⟩ (λg1 j1 hg1=> ?_)))))))))
 obtain ⟨⟨dK,fV⟩,z168⟩:=g1
 obtain ⟨hh,Gv,je,kJ⟩:=hg1
 try dsimp only at Gv je kJ ⊢
 obtain ⟨z1,hh,hR1⟩:=gJ hh
 dsimp only [Qm]at hh
 have zf169b:=je.len
 have zf170b:=kJ.len
 refine TC.know (nX (q:=3) z je) (λ⟨_,hb172⟩=> ?_)
 refine TC.know (nX (q:=4) z kJ) (λ⟨_,hb173⟩=> ?_)
 refine ψ (ω z (OpVal.lss z z z) (ε (ζ (TC.cD z hh (λh174 hh=> ?_) (λh174 hh=> ?_)))))
 ·refine ι (S.n (ζ (υ (ψ (ω z (bU z qF nZ z z hr108_2.rv.sl (by omega)) (ω z (Io bg z Jr nZ z hr108_2 (by omega) (by omega)) (ν z (OpOk.alloc z AO z z (λIi=> ?_)))))))))
  refine ν z (storeAll z nZ z z z z z z ?_)
  refine ε ?_
  obtain ⟨u71,hh⟩:=aP hh
  obtain ⟨u75,hh⟩:=aP hh
  obtain ⟨Nc,hh⟩:=aP hh
  refine TC.P6 (Hr:=[κ Ii #[.int .i64 ((nth v19.1.arcs fV bg).frm),.int .i64 ((nth v19.1.arcs fV bg).to),.int .u64 ((((nth v19.1.arcs fV bg).set).a:Nat):Int),.int .u64 ((((nth v19.1.arcs fV bg).set).b:Nat):Int),.int .u64 ((((nth v19.1.arcs fV bg).set).c:Nat):Int),.int .u64 ((((nth v19.1.arcs fV bg).set).d:Nat):Int),.string (bs ((nth v19.1.arcs fV bg).out)),.bool ((nth v19.1.arcs fV bg).copy)] 66,κ bG (oU v19.1 a108_1 c108_1 a108_2 c108_2 a108_3 c108_3) 25,κ d_ #[.string (bs ([]:T_1)),bT,bT,bT,bT] 32,κ qC #[.slice Aw ((replicate v19.1.states.toNat ([]:List Arc)).length) c116,.slice a119 ((replicate v19.1.states.toNat ([]:aC)).length) qL,.int .i64 x1,bT,.map (some b110),.string (bs ([]:T_1)),bT,bT,bT,bT] 74,Res.nest 30 9 1 aJ (.slice a119 (replicate v19.1.states.toNat ([]:aC)).length qL) (replicate v19.1.states.toNat (ou:NP T_1)),Res.mapB mg nT (some b110) (FM.emp:FM T_1 Int)]) (λr hr=>qG [0,1,2,3,5,6] z hr) [] (by kernel_rfl) (Ω 0 z (MI (.inl z) z) z (Ω 1 z (nJ z z) z (Ω 2 z (aS z sf_ z) z (TA.b 3 z (aZ z Zf z (i:=3) z z) z (Ω 4 z (aS z PD z) z (TA.b 5 z (aZ z fJ z (i:=0) z z) z (Ω 6 z (MI (.inl z) z) z (Ω 7 z (nJ z z) z (Ω 8 z (aS z sf_ z) z (TA.b 9 z (aZ z Zf z (i:=3) z z) z (Ω 10 z (aS z PD z) z (TA.b 11 z (aZ z fJ z (i:=0) z z) z (TA.know (nX (q:=4) z je) (λ⟨hs188,hs188b⟩=> ?_))))))))))))))
  refine TA.b 12 z (OpVal.index z underlying71 Oa z z hs188 u71.1 u71.2) z (TA.b 14 z (kG z Jr nZ z (i:=0) z z) z ?_)
  obtain ⟨p189,TI,UH⟩:=Zn.at je (i:=((nth v19.1.arcs fV bg).frm).toNat) (by omega)
  refine TA.actN [13,15] (by kernel_rfl) (an z z (OpVal.ok (Dt z Nb z (q:=4) z TI UH) z z ⟨(λw h=>rX (aj.le.refl _) (λr hr=>qG [0,1,2,3,5,6] z hr) w h),?_⟩) (an z z (OpOk.lit (enc:=kF) [(nth v19.1.arcs fV bg)] z qF nZ AO z z z wB (by decide) (by decide) bg z (by decide) z (by decide) YN (λa190 c191=>⟨(λw h=>rX (aj.le.refl _) (λr hr=>qG [1,2,3,4,6,7] z hr) w h),?_⟩)) (True.intro)))
  ·skip
   refine TA.ac 15 z (OpOk.lit (enc:=kF) [(nth v19.1.arcs fV bg)] z qF nZ AO z z z wB (by decide) (by decide) bg z (by decide) z (by decide) YN (λa193 c194=>⟨(λw h=>rX (aj.le.refl _) (λr hr=>qG [1,2,3,4,6,7] z hr) w h),?_⟩))
   refine TA.front 5 z z (TA.by (λw h=>Reach.takeN TI UH h) (TA.ac 16 z (as_ z z qF nZ P5 AO z z (by decide) z z z (.inr ⟨_,1,z⟩) (by simpa using u75) (by decide) (λoJ c198=>(k3 ?_)))))
   refine TA.know (Nz (q:=1) z je) (λ⟨hs199,hs199b⟩=> ?_)
   refine TA.b 17 z (OpVal.index z underlying71 Oa z z hs199 Nc.1 Nc.2) z (TA.front 1 z z (TA.front 1 z z ?_))
   have hn201:(dK.set (((nth v19.1.arcs fV bg).frm).toNat) ((nth dK (((nth v19.1.arcs fV bg).frm).toNat) [])++[(nth v19.1.arcs fV bg)])).length=(replicate v19.1.states.toNat ([]:List Arc)).length:=(gy ..).trans Gv
   refine TA.ac 18 rfl (NC (l':=((nth dK (((nth v19.1.arcs fV bg).frm).toNat) [])++[(nth v19.1.arcs fV bg)])) rfl Oa rfl rfl rfl rfl rfl (by rw [je.len];omega) je (λdF=>(k2 ?_)))
   refine TA.dn (B.n (S.n (η (ω z (OpVal.succ z z z (by omega)) (ξ z z (ε ?_))))))
   obtain ⟨hh,XF⟩:=dO hR1 hh
   exact lf (((dK.set (((nth v19.1.arcs fV bg).frm).toNat) ((nth dK (((nth v19.1.arcs fV bg).frm).toNat) [])++[(nth v19.1.arcs fV bg)])),(fV+1)),(z168.set (((nth v19.1.arcs fV bg).frm).toNat) (((nth dK (((nth v19.1.arcs fV bg).frm).toNat) [])++[(nth v19.1.arcs fV bg)]),(oJ,c198)))) XF ⟨hh,hn201,dF,kJ⟩ (Θ [7,7,2,7,7,7] 6)
  skip
  obtain ⟨JD,TG,UG⟩:=Zn.at je (i:=((nth v19.1.arcs fV bg).frm).toNat) (by omega)
  refine TA.ac 13 z (OpVal.ok (Dt z Nb z (q:=5) z TG UG) z z ⟨(λw h=>rX (aj.le.refl _) (λr hr=>qG [1,2,3,4,6,7] z hr) w h),?_⟩)
  refine TA.front 5 z z (TA.by (λw h=>Reach.takeN TG UG h) (TA.ac 16 z (as_ z z qF nZ P5 AO z z (by decide) z z z (.inr ⟨_,1,z⟩) (by simpa using u75) (by decide) (λyS c206=>(k3 ?_)))))
  refine TA.know (Nz (q:=1) z je) (λ⟨hs207,hs207b⟩=> ?_)
  refine TA.b 17 z (OpVal.index z underlying71 Oa z z hs207 Nc.1 Nc.2) z (TA.front 1 z z (TA.front 1 z z ?_))
  have hn209:(dK.set (((nth v19.1.arcs fV bg).frm).toNat) ((nth dK (((nth v19.1.arcs fV bg).frm).toNat) [])++[(nth v19.1.arcs fV bg)])).length=(replicate v19.1.states.toNat ([]:List Arc)).length:=(gy ..).trans Gv
  refine TA.ac 18 rfl (NC (l':=((nth dK (((nth v19.1.arcs fV bg).frm).toNat) [])++[(nth v19.1.arcs fV bg)])) rfl Oa rfl rfl rfl rfl rfl (by rw [je.len];omega) je (λoM=>(k2 ?_)))
  refine TA.dn (B.n (S.n (η (ω z (OpVal.succ z z z (by omega)) (ξ z z (ε ?_))))))
  obtain ⟨hh,D9⟩:=dO hR1 hh
  exact lf (((dK.set (((nth v19.1.arcs fV bg).frm).toNat) ((nth dK (((nth v19.1.arcs fV bg).frm).toNat) [])++[(nth v19.1.arcs fV bg)])),(fV+1)),(z168.set (((nth v19.1.arcs fV bg).frm).toNat) (((nth dK (((nth v19.1.arcs fV bg).frm).toNat) [])++[(nth v19.1.arcs fV bg)]),(yS,c206)))) D9 ⟨hh,hn209,oM,kJ⟩ (Θ [7,7,2,7,7,7] 6)
 refine TC.exit (S.x (S.x ?_))
 replace hh:=dG hR1 hh
 refine Δ (S.n (ζ (ψ (ω z (aS z WI z) (ω z (aZ z FH z (i:=0) z z) (ω z (lenC z kX z) (ξ z z (ε (υ (TC.ig (α:=(fO×Nat)×((List (NP T_1)))) (rgs [(11,1),(78,24)]) (λg=>[(78,.int .i64 ((g.1.2:Nat):Int))]) (λg=>[κ bG (oU v19.1 a108_1 c108_1 a108_2 c108_2 a108_3 c108_3) 25,κ d_ #[.string (bs ([]:T_1)),bT,bT,bT,bT] 32,κ qC #[.slice Aw ((replicate v19.1.states.toNat ([]:List Arc)).length) c116,.slice a119 ((replicate v19.1.states.toNat ([]:aC)).length) qL,.int .i64 x1,bT,.map (some b110),.string (bs ([]:T_1)),bT,bT,bT,bT] 74,Res.nest 23 66 8 kF (.slice Aw (replicate v19.1.states.toNat ([]:List Arc)).length c116) z168,Res.nest 30 9 1 aJ (.slice a119 (replicate v19.1.states.toNat ([]:aC)).length qL) g.2,Res.mapB mg nT (some b110) (FM.emp:FM T_1 Int)]) (λg=>τ108) (λg=>bC (λq:fO×Nat=>MQ v19 dK x1 q.1 q.2) g.1=some r/\dK.length=(replicate v19.1.states.toNat ([]:List Arc)).length/\Zn z168 dK/\g.1.1.length=(replicate v19.1.states.toNat ([]:aC)).length/\Zn g.2 g.1.1) (λg=>f_ (λq:fO×Nat=>MQ v19 dK x1 q.1 q.2) g.1) (((replicate v19.1.states.toNat ([]:aC)),0),(replicate v19.1.states.toNat (ou:NP T_1))) (Θ [5,5,5,5,5,5] 6) z (by repeat (first|exact trivial|refine ⟨z,?_⟩)) ⟨hh,Gv,je,z,kJ⟩ (λg2 j2 hg2=> ?_)))))))))))
 obtain ⟨⟨kN,iE⟩,z232⟩:=g2
 obtain ⟨hh,Gq,uZ,oO,jB⟩:=hg2
 try dsimp only at Gq uZ oO jB ⊢
 obtain ⟨z1,hh,hR1⟩:=gJ hh
 dsimp only [MQ]at hh
 have zf229b:=uZ.len
 have zf233b:=jB.len
 refine TC.know (nX (q:=3) z uZ) (λ⟨_,UW⟩=> ?_)
 refine TC.know (nX (q:=4) z jB) (λ⟨_,GZ⟩=> ?_)
 refine ψ (ω z (OpVal.lss z z z) (ε (ζ (TC.cD z hh (λLJ hh=> ?_) (λLJ hh=> ?_)))))
 ·refine ι (S.n (ζ (υ (ψ (ω z (bU z kX jP z z hr108_1.rv.sl (by omega)) (ω z (Io aK z DU jP z hr108_1 (by omega) (by omega)) (ν z (OpOk.alloc z vP z z (λb238=> ?_)))))))))
  refine ν z (storeAll z jP z z z z z z ?_)
  refine ε ?_
  obtain ⟨VO,hh⟩:=aP hh
  obtain ⟨Om,hh⟩:=aP hh
  obtain ⟨Hu,hh⟩:=aP hh
  refine TC.P6 (Hr:=[κ b238 #[.int .i64 ((nth v19.1.ends iE aK).state),.string (bs ((nth v19.1.ends iE aK).out))] 76,κ bG (oU v19.1 a108_1 c108_1 a108_2 c108_2 a108_3 c108_3) 25,κ d_ #[.string (bs ([]:T_1)),bT,bT,bT,bT] 32,κ qC #[.slice Aw ((replicate v19.1.states.toNat ([]:List Arc)).length) c116,.slice a119 ((replicate v19.1.states.toNat ([]:aC)).length) qL,.int .i64 x1,bT,.map (some b110),.string (bs ([]:T_1)),bT,bT,bT,bT] 74,Res.nest 23 66 8 kF (.slice Aw (replicate v19.1.states.toNat ([]:List Arc)).length c116) z168,Res.mapB mg nT (some b110) (FM.emp:FM T_1 Int)]) (λr hr=>qG [0,1,2,3,4,6] z hr) [] (by kernel_rfl) (Ω 0 z (MI (.inl z) z) z (Ω 1 z (nJ z z) z (Ω 2 z (aS z Z5 z) z (TA.b 3 z (aZ z pI z (i:=3) z z) z (Ω 4 z (aS z EZ z) z (TA.b 5 z (aZ z fJ z (i:=0) z z) z (Ω 6 z (MI (.inl z) z) z (Ω 7 z (nJ z z) z (Ω 8 z (aS z Z5 z) z (TA.b 9 z (aZ z pI z (i:=3) z z) z (Ω 10 z (aS z EZ z) z (TA.b 11 z (aZ z fJ z (i:=0) z z) z (TA.know (nX (q:=5) z jB) (λ⟨hs251,hs251b⟩=> ?_))))))))))))))
  refine TA.b 12 z (OpVal.index z lI mM z z hs251 VO.1 VO.2) z (Ω 14 z (aS z AQ z) z (TA.b 15 z (aZ z iG z (i:=0) z z) z ?_))
  obtain ⟨p252,TF,UF⟩:=Zn.at jB (i:=((nth v19.1.ends iE aK).state).toNat) (by omega)
  refine TA.actN [13,16] (by kernel_rfl) (an z z (OpVal.ok (Dt z lJ z (q:=5) z TF UF) z z ⟨(λw h=>rX (aj.le.refl _) (λr hr=>qG [0,1,2,3,4,6] z hr) w h),?_⟩) (an z z (OpOk.lit (enc:=aJ) [(nth v19.1.ends iE aK).out] z fK fU sQ z z z bF (by decide) (by decide) ([]:T_1) z (by decide) z (by decide) rE (λa253 c254=>⟨(λw h=>rX (aj.le.refl _) (λr hr=>qG [1,2,3,4,5,7] z hr) w h),?_⟩)) (True.intro)))
  ·skip
   refine TA.ac 16 z (OpOk.lit (enc:=aJ) [(nth v19.1.ends iE aK).out] z fK fU sQ z z z bF (by decide) (by decide) ([]:T_1) z (by decide) z (by decide) rE (λa256 c257=>⟨(λw h=>rX (aj.le.refl _) (λr hr=>qG [1,2,3,4,5,7] z hr) w h),?_⟩))
   refine TA.front 6 z z (TA.by (λw h=>Reach.takeN TF UF h) (TA.ac 17 z (as_ z z fK fU zF sQ z z (by decide) z z z (.inr ⟨_,1,z⟩) (by simpa using Om) (by decide) (λa260 c261=>(k3 ?_)))))
   refine TA.know (Nz (q:=1) z jB) (λ⟨hs262,hs262b⟩=> ?_)
   refine TA.b 18 z (OpVal.index z lI mM z z hs262 Hu.1 Hu.2) z (TA.front 1 z z (TA.front 1 z z ?_))
   have hn264:(kN.set (((nth v19.1.ends iE aK).state).toNat) ((nth kN (((nth v19.1.ends iE aK).state).toNat) [])++[(nth v19.1.ends iE aK).out])).length=(replicate v19.1.states.toNat ([]:aC)).length:=(gy ..).trans oO
   refine TA.ac 19 rfl (NC (l':=((nth kN (((nth v19.1.ends iE aK).state).toNat) [])++[(nth v19.1.ends iE aK).out])) rfl mM rfl rfl rfl rfl rfl (by rw [jB.len];omega) jB (λIV=>(k2 ?_)))
   refine TA.dn (B.n (S.n (η (ω z (OpVal.succ z z z (by omega)) (ξ z z (ε ?_))))))
   obtain ⟨hh,Xu⟩:=dO hR1 hh
   exact lf (((kN.set (((nth v19.1.ends iE aK).state).toNat) ((nth kN (((nth v19.1.ends iE aK).state).toNat) [])++[(nth v19.1.ends iE aK).out])),(iE+1)),(z232.set (((nth v19.1.ends iE aK).state).toNat) (((nth kN (((nth v19.1.ends iE aK).state).toNat) [])++[(nth v19.1.ends iE aK).out]),(a260,c261)))) Xu ⟨hh,Gq,uZ,hn264,IV⟩ (Θ [7,1,7,7,7,7] 6)
  skip
  obtain ⟨p266,TD,UE⟩:=Zn.at jB (i:=((nth v19.1.ends iE aK).state).toNat) (by omega)
  refine TA.ac 13 z (OpVal.ok (Dt z lJ z (q:=6) z TD UE) z z ⟨(λw h=>rX (aj.le.refl _) (λr hr=>qG [1,2,3,4,5,7] z hr) w h),?_⟩)
  refine TA.front 6 z z (TA.by (λw h=>Reach.takeN TD UE h) (TA.ac 17 z (as_ z z fK fU zF sQ z z (by decide) z z z (.inr ⟨_,1,z⟩) (by simpa using Om) (by decide) (λa268 c269=>(k3 ?_)))))
  refine TA.know (Nz (q:=1) z jB) (λ⟨hs270,hs270b⟩=> ?_)
  refine TA.b 18 z (OpVal.index z lI mM z z hs270 Hu.1 Hu.2) z (TA.front 1 z z (TA.front 1 z z ?_))
  have hn272:(kN.set (((nth v19.1.ends iE aK).state).toNat) ((nth kN (((nth v19.1.ends iE aK).state).toNat) [])++[(nth v19.1.ends iE aK).out])).length=(replicate v19.1.states.toNat ([]:aC)).length:=(gy ..).trans oO
  refine TA.ac 19 rfl (NC (l':=((nth kN (((nth v19.1.ends iE aK).state).toNat) [])++[(nth v19.1.ends iE aK).out])) rfl mM rfl rfl rfl rfl rfl (by rw [jB.len];omega) jB (λIU=>(k2 ?_)))
  refine TA.dn (B.n (S.n (η (ω z (OpVal.succ z z z (by omega)) (ξ z z (ε ?_))))))
  obtain ⟨hh,Xp⟩:=dO hR1 hh
  exact lf (((kN.set (((nth v19.1.ends iE aK).state).toNat) ((nth kN (((nth v19.1.ends iE aK).state).toNat) [])++[(nth v19.1.ends iE aK).out])),(iE+1)),(z232.set (((nth v19.1.ends iE aK).state).toNat) (((nth kN (((nth v19.1.ends iE aK).state).toNat) [])++[(nth v19.1.ends iE aK).out]),(a268,c269)))) Xp ⟨hh,Gq,uZ,hn272,IU⟩ (Θ [7,1,7,7,7,7] 6)
 refine TC.exit (S.x (S.x ?_))
 replace hh:=dG hR1 hh
 refine Δ (S.n (ψ (TL.l z z (ω z (kG z IB AL z (i:=0) z z) ?_))))
 rw [<-Gq]
 refine θ 3 z z (TL.ci_ (λw h=>Reach.bg_ wB uZ h) (λτ276 z_ FY=> ?_))
 replace hgl:=hgl.mono z_
 replace hr108_0:=hr108_0.mono z_
 replace hr108_1:=hr108_1.mono z_
 replace hr108_2:=hr108_2.mono z_
 have hr274b:=FY.big
 rw [<-oO]
 refine θ 3 z z (TL.ci_ (λw h=>Reach.bg_ bF jB h) (λτ279 xI Ub=> ?_))
 replace hgl:=hgl.mono xI
 replace hr108_0:=hr108_0.mono xI
 replace hr108_1:=hr108_1.mono xI
 replace hr108_2:=hr108_2.mono xI
 replace FY:=FY.mono xI
 have hr277b:=Ub.big
 refine TL.nilS 22 1 (aB 2 dJ g_).en ?_
 have zf280:=ZOk.nil τ279 (aB 2 dJ g_)
 refine TL.nilS 86 1 (aB 1 aG bn).en ?_
 have AZ:=ZOk.nil τ279 (aB 1 aG bn)
 refine TL.nilS 30 1 (aB 1 aJ bF).en ?_
 have zf284:=ZOk.nil τ279 (aB 1 aJ bF)
 refine TL.nilS 4 1 eq_ (TL.nilS 9 1 aJ (θ 1 z z (θ 2 z z (θ 3 z z (θ 8 z z (θ 5 z z (θ 8 z z ?_)))))))
 obtain ⟨VG,u113,hh⟩:=dM hh
 refine ν z (OpOk.call (Hq_ (x0:=(⟨dK,kN,x1,([]:List (List Tip)),(FM.emp:FM T_1 Int),(⟨([]:T_1),([]:bZ),([]:fO),([]:B_1),([]:aC)⟩:Seq)⟩:Maker)) hgl FY Ub zf280 AZ zf284 hr108_0 hr108_1 hr108_2 u113) z z pf45 z z z z ?_)
 rintro _ τ288 _ hle288 ⟨a288_1,c288_2,a288_3,c288_4,a288_5,c288_6,a288_7,c288_8,rfl,hr288_9,hr288_10,hr288_11,hr288_12,rfl⟩
 have hr288_9b:=hr288_9.big
 have hr288_10b:=hr288_10.big
 have hr288_11b:=hr288_11.rv.big
 have hr288_12b:=hr288_12.rv.big
 refine ω z (OpVal.extract z z z) (ω z (OpVal.extract z z z) (θ 1 z z (ν z (storeAll z fE z z z z z z ?_))))
 refine ξ z z (ε (TC.rt 1 ?_))
 obtain rfl:=so hh
 exact ro [] z (RVs.agg ji fE z (i:=0) z z (RVs.tmp z RVs.nil)) ⟨a288_1,c288_2,a288_3,c288_4,a288_5,c288_6,a288_7,c288_8,z,hr288_9,hr288_10,hr288_11,hr288_12,z⟩
def Iy(x0:aC)(x1:aC)(cZ:Nat):Option ((Nat)⊕(Bool)):=
 aN (decide ((cZ:Int)<((x0.length:Nat):Int))) (grd (cZ<x1.length) (aN (decide ((nth x0 cZ [])≠(nth x1 cZ []))) (fin (some false)) (nxt (cZ+1)))) (fin (some true))
def Rf(x0:aC)(x1:aC):Option (Bool):=
 aN (decide (((x0.length:Nat):Int)≠((x1.length:Nat):Int))) (some false) (bC (λq:Nat=>Iy x0 x1 q) 0)
theorem D4_{σ:aj}{x0:aC}{x1:aC}(au:dA σ aJ aI aH x0)(bP:dA σ aJ eF dZ x1){r:Bool}(hh:Rf x0 x1=some r):
  Con prog 27 #[.slice aI x0.length aH,.slice eF x1.length dZ] σ [] (jQ (.bool r) σ):=by
 dsimp only [Rf]at hh
 have f0_0b:=au.rv.big
 have f1_0b:=bP.rv.big
 refine Con.mk (n:=26) Tryz.func27 z z z (λw0=> ?_)
 refine ψ (TL.j z z (ε (ζ (ψ (Φ z z (ω z (lenC z fK z) (Φ z z (ω z (lenC z fK z) (ω z (OpVal.neq z z z) (ε (TC.cD z hh (λfC hh=> ?_) (λfC hh=> ?_))))))))))))
 ·refine ψ (TL.j z z (ε (TC.ret (S.r ?_))))
  obtain rfl:=so hh
  exact rq [4] ⟨z,z,z⟩
 refine ι (S.n (ζ (ψ (ξ z z (ε (υ (TC.ig (α:=(Nat)×(Unit)) (rgs [(4,2),(11,15)]) (λg=>[(5,.int .i64 ((g.1:Nat):Int))]) (λg=>[]) (λg=>σ) (λg=>bC (λq:Nat=>Iy x0 x1 q) g.1=some r) (λg=>f_ (λq:Nat=>Iy x0 x1 q) g.1) (0,()) (Sub.pre 0 z) z (by repeat (first|exact trivial|refine ⟨z,?_⟩)) hh (λg1 j1 hg1=> ?_))))))))
 obtain ⟨cZ,_⟩:=g1
 have hh:=hg1;clear hg1
 try dsimp only
 obtain ⟨z1,hh,hR1⟩:=gJ hh
 dsimp only [Iy]at hh
 refine ζ (ψ (ξ z z (Φ z z (ω z (lenC z fK z) (ω z (OpVal.lss z z z) (ε (TC.cD z hh (λbW hh=> ?_) (λbW hh=> ?_))))))))
 ·refine ι (S.n (ζ (υ (ζ ?_))))
  obtain ⟨wo,hh⟩:=aP hh
  refine TC.draw [] (by kernel_rfl) (Ω 0 z (gu (.inl z) z) z (Ω 1 z (dw (.inl z) z) z (TA.b 2 z (bU z fK fU z z au.rv.sl (by omega)) z (TA.b 3 z (fF ([]:T_1) z iG z au (by omega) z) z (Ω 4 z (gu (.inl z) z) z (Ω 5 z (dw (.inl z) z) z (TA.b 6 z (bU z fK fU z z bP.rv.sl (by omega)) z (TA.b 7 z (fF ([]:T_1) z iG z bP (by omega) z) z (Ω 8 z (Ih z z z) z (TA.dn (S.n (TC.cD z hh (λdN hh=> ?_) (λdN hh=> ?_)))))))))))))
  ·refine ψ (TL.j z z (ε (TC.ret (B.r (S.r (S.r ?_))))))
   replace hh:=dG hR1 hh
   refine B.r (S.r ?_)
   obtain rfl:=so hh
   exact rq [4] ⟨z,z,z⟩
  refine ι (B.n (S.n (η (ξ z z (ω z (OpVal.succ z z z (by omega)) (ξ z z (ε ?_)))))))
  obtain ⟨hh,jZ⟩:=dO hR1 hh
  exact lf ((cZ+1),()) jZ hh (Sub.pre 0 z)
 refine TC.exit (S.x (S.x ?_))
 replace hh:=dG hR1 hh
 refine Δ (S.n (ψ (TL.j z z (ε (TC.ret ?_)))))
 obtain rfl:=so hh
 exact rq [4] ⟨z,z,z⟩
def ZL(x0:ak)(x1:ak)(cZ:Nat):Option ((Nat)⊕(Bool)):=
 aN (decide ((cZ:Int)<((x0.length:Nat):Int))) (grd (cZ<x1.length) (aN (decide ((nth x0 cZ 0)≠(nth x1 cZ 0))) (fin (some false)) (nxt (cZ+1)))) (fin (some true))
def ZQ(x0:ak)(x1:ak):Option (Bool):=
 aN (decide (((x0.length:Nat):Int)≠((x1.length:Nat):Int))) (some false) (bC (λq:Nat=>ZL x0 x1 q) 0)
theorem Gy_{σ:aj}{x0:ak}{x1:ak}(au:dA σ aG aI aH x0)(bP:dA σ aG eF dZ x1){r:Bool}(hh:ZQ x0 x1=some r):
  Con prog 52 #[.slice aI x0.length aH,.slice eF x1.length dZ] σ [] (jQ (.bool r) σ):=by
 dsimp only [ZQ]at hh
 have f0_0b:=au.rv.big
 have f1_0b:=bP.rv.big
 refine Con.mk (n:=26) Tryz.func52 z z z (λw0=> ?_)
 refine ψ (TL.j z z (ε (ζ (ψ (Φ z z (ω z (lenC z b_ z) (Φ z z (ω z (lenC z b_ z) (ω z (OpVal.neq z z z) (ε (TC.cD z hh (λfC hh=> ?_) (λfC hh=> ?_))))))))))))
 ·refine ψ (TL.j z z (ε (TC.ret (S.r ?_))))
  obtain rfl:=so hh
  exact rq [4] ⟨z,z,z⟩
 refine ι (S.n (ζ (ψ (ξ z z (ε (υ (TC.ig (α:=(Nat)×(Unit)) (rgs [(4,2),(11,15)]) (λg=>[(5,.int .i64 ((g.1:Nat):Int))]) (λg=>[]) (λg=>σ) (λg=>bC (λq:Nat=>ZL x0 x1 q) g.1=some r) (λg=>f_ (λq:Nat=>ZL x0 x1 q) g.1) (0,()) (Sub.pre 0 z) z (by repeat (first|exact trivial|refine ⟨z,?_⟩)) hh (λg1 j1 hg1=> ?_))))))))
 obtain ⟨cZ,_⟩:=g1
 have hh:=hg1;clear hg1
 try dsimp only
 obtain ⟨z1,hh,hR1⟩:=gJ hh
 dsimp only [ZL]at hh
 refine ζ (ψ (ξ z z (Φ z z (ω z (lenC z b_ z) (ω z (OpVal.lss z z z) (ε (TC.cD z hh (λbW hh=> ?_) (λbW hh=> ?_))))))))
 ·refine ι (S.n (ζ (υ (ζ ?_))))
  obtain ⟨wo,hh⟩:=aP hh
  refine TC.draw [] (by kernel_rfl) (Ω 0 z (gu (.inl z) z) z (Ω 1 z (dw (.inl z) z) z (TA.b 2 z (bU z b_ dB z z au.rv.sl (by omega)) z (TA.b 3 z (fF (0:Int) z fJ z au (by omega) z) z (Ω 4 z (gu (.inl z) z) z (Ω 5 z (dw (.inl z) z) z (TA.b 6 z (bU z b_ dB z z bP.rv.sl (by omega)) z (TA.b 7 z (fF (0:Int) z fJ z bP (by omega) z) z (Ω 8 z (OpVal.neq z z z) z (TA.dn (S.n (TC.cD z hh (λdN hh=> ?_) (λdN hh=> ?_)))))))))))))
  ·refine ψ (TL.j z z (ε (TC.ret (B.r (S.r (S.r ?_))))))
   replace hh:=dG hR1 hh
   refine B.r (S.r ?_)
   obtain rfl:=so hh
   exact rq [4] ⟨z,z,z⟩
  refine ι (B.n (S.n (η (ξ z z (ω z (OpVal.succ z z z (by omega)) (ξ z z (ε ?_)))))))
  obtain ⟨hh,jZ⟩:=dO hR1 hh
  exact lf ((cZ+1),()) jZ hh (Sub.pre 0 z)
 refine TC.exit (S.x (S.x ?_))
 replace hh:=dG hR1 hh
 refine Δ (S.n (ψ (TL.j z z (ε (TC.ret ?_)))))
 obtain rfl:=so hh
 exact rq [4] ⟨z,z,z⟩
end Go.Proofs.YtchebnpdnfhenaaGreatDoor
end

noncomputable section
namespace Go.E
open Go
abbrev Gh:=Nat->Option Addr×Nat
structure PO where
  dst:Nat
  use:List Nat
  val:List (Option Addr×Nat)->Value
  res:List (Option Addr×Nat)->List Res
  eat:List Nat
def PO.no:PO:=⟨0,[],λ_=>undef,λ_=>[],[]⟩
def po(D:List PO)(k:Nat):PO:=D.getD k PO.no
def pv(D:List PO)(k:Nat)(γ:Gh):Value:=(po D k).val ((po D k).use.map γ)
def pr(D:List PO)(k:Nat)(γ:Gh):List Res:=(po D k).res ((po D k).use.map γ)
def eaten(D:List PO)(L:Array Bool)(k:Nat):Bool:=(List.range D.length).any λi=>L.getD i false && (po D i).eat.contains k
def pick(p:Nat->Bool)(f:Nat->List Res)(n:Nat):List Res:=(List.range n).flatMap λk=>if p k=true then f k else []
def pR(D:List PO)(L:Array Bool)(γ:Gh):List Res:=pick (λk=>L.getD k false && !eaten D L k) (λk=>pr D k γ) D.length
section
variable {X:Ctx} {ops:Array Oper} {Q:QP} {e0:Env} {σ:aj} {H0:List Res} {late:List Nat} {f:Nat} {D:List PO}
structure PJ (ops:Array Oper) (e0:Env) (H0:List Res) (D:List PO) (L:Array Bool) (γ:Gh) (e:Env) (H:List Res):Prop where
  size:L.size=ops.size
  on: ∀k,k<D.length->L.getD k false=true->e (po D k).dst=pv D k γ
  off: ∀t,(∀k,k<D.length->L.getD k false=true->(po D k).dst≠t)->e t=e0 t
  rest: ∀j,D.length<=j->L.getD j false=false
  heap:H.Perm (H0++pR D L γ)
structure ChkI (ops:Array Oper) (D:List PO) (i:Nat):Prop where
  deps: ∃o,ops[i]? =some o/\ ∀e∈o.after,Region.binds .any e=true->e.on<i
  use: ∀j∈(po D i).use,j=i\/after? ops ops.size i j=true
  eat: ∀j∈(po D i).eat,j<i/\after? ops ops.size i j=true
  dst: ∀k,k<D.length->k≠i->(po D k).dst≠(po D i).dst
  sep: ∀k,k<D.length->k≠i-> ∀j∈(po D i).eat,(po D k).eat.contains j=false
  ord:(List.range D.length).filter (λk=>(po D i).eat.contains k)=(po D i).eat
end
end Go.E
end

noncomputable section
namespace Go.Proofs.YtchebnpdnfhenaaGreatDoor
open Go Go.E Go.E.OpVal Go.E.OpOk Go.Proofs.Tryz
open List (replicate)
theorem pf112:plainF Tryz.prog 112=true:=by kernel_rfl
def B4_(x0:T_1)(x1:T_1):Option (Bool):=
 grd (x0.length<=281474976710656) (grd (x1.length<=281474976710656) (aN (decide (((x0.length:Nat):Int)<=((x1.length:Nat):Int))) (grd (0<=x0.length/\x0.length<=x1.length) (some (decide ((x1.take x0.length)=x0)))) (some false)))
theorem Gk_{σ:aj}{x0:T_1}{x1:T_1}{r:Bool}(hh:B4_ x0 x1=some r):
  Con prog 112 #[.string (bs x0),.string (bs x1)] σ [] (jQ (.bool r) σ):=by
 dsimp only [B4_]at hh
 refine Con.mk (n:=18) Tryz.func112 z z z (λw0=> ?_)
 have x0b:=H7 hh
 replace hh:=Hz hh
 have x1b:=H7 hh
 replace hh:=Hz hh
 refine ψ (TL.j z z (ε (ψ (ω z (eu (.inl z) z) (ω z (rY z kK z) (ω z (eu (.inl z) z) (ω z (rY z kK z) (ω z (OpVal.leq z z z) (TL.j z z (TL.split 10 z (λfC=> ?_) (λfC=> ?_)))))))))))
 ·replace hh:=gZ fC hh
  replace fC:=jg fC
  refine Ψ z (eu (.inl z) z) (Ψ z (eu (.inl z) z) (Ψ z (rY z kK z) ?_))
  obtain ⟨u11,hh⟩:=aP hh
  refine Ψ z (bo_ (l:=x1) (j:=x0.length) z kK z z (by omega) (by omega)) (Ψ z (eu (.inl z) z) (Ψ z (cw_ z z z) (ω z (dS z z z) (TL.j z z (ε (TC.ret ?_))))))
  obtain rfl:=so hh
  exact rq [4] ⟨z,z,z⟩
 replace hh:=gY fC hh
 replace fC:=jo fC
 refine π z (π z (π z (π z (π z (π z (ω z (dV z z z) (TL.j z z (ε (TC.ret ?_)))))))))
 obtain rfl:=so hh
 exact rq [4] ⟨z,z,z⟩
def Cv_(zW:Nat)(VP:Bool):Option ((Bool×Nat)⊕((Int)⊕(T_1))):=
 nxt (VP,(zW+1))
def QV(x0:aC)(ni:Int)(VQ:Bool)(zW:Nat):Option ((Bool×Nat)⊕((Int)⊕(T_1))):=
 aN (decide ((zW:Int)<((x0.length:Nat):Int))) (aN VQ (grd (0<x0.length) (grd (0<=ni/\0<=ni.toNat/\ni.toNat<=(nth x0 0 []).length) (bnd (B4_ ((nth x0 0 []).take ni.toNat) (nth x0 zW [])) (λv30=>Cv_ zW v30)))) (Cv_ zW false)) (fin (aN VQ (grd (0<x0.length) (grd (0<=ni/\0<=ni.toNat/\ni.toNat<=(nth x0 0 []).length) (fin (some ((nth x0 0 []).take ni.toNat))))) (nxt (IntKind.i64.wrap (ni - 1)))))
def QU(x0:aC)(ni:Int):Option ((Int)⊕(T_1)):=
 aN (decide (0<ni)) (bC (λq:Bool×Nat=>QV x0 ni q.1 q.2) (true,0)) (fin (some ([]:T_1)))
def Dp_(x0:aC):Option (T_1):=
 aN (decide (((x0.length:Nat):Int)=0)) (some ([]:T_1)) (grd (0<x0.length) (bC (λq:Int=>QU x0 q) (((nth x0 0 []).length:Nat):Int)))
theorem G8_{σ:aj}{x0:aC}(au:dA σ aJ aI aH x0){r:T_1}(hh:Dp_ x0=some r):
  Con prog 71 #[.slice aI x0.length aH] σ [] (jQ (.string (bs r)) σ):=by
 dsimp only [Dp_]at hh
 have f0_0b:=au.rv.big
 refine Con.mk (n:=42) Tryz.func71 z z z (λw0=> ?_)
 refine ψ (ω z (eu (.inr z) z) (ε (ζ (ψ (Φ z z (ω z (lenC z fK z) (ω z (OpVal.eql z z z) (ε (TC.cD z hh (λfC hh=> ?_) (λfC hh=> ?_))))))))))
 ·refine ψ (ω z (eu (.inr z) z) (ε (TC.ret (S.r ?_))))
  obtain rfl:=so hh
  exact rq [2] ⟨z,z,z⟩
 refine ι (S.n (ζ (ψ (Φ z z ?_))))
 obtain ⟨u7,hh⟩:=aP hh
 refine ω z (bU (i:=0) z fK fU z z au.rv.sl (by omega)) (ω z (fF ([]:T_1) z iG z au (by omega) z) (ω z (rY z kK z) (ξ z z (ε (υ (TC.ig (α:=(Int)×(Unit)) (rgs [(2,4),(13,29)]) (λg=>[(3,.int .i64 g.1)]) (λg=>[]) (λg=>σ) (λg=>bC (λq:Int=>QU x0 q) g.1=some r) (λg=>f_ (λq:Int=>QU x0 q) g.1) ((((nth x0 0 []).length:Nat):Int),()) (Sub.pre 0 z) z (by repeat (first|exact trivial|refine ⟨z,?_⟩)) hh (λg1 j1 hg1=> ?_)))))))
 obtain ⟨ni,_⟩:=g1
 have hh:=hg1;clear hg1
 try dsimp only
 obtain ⟨z1,hh,hR1⟩:=gJ hh
 dsimp only [QU]at hh
 refine ζ (ψ (ξ z z (ω z (OpVal.gtr z z z) (ε (TC.cD z hh (λbW hh=> ?_) (λbW hh=> ?_))))))
 ·refine ι (S.n (ζ (υ (ψ (TL.j z z (ε (ζ (ψ (ξ z z (ε (υ (TC.ig (α:=(Bool×Nat)×(Unit)) (rgs [(4,2),(17,19)]) (λg=>[(4,.bool g.1.1),(5,.int .i64 ((g.1.2:Nat):Int))]) (λg=>[]) (λg=>σ) (λg=>bC (λq:Bool×Nat=>QV x0 ni q.1 q.2) g.1=some z1) (λg=>f_ (λq:Bool×Nat=>QV x0 ni q.1 q.2) g.1) ((true,0),()) (Sub.pre 0 z) z (by repeat (first|exact trivial|refine ⟨z,?_⟩)) hh (λg2 j2 hg2=> ?_)))))))))))))
  obtain ⟨⟨VQ,zW⟩,_⟩:=g2
  have hh:=hg2;clear hg2
  try dsimp only
  obtain ⟨z2,hh,hR2⟩:=gJ hh
  dsimp only [QV]at hh
  refine ζ (ψ (ξ z z (Φ z z (ω z (lenC z fK z) (ω z (OpVal.lss z z z) (ε (TC.cD z hh (λh112 hh=> ?_) (λh112 hh=> ?_))))))))
  ·refine ι (S.n (TC.cutG (α:=(Bool)×(Unit)) (rgs [(4,1),(23,13)]) (λg=>[(4,.bool g.1)]) (λg=>[]) (λg=>σ) (λg=>Cv_ zW g.1=some z2) ?_ (λg j hg=> ?_)))
   ·skip
    refine υ (TC.draw [] (by kernel_rfl) (Ω 0 z (moveB (.inl z) z) z (Ω 1 z (moveB (.inl z) z) z (TA.split 24 z (λjM=> ?_) (λjM=> ?_)))))
    ·replace hh:=gZ jM hh
     refine TA.on 2 z z z z (gu (.inl z) z) z ?_
     obtain ⟨u22,hh⟩:=aP hh
     refine TA.on 3 z z z z (bU (i:=0) z fK fU z z au.rv.sl (by omega)) z (TA.on 4 z z z z (fF ([]:T_1) z iG z au (by omega) z) z (TA.on 5 z z z z (dw (.inl z) z) z ?_))
     obtain ⟨u25,hh⟩:=aP hh
     refine TA.on 6 rfl rfl rfl rfl (bo_ (l:=(nth x0 0 [])) (j:=ni.toNat) rfl kK rfl (by show Value.int _ _=_;rw [Int.toNat_of_nonneg (by omega)]) (by omega) (by omega)) rfl (TA.on 7 z z z z (gu (.inl z) z) z (TA.on 8 z z z z (dw (.inl z) z) z (TA.on 9 z z z z (bU z fK fU z z au.rv.sl (by omega)) z (TA.on 10 z z z z (fF ([]:T_1) z iG z au (by omega) z) z ?_))))
     obtain ⟨v30,u30,hh⟩:=dM hh
     refine TA.dv_ 11 (by kernel_rfl) z z z z z z (jF (Gk_ u30) z z pf112 z z z (k0 ?_))
     exact Ω 12 z (dS z z z) z (Ω 13 z (moveB (.inr z) z) z (TA.dn (B.n (S.n (cf (v30,()) hh (Sub.pre 0 z))))))
    replace hh:=gY jM hh
    exact TA.off 2 z z z z z z (TA.off 3 z z z z z z (TA.off 4 z z z z z z (TA.off 5 z z z z z z (TA.off 6 z z z z z z (TA.off 7 z z z z z z (TA.off 8 z z z z z z (TA.off 9 z z z z z z (TA.off 10 z z z z z z (TA.off 11 z z z z z z (Ω 12 z (dV z z z) z (Ω 13 z (moveB (.inr z) z) z (TA.dn (B.n (S.n (cf (false,()) hh (Sub.pre 0 z))))))))))))))))
   skip
   obtain ⟨VP,_⟩:=g
   have hh:=hg;clear hg
   try dsimp only
   dsimp only [Cv_]at hh
   refine η (ξ z z (ω z (OpVal.succ z z z (by omega)) (ξ z z (ε ?_))))
   obtain ⟨hh,Eo⟩:=dO hR2 hh
   exact lf ((VP,(zW+1)),()) Eo hh (Sub.pre 0 z)
  refine TC.exit (S.x (S.x ?_))
  replace hh:=dG hR2 hh
  refine Δ (S.n (ψ (TL.j z z (ε (TC.cB z hh (λh116 hh=> ?_) (λh116 hh=> ?_))))))
  ·refine ψ (Φ z z ?_)
   obtain ⟨u38,hh⟩:=aP hh
   refine ω z (bU (i:=0) z fK fU z z au.rv.sl (by omega)) (ω z (fF ([]:T_1) z iG z au (by omega) z) (ξ z z ?_))
   obtain ⟨FB,hh⟩:=aP hh
   refine ω rfl (bo_ (l:=(nth x0 0 [])) (j:=ni.toNat) rfl kK rfl (by show Value.int _ _=_;rw [Int.toNat_of_nonneg (by omega)]) (by omega) (by omega)) (ω z (eu (.inr z) z) (ε (TC.ret (B.r (S.r (S.r ?_))))))
   replace hh:=dG hR1 hh
   refine B.r (S.r ?_)
   obtain rfl:=so hh
   exact rq [2] ⟨z,z,z⟩
  refine ι (B.n (S.n (η (ξ z z (ω z (subW z z z) (ξ z z (ε ?_)))))))
  obtain ⟨hh,rG⟩:=dO hR1 hh
  exact lf ((IntKind.i64.wrap (ni - 1)),()) rG hh (Sub.pre 0 z)
 refine TC.exit (S.x (S.x ?_))
 replace hh:=dG hR1 hh
 refine Δ (S.n (ψ (ω z (eu (.inr z) z) (ε (TC.ret ?_)))))
 obtain rfl:=so hh
 exact rq [2] ⟨z,z,z⟩
end Go.Proofs.YtchebnpdnfhenaaGreatDoor
end

noncomputable section
namespace Go.E
open Go
section
variable {K:Type} [DecidableEq K]
theorem hx_: ∀{l m:List K},l.Nodup->(∀x∈l,x∈m)->l.length<=m.length
  |[],m,_,_=>Nat.zero_le _
  | x :: l, m, hn, hs => by
    rw [List.nodup_cons]at hn
    have hx:=hs x (jm ..)
    have:=hx_ (m:=m.erase x) hn.2 λy hy=>by
      have h1:=hs y (pF _ hy)
      refine (List.mem_erase_of_ne ?_).2 h1
      intro e;subst e;exact hn.1 hy
    rw [List.length_erase_of_mem hx]at this
    have hp:=List.length_pos_of_mem hx
    simp only [List.length_cons];omega
theorem rev_ind{p:List K->Prop}(h0:p [])(h1: ∀l x,p l->p (l++[x]))(l:List K):p l:=by
  have: ∀m:List K,p m.reverse:=λm=>by
    induction m with
    |nil=>exact h0
    |cons x m ih=>rw [List.reverse_cons];exact h1 _ _ ih
  simpa using this l.reverse
end
section
variable {β γ:Type}
structure Grp (key:β->Int) (val:β->γ) (n:Nat) (l:List (List γ)) (xs:List β):Prop where
  len:l.length=n
  row: ∀i,i<n->nth l i []=(xs.filter λx=>decide (key x=(i:Int))).map val
theorem Grp.nil(key:β->Int)(val:β->γ)(n:Nat):Grp key val n (List.replicate n []) []:=⟨r_ ..,λi hi=>by simp [nth,List.getD,List.getElem?_replicate,hi]⟩
theorem Grp.snoc{key:β->Int}{val:β->γ}{n:Nat}{l:List (List γ)}{xs:List β}(h:Grp key val n l xs){x:β}(h0:0<=key x)(h1:key x<n):
    Grp key val n (l.set (key x).toNat (nth l (key x).toNat []++[val x])) (xs++[x]):=by
  refine ⟨by rw [gy];exact h.len,λi hi=> ?_⟩
  rw [List.filter_append,List.map_append,<-h.row i hi]
  by_cases e:i=(key x).toNat
  · subst e
    have:key x=((key x).toNat:Int):=by omega
    have hl:=h.len
    rw [show nth (l.set (key x).toNat (nth l (key x).toNat []++[val x])) (key x).toNat []=nth l (key x).toNat []++[val x]from by simp [nth,List.getD,hl,hi]]
    simp [this.symm]
  have hne: ¬ key x=(i:Int):=by omega
  rw [show nth (l.set (key x).toNat (nth l (key x).toNat []++[val x])) i []=nth l i []from by simp [nth,List.getD,List.getElem?_set,Ne.symm e]]
  simp [hne]
theorem Grp.at{key:β->Int}{val:β->γ}{n:Nat}{l:List (List γ)}{xs:List β}(h:Grp key val n l xs){s:Int}(h0:0<=s)(h1:s<n):nth l s.toNat []=(xs.filter λx=>decide (key x=s)).map val:=by
  rw [h.row _ (by omega)]
  have:((s.toNat:Nat):Int)=s:=by omega
  simp only [this]
theorem t7_{α R:Type}{step:Nat->Option (Nat⊕R)}{y no:R}(l:List α)(d:α)(p:α->Bool)(hs: ∀k,k<l.length->p (nth l k d)=true->step k=some (.inl (k+1)))
    (hn: ∀k,k<l.length->p (nth l k d)=false->step k=some (.inr no)) (hd:step l.length=some (.inr y)):bC step 0=some (if l.all p then y else no):=by
  have h:=rd_ (step:=step) (y:=no) (no:=y) (λk=>k) (λk=> !p (nth l k d)) l.length (λk hk hp=>hs k hk (by simpa using hp)) (λk hk hp=>hn k hk (by simpa using hp)) hd
  rw [h,wi_ l d (λx=> !p x)]
  by_cases ha:l.all p=true
  · have:(l.any λx=> !p x)=false:=by rw [List.any_eq_false];intro x hx;have:=(List.all_eq_true.1 ha) x hx;simp [this]
    rw [this,ha];rfl
  have:(l.any λx=> !p x)=true:=by
    rw [Bool.not_eq_true,List.all_eq_false]at ha
    obtain ⟨x,hx,h⟩:=ha
    exact List.any_eq_true.2 ⟨x,hx,by simpa using h⟩
  rw [this];simp only [cond_true];rw [if_neg ha]
theorem na_{α S R:Type}{step:S×Nat->Option ((S×Nat)⊕R)}{r:R}(l:List α)(d:α)(f:Nat->S)(hs: ∀k,k<l.length->step (f k,k)=some (.inl (f (k+1),k+1)))(hd:step (f l.length,l.length)=some (.inr r)):
    bC step (f 0,0)=some r:=ry_ (λk=>(f k,k)) l.length hs hd
end
theorem ur_{S R:Type}{step:S->Option (S⊕R)}{s s':S}(h:step s=some (.inl s')):bC step s=bC step s':=by
  cases hr:bC step s' with
  |some r=>exact II h hr
  |none=>
    cases hq:bC step s with
    |none=>rfl
    |some r=>
      obtain ⟨z,hz,hR⟩:=gJ hq
      rw [h]at hz;cases hz
      have:=(hR.next s' rfl).1
      rw [hr]at this;cases this
theorem zs_ {α S T R : Type} {step : T -> Option (T ⊕ R)} (g : S -> Nat -> T) (l : List α) (d : α) (I : List α -> S -> Prop) (Q : R -> Prop)
    (hs: ∀k s,k<l.length->I (l.take k) s->(∃s',step (g s k)=some (.inl (g s' (k+1)))/\I (l.take k++[nth l k d]) s')\/ ∃r,step (g s k)=some (.inr r)/\Q r)
    (hd: ∀s,I l s-> ∃r,step (g s l.length)=some (.inr r)/\Q r) {s0:S} (h0:I [] s0): ∃r,bC step (g s0 0)=some r/\Q r:=by
  have key: ∀m k s,l.length - k=m->k<=l.length->I (l.take k) s-> ∃r,bC step (g s k)=some r/\Q r:=by
    intro m
    induction m with
    |zero=>
      intro k s hm hk hI
      have hk:k=l.length:=by omega
      subst hk
      rw [List.take_length]at hI
      obtain ⟨r,h1,h2⟩:=hd s hI
      exact ⟨r,zD h1,h2⟩
    |succ m ih=>
      intro k s hm hk hI
      rcases hs k s (by omega) hI with ⟨s',h1,h2⟩|⟨r,h1,h2⟩
      · rw [<-yH l (by omega) d]at h2
        obtain ⟨r,h3,h4⟩:=ih (k+1) s' (by omega) (by omega) h2
        exact ⟨r,II h1 h3,h4⟩
      exact ⟨r,zD h1,h2⟩
  exact key _ 0 s0 rfl (Nat.zero_le _) h0
theorem bI{α:Type}{p:Prop}[Decidable p]{a b:Option α}(h:p):aN (decide p) a b=a:=by rw [decide_eq_true h];rfl
theorem bK{α:Type}{p:Prop}[Decidable p]{a b:Option α}(h: ¬ p):aN (decide p) a b=b:=by rw [decide_eq_false h];rfl
theorem fD{α β:Type}{x:α}{f:α->Option β}:bnd (some x) f=f x:=rfl
theorem qK{α:Type}{a b:Option α}:aN (!true) a b=b:=rfl
theorem uj{α:Type}{a b:Option α}:aN (!false) a b=a:=rfl
theorem kT {S T R : Type} {step : T -> Option (T ⊕ R)} (g : S -> Nat -> T) (n : Nat) (I : Nat -> S -> Prop) (Q : R -> Prop)
    (hs: ∀k s,k<n->I k s->(∃s',step (g s k)=some (.inl (g s' (k+1)))/\I (k+1) s')\/ ∃r,step (g s k)=some (.inr r)/\Q r)
    (hd: ∀s,I n s-> ∃r,step (g s n)=some (.inr r)/\Q r) {s0:S} (h0:I 0 s0): ∃r,bC step (g s0 0)=some r/\Q r:=by
  have key: ∀m k s,n - k=m->k<=n->I k s-> ∃r,bC step (g s k)=some r/\Q r:=by
    intro m
    induction m with
    |zero=>
      intro k s hm hk hI
      have hk:k=n:=by omega
      subst hk
      obtain ⟨r,h1,h2⟩:=hd s hI
      exact ⟨r,zD h1,h2⟩
    |succ m ih=>
      intro k s hm hk hI
      rcases hs k s (by omega) hI with ⟨s',h1,h2⟩|⟨r,h1,h2⟩
      · obtain ⟨r,h3,h4⟩:=ih (k+1) s' (by omega) (by omega) h2
        exact ⟨r,II h1 h3,h4⟩
      exact ⟨r,zD h1,h2⟩
  exact key _ 0 s0 rfl (Nat.zero_le _) h0
theorem jO{α:Type}(l:List α)(i j:Nat)(x d:α):nth (l.set i x) j d=if i=j/\j<l.length then x else nth l j d:=by
  unfold nth
  simp only [List.getD_eq_getElem?_getD,List.getElem?_set]
  by_cases h:i=j
  · subst h
    by_cases k:i<l.length
    · simp [k]
    simp [k]
  simp [h]
theorem zB{α β:Type}(f:α->β)(l:List α)(i:Nat)(d:α)(e:β)(h:i<l.length):nth (l.map f) i e=f (nth l i d):=by
  unfold nth
  simp [List.getD_eq_getElem?_getD,List.getElem?_map,List.getElem?_eq_getElem h]
theorem AV{α:Type}(n i:Nat)(x:α):nth (List.replicate n x) i x=x:=by
  unfold nth
  rw [List.getD_eq_getElem?_getD,List.getElem?_replicate]
  split<;>rfl
theorem DK{α:Type}(d:α){l m:List α}(hl:l.length=m.length)(h: ∀i,i<l.length->nth l i d=nth m i d):l=m:=by
  apply List.ext_getElem hl
  intro i h1 h2
  have a:=h i h1
  have b:=getD_some l h1 d
  have c:=getD_some m h2 d
  rw [List.getElem?_eq_getElem h1]at b
  rw [List.getElem?_eq_getElem h2]at c
  rw [Option.some.inj b,a,<-Option.some.inj c]
theorem o0_(n:Nat)(p:Nat->Bool):(List.range (n+1)).any p=((List.range n).any p || p n):=by
  rw [List.range_succ,List.any_append];simp
theorem r5_{n:Nat}{p:Nat->Bool}:(List.range n).any p=true↔ ∃j,j<n/\p j=true:=by
  simp [List.any_eq_true,List.mem_range]
end Go.E
end

noncomputable section
namespace Go.Proofs.YtchebnpdnfhenaaGreatDoor
open Go Go.E
inductive Rch (S:Int->Prop) (E:Int->Int->Prop):Int->Prop
  |base {s:Int}:S s->Rch S E s
  |step {a b:Int}:Rch S E a->E a b->Rch S E b
def onS(t:Fst)(s:Int):Prop:= ∃x∈t.starts,x.state=s
def enS(t:Fst)(s:Int):Prop:= ∃x∈t.ends,x.state=s
def arE(t:Fst)(a b:Int):Prop:= ∃x∈t.arcs,x.frm=a/\x.to=b
def arB(t:Fst)(a b:Int):Prop:= ∃x∈t.arcs,x.to=a/\x.frm=b
def Use(t:Fst)(s:Int):Prop:=Rch (onS t) (arE t) s/\Rch (enS t) (arB t) s
open Classical in
def mG(t:Fst)(s:Nat):Bool:=decide (Use t s)
def jA(p:Nat->Bool):Nat->Nat
  |0=>0
  |n+1=>jA p n+(if p n then 1 else 0)
def pO(p:Nat->Bool)(s:Int):Int:=if p s.toNat then (jA p s.toNat:Int) else -1
theorem ws_(p:Nat→Bool): ∀{m n:Nat},m<=n->jA p m<=jA p n
  | m, 0, h => by obtain rfl : m = 0 := by omega
                  exact Nat.le_refl _
  |m,n+1,h=>by
    by_cases hm:m=n+1
    · subst hm;exact Nat.le_refl _
    have:=ws_ p (m:=m) (n:=n) (by omega)
    simp only [jA];omega
theorem Z9(p:Nat->Bool){m n:Nat}(h:m<n)(hp:p m=true):jA p m<jA p n:=by
  have:=ws_ p (m:=m+1) (n:=n) h
  simp only [jA,hp,if_true]at this
  omega
theorem PI(p:Nat->Bool): ∀n,jA p n<=n
  |0=>Nat.le_refl _
  |n+1=>by have:=PI p n;simp only [jA];split<;>omega
theorem kg_{p:Nat->Bool}: ∀n,(∀s,s<n->p s=true)->jA p n=n
  |0,_=>rfl
  |n+1,h=>by simp only [jA,kg_ n (λs hs=>h s (by omega)),h n (by omega),if_true]
theorem kh_(p:Nat->Bool): ∀n k,k<jA p n-> ∃s,s<n/\p s=true/\jA p s=k
  |0,k,h=>by simp [jA]at h
  |n+1,k,h=>by
    by_cases hk:k<jA p n
    · obtain ⟨s,h1,h2⟩:=kh_ p n k hk;exact ⟨s,by omega,h2⟩
    simp only [jA]at h
    by_cases hp:p n=true
    · rw [if_pos hp]at h;exact ⟨n,by omega,hp,by omega⟩
    rw [if_neg hp]at h;omega
theorem ks_{p:Nat->Bool}{s:Int}(h:p s.toNat=true):pO p s=jA p s.toNat:=by unfold pO;rw [if_pos h]
theorem l1_{p:Nat->Bool}{s:Int}:0<=pO p s↔p s.toNat=true:=by
  unfold pO;split
  · simp_all
  simp_all
def yG(p:Nat->Bool)(l:List Tip):List Tip:=l.filterMap λx=>if 0<=pO p x.state then some ⟨pO p x.state,x.out⟩ else none
def AP(p:Nat->Bool)(l:List Arc):List Arc:=l.filterMap λx=>if 0<=pO p x.frm/\0<=pO p x.to then some ⟨pO p x.frm,pO p x.to,x.set,x.out,x.copy⟩ else none
def ZW(p:Nat->Bool)(t:Fst):Fst:=⟨jA p t.states.toNat,yG p t.starts,yG p t.ends,AP p t.arcs⟩
theorem km_{p:Nat->Bool}{l:List Tip}{y:Tip}:y∈yG p l↔ ∃x∈l,p x.state.toNat=true/\y=⟨pO p x.state,x.out⟩:=by
  unfold yG
  rw [List.mem_filterMap]
  constructor
  · rintro ⟨x,hx,h⟩
    split at h
    · rename_i h0;exact ⟨x,hx,l1_.1 h0,by cases h;rfl⟩
    cases h
  rintro ⟨x,hx,h0,rfl⟩;exact ⟨x,hx,by rw [if_pos (l1_.2 h0)]⟩
theorem se_{p:Nat->Bool}{l:List Arc}{y:Arc}:y∈AP p l↔ ∃x∈l,p x.frm.toNat=true/\p x.to.toNat=true/\y=⟨pO p x.frm,pO p x.to,x.set,x.out,x.copy⟩:=by
  unfold AP
  rw [List.mem_filterMap]
  constructor
  · rintro ⟨x,hx,h⟩
    split at h
    · rename_i h0;exact ⟨x,hx,l1_.1 h0.1,l1_.1 h0.2,by cases h;rfl⟩
    cases h
  rintro ⟨x,hx,h0,h1,rfl⟩;exact ⟨x,hx,by rw [if_pos ⟨l1_.2 h0,l1_.2 h1⟩]⟩
theorem ki_(p:Nat->Bool)(l:List Tip):(yG p l).length<=l.length:=List.length_filterMap_le ..
theorem rw_(p:Nat->Bool)(l:List Arc):(AP p l).length<=l.length:=List.length_filterMap_le ..
theorem rr_{p:Nat->Bool}{n:Nat}(hp: ∀s,s<n->p s=true){l:List Tip}(h: ∀x∈l,0<=x.state/\x.state<n):yG p l=l:=by
  unfold yG
  induction l with
  |nil=>rfl
  |cons x l ih=>
    obtain ⟨h1,h2⟩:=h x (jm ..)
    have hx:=hp x.state.toNat (by omega)
    have:pO p x.state=x.state:=by rw [ks_ hx,kg_ _ (λs hs=>hp s (by omega))];omega
    rw [List.filterMap_cons,this,if_pos h1,ih (λy hy=>h y (pF _ hy))]
theorem xc_{p:Nat->Bool}{n:Nat}(hp: ∀s,s<n->p s=true){l:List Arc}(h: ∀x∈l,(0<=x.frm/\x.frm<n)/\(0<=x.to/\x.to<n)):AP p l=l:=by
  unfold AP
  induction l with
  |nil=>rfl
  |cons x l ih=>
    obtain ⟨⟨h1,h2⟩,h3,h4⟩:=h x (jm ..)
    have hx:=hp x.frm.toNat (by omega)
    have hy:=hp x.to.toNat (by omega)
    have e1:pO p x.frm=x.frm:=by rw [ks_ hx,kg_ _ (λs hs=>hp s (by omega))];omega
    have e2:pO p x.to=x.to:=by rw [ks_ hy,kg_ _ (λs hs=>hp s (by omega))];omega
    rw [List.filterMap_cons,e1,e2,if_pos ⟨h1,h3⟩,ih (λy hy=>h y (pF _ hy))]
structure Rng (t:Fst):Prop where
  starts: ∀x∈t.starts,0<=x.state/\x.state<t.states
  ends: ∀x∈t.ends,0<=x.state/\x.state<t.states
  arcs: ∀x∈t.arcs,(0<=x.frm/\x.frm<t.states)/\(0<=x.to/\x.to<t.states)
open Classical in
theorem t0_{t:Fst}{s:Nat}:mG t s=true↔Use t s:=by unfold mG;exact decide_eq_true_iff
theorem zi_{t r:Fst}(hS: ∀x,x∈r.starts↔x∈yG (mG t) t.starts)(hE: ∀x,x∈r.ends↔x∈yG (mG t) t.ends)(hA: ∀x,x∈r.arcs↔x∈AP (mG t) t.arcs)(hn:r.states=jA (mG t) t.states.toNat)(h:Rng t):Rng r:=by
  have num: ∀{a:Int},0<=a->a<t.states->mG t a.toNat=true->0<=pO (mG t) a/\pO (mG t) a<r.states:=λ{a} h0 h1 hu=>by
    rw [ks_ hu,hn]
    have:=Z9 (mG t) (m:=a.toNat) (n:=t.states.toNat) (by omega) hu
    omega
  refine ⟨λy hy=> ?_,λy hy=> ?_,λy hy=> ?_⟩
  · obtain ⟨x,hx,hu,rfl⟩:=km_.1 ((hS y).1 hy);have:=h.starts x hx;exact num this.1 this.2 hu
  · obtain ⟨x,hx,hu,rfl⟩:=km_.1 ((hE y).1 hy);have:=h.ends x hx;exact num this.1 this.2 hu
  obtain ⟨x,hx,hu,hv,rfl⟩:=se_.1 ((hA y).1 hy);have:=h.arcs x hx;exact ⟨num this.1.1 this.1.2 hu,num this.2.1 this.2.2 hv⟩
end Go.Proofs.YtchebnpdnfhenaaGreatDoor
end

noncomputable section
namespace Go.Proofs.YtchebnpdnfhenaaGreatDoor
open Go Go.E
def uns:B_1->Nat
  |[]=>0
  |b::l=>(if b then 0 else 1)+uns l
theorem w3_: ∀l:B_1,uns l<=l.length
  |[]=>Nat.le_refl _
  |b::l=>by have:=w3_ l;simp only [uns,List.length_cons];split<;>omega
def Le(l r:B_1):Prop:= ∀v,nth l v false=true->nth r v false=true
theorem Le.rfl'(l:B_1):Le l l:=λ_ h=>h
theorem Le.trans{l r s:B_1}(h:Le l r)(k:Le r s):Le l s:=λv hv=>k v (h v hv)
theorem uns_le: ∀{l r:B_1},l.length=r.length->Le l r->uns r<=uns l
  |[],[],_,_=>Nat.le_refl _
  |[],_::_,h,_=>by simp at h
  |_::_,[],h,_=>by simp at h
  |a::l,b::r,h,k=>by
    have h1:=uns_le (l:=l) (r:=r) (by simpa using h) (λv hv=>k (v+1) hv)
    have h2:a=true->b=true:=λha=>k 0 ha
    simp only [uns]
    cases a<;>cases b<;>simp_all<;>omega
theorem v1_: ∀{l:B_1} {i:Nat},i<l.length->nth l i false=false->uns (l.set i true)+1=uns l
  |[],i,h,_=>by simp at h
  |a::l,0,_,h=>by
    have:a=false:=h
    subst this
    simp [uns];omega
  |a::l,i+1,h,k=>by
    have:=v1_ (l:=l) (i:=i) (by simpa using h) k
    simp only [List.set_cons_succ,uns];omega
theorem le_set{l:B_1}(i:Nat)(h:i<l.length):Le l (l.set i true):=λv hv=>by
  rw [jO];split
  · rfl
  exact hv
def stE(st:bZ)(a b:Int):Prop:=0<=a/\b∈nth st a.toNat []
theorem Rch.trans{S:Int->Prop}{E:Int->Int->Prop}{a b:Int}(h:Rch (λc=>c=a) E b)(k:Rch S E a):Rch S E b:=by
  induction h with
  |base e=>subst e;exact k
  |step _ e ih=>exact .step ih e
theorem v3_{α:Type}{l:List α}{x d:α}(h:x∈l): ∃j,j<l.length/\nth l j d=x:=by
  obtain ⟨j,hj,e⟩:=List.getElem_of_mem h
  refine ⟨j,hj,?_⟩
  have:=getD_some l hj d
  rw [List.getElem?_eq_getElem hj,Option.some.injEq]at this
  rw [<-this];exact e
theorem wz{α:Type}{l:List α}{j:Nat}(d:α)(h:j<l.length):nth l j d∈l:=by
  have:=getD_some l h d
  exact List.mem_of_getElem? this
structure Vis (st:bZ) (n:Nat) (s:Int) (seen r:B_1):Prop where
  len:r.length=n
  le:Le seen r
  at':nth r s.toNat false=true
  out: ∀v,nth r v false=true->nth seen v false=true\/Rch (λc=>c=s) (stE st) v
  cl: ∀v,nth r v false=true->nth seen v false=false-> ∀z∈nth st v [],nth r z.toNat false=true
theorem yo_ {st : bZ} {n : Nat} (hl : st.length = n) (hst : ∀ a, ∀ z ∈ nth st a [], 0 <= z /\ z < n) :
    ∀k (s:Int) (seen:B_1),0<=s->s<n->seen.length=n->uns seen<k-> ∃r,QO k s seen st=some r/\Vis st n s seen r:=by
  intro k
  induction k with
  |zero=>intro s seen _ _ _ h;omega
  |succ k ih=>
    intro s seen h0 h1 hn hu
    show ∃r,Eb_ (QO k) s seen st=some r/\_
    unfold Eb_
    rw [aF ⟨h0,by omega⟩]
    cases hs:nth seen s.toNat false with
    |true=>exact ⟨seen,rfl,hn,Le.rfl' _,hs,λv hv=> .inl hv,λv hv hf=>by rw [hv]at hf;cases hf⟩
    | false =>
      rw [iteO_false,aF ⟨h0,by omega⟩,aF ⟨h0,by omega⟩]
      have hlt:s.toNat<seen.length:=by omega
      have hun:=v1_ hlt hs
      have hat:nth (seen.set s.toNat true) s.toNat false=true:=by rw [jO,if_pos ⟨rfl,hlt⟩]
      have hor: ∀v,nth (seen.set s.toNat true) v false=true->nth seen v false=true\/v=s.toNat:=λv hv=>by
        rw [jO]at hv
        split at hv
        · rename_i h;exact .inr h.1.symm
        exact .inl hv
      obtain ⟨r,h2,h3,h4,h5,h6,h7⟩:=kT (step:=λq:B_1×Nat=>QK st s (QO k) q.1 q.2) (λ(l:B_1) j=>(l,j)) (nth st s.toNat []).length
        (λj l=>l.length=n/\Le (seen.set s.toNat true) l/\(∀i,i<j->nth l (nth (nth st s.toNat []) i 0).toNat false=true)/\(∀v,nth l v false=true->nth (seen.set s.toNat true) v false=true\/Rch (λc=>c=s) (stE st) v)/\(∀v,nth l v false=true->nth (seen.set s.toNat true) v false=false-> ∀z∈nth st v [],nth l z.toNat false=true))
        (λl=>l.length=n/\Le (seen.set s.toNat true) l/\(∀i,i<(nth st s.toNat []).length->nth l (nth (nth st s.toNat []) i 0).toNat false=true)/\(∀v,nth l v false=true->nth (seen.set s.toNat true) v false=true\/Rch (λc=>c=s) (stE st) v)/\(∀v,nth l v false=true->nth (seen.set s.toNat true) v false=false-> ∀z∈nth st v [],nth l z.toNat false=true))
        (λj l hj ⟨a1,a2,a3,a4,a5⟩=>by
          have hz:=wz (0:Int) hj
          have hzr:=hst _ _ hz
          have hle:=uns_le (by rw [gy];omega) a2
          obtain ⟨r,b1,b2⟩:=ih (nth (nth st s.toNat []) j 0) l hzr.1 hzr.2 a1 (by omega)
          refine .inl ⟨r,?_,b2.len,a2.trans b2.le,λi hi=> ?_,λv hv=> ?_,λv hv hf z hz'=> ?_⟩
          · show QK st s (QO k) l j=_
            unfold QK
            rw [bI (by omega),b1];rfl
          · by_cases hij:i=j
            · subst hij;exact b2.at'
            exact b2.le _ (a3 i (by omega))
          · rcases b2.out v hv with h|h
            · exact a4 v h
            exact .inr (h.trans (.step (.base rfl) ⟨h0,hz⟩))
          cases hlv:nth l v false with
          |true=>exact b2.le _ (a5 v hlv hf z hz')
          |false=>exact b2.cl v hv hlv z hz')
        (λl hI=>⟨l,by
          show QK st s (QO k) l _=_
          unfold QK
          rw [bK (by omega)];rfl,hI⟩)
        (s0:=seen.set s.toNat true) ⟨by rw [gy];exact hn,Le.rfl' _,λi hi=>by omega,λv hv=> .inl hv,λv hv hf=>by rw [hv]at hf;cases hf⟩
      refine ⟨r,h2,h3,(le_set _ hlt).trans h4,h4 _ hat,λv hv=> ?_,λv hv hf z hz=> ?_⟩
      · rcases h6 v hv with h|h
        · rcases hor v h with h|h
          · exact .inl h
          exact .inr (.base (by omega))
        exact .inr h
      cases hsv:nth (seen.set s.toNat true) v false with
      |true=>
        rcases hor v hsv with h|h
        · rw [h]at hf;cases hf
        subst h
        obtain ⟨i,hi,e⟩:=v3_ (d:=(0:Int)) hz
        have:=h5 i hi
        rw [e]at this;exact this
      |false=>exact h7 v hv hsv z hz
theorem to_ {st : bZ} {n : Nat} {tips : List Tip} (hn : n <= 1024) (hl : st.length = n) (hst : ∀ a, ∀ z ∈ nth st a [], 0 <= z /\ z < n) (ht : ∀ x ∈ tips, 0 <= x.state /\ x.state < n) :
    ∃r,Ep_ tips st=some r/\r.length=n/\ ∀v:Nat,nth r v false=true↔Rch (λc=> ∃x∈tips,x.state=c) (stE st) v:=by
  unfold Ep_
  rw [aF (by omega)]
  obtain ⟨r,h1,h2,h3,h4,h5⟩:=kT (step:=λq:B_1×Nat=>QI tips st q.1 q.2) (λ(l:B_1) j=>(l,j)) tips.length
    (λj l=>l.length=n/\(∀i,i<j->nth l (nth tips i aK).state.toNat false=true)/\(∀v:Nat,nth l v false=true->Rch (λc=> ∃x∈tips,x.state=c) (stE st) v)/\(∀v,nth l v false=true-> ∀z∈nth st v [],nth l z.toNat false=true))
    (λl=>l.length=n/\(∀i,i<tips.length->nth l (nth tips i aK).state.toNat false=true)/\(∀v:Nat,nth l v false=true->Rch (λc=> ∃x∈tips,x.state=c) (stE st) v)/\(∀v,nth l v false=true-> ∀z∈nth st v [],nth l z.toNat false=true))
    (λj l hj ⟨a1,a2,a3,a4⟩=>by
      have hz:=wz aK hj
      have hzr:=ht _ hz
      have:=w3_ l
      obtain ⟨r,b1,b2⟩:=yo_ hl hst (l.length+1) (nth tips j aK).state l hzr.1 hzr.2 a1 (by omega)
      refine .inl ⟨r,?_,b2.len,λi hi=> ?_,λv hv=> ?_,λv hv z hz'=> ?_⟩
      · show QI tips st l j=_
        unfold QI
        rw [bI (by omega),b1];rfl
      · by_cases hij:i=j
        · subst hij;exact b2.at'
        exact b2.le _ (a2 i (by omega))
      · rcases b2.out v hv with h|h
        · exact a3 v h
        exact h.trans (.base ⟨_,hz,rfl⟩)
      cases hlv:nth l v false with
      |true=>exact b2.le _ (a4 v hlv z hz')
      |false=>exact b2.cl v hv hlv z hz')
    (λl hI=>⟨l,by
      show QI tips st l _=_
      unfold QI
      rw [bK (by omega)];rfl,hI⟩)
    (s0:=List.replicate st.length false) ⟨by rw [r_];exact hl,λi hi=>by omega,λv hv=>(by rw [AV]at hv;cases hv),λv hv=>(by rw [AV]at hv;cases hv)⟩
  refine ⟨r,h1,h2,λv=>⟨h4 v,λhv=> ?_⟩⟩
  have: ∀c:Int,Rch (λc=> ∃x∈tips,x.state=c) (stE st) c->nth r c.toNat false=true:=λc hc=>by
    induction hc with
    |base h=>
      obtain ⟨x,hx,rfl⟩:=h
      obtain ⟨i,hi,e⟩:=v3_ (d:=aK) hx
      have:=h3 i hi
      rw [e]at this;exact this
    |step _ e ih=>exact h5 _ ih _ e.2
  have:=this v hv
  simpa using this
theorem ty_{α:Type}(l:List α){k:Nat}(h:k<l.length)(d:α):l.drop k=nth l k d::l.drop (k+1):=by
  rw [List.drop_eq_getElem_cons h]
  have:=getD_some l h d
  rw [List.getElem?_eq_getElem h,Option.some.injEq]at this
  rw [this]
def zi:T_1->T_1->Nat
  |a::l,b::m=>if a=b then zi l m+1 else 0
  |_,_=>0
theorem wk_: ∀l m:T_1,zi l m<=l.length
  |[],_=>Nat.zero_le _
  |_::_,[]=>Nat.zero_le _
  |a::l,b::m=>by have:=wk_ l m;simp only [zi,List.length_cons];split<;>omega
theorem sz_: ∀(l m:T_1) (k:Nat),k<=l.length->k<=m.length->(∀i,i<k->nth l i 0=nth m i 0)->(k<l.length->k<m.length->nth l k 0≠nth m k 0)->zi l m=k
  |[],_,k,h,_,_,_=>by simp at h;simp [zi,h]
  |_::_,[],k,_,h,_,_=>by simp at h;simp [zi,h]
  |a::l,b::m,0,_,_,_,h=>by
    have:a≠b:=h (by simp) (by simp)
    simp [zi,this]
  |a::l,b::m,k+1,h1,h2,h3,h4=>by
    have e:a=b:=h3 0 (by omega)
    have:=sz_ l m k (by simpa using h1) (by simpa using h2) (λi hi=>h3 (i+1) (by omega)) (λi j=>h4 (by simpa using i) (by simpa using j))
    simp [zi,e,this]
theorem yq_ (x y : T_1) (hx : x.length <= 281474976710656) (hy : y.length <= 281474976710656) : Fh_ x y = some ((zi x y : Nat) : Int) := by
  unfold Fh_
  rw [aF hx,aF hy]
  have hm:min ((x.length:Nat):Int) ((y.length:Nat):Int)=((min x.length y.length:Nat):Int):=by omega
  obtain ⟨r,h,rfl⟩:=kT (step:=λq:Nat=>ZI x y q) (λ(_:Unit) k=>k) (min x.length y.length) (λk _=> ∀i,i<k->nth x i 0=nth y i 0) (λr=>r=((zi x y:Nat):Int))
    (λk _ hk hI=>by
      unfold ZI
      rw [hm,bI (by omega),aF (by omega),aF (by omega)]
      by_cases e:nth x k 0=nth y k 0
      · rw [bK (by rw [e];simp)]
        exact .inl ⟨(),rfl,λi hi=>by
          by_cases hik:i=k
          · subst hik;exact e
          exact hI i (by omega)⟩
      have hne:(((nth x k (0:UInt8)).toNat:Nat):Int)≠(((nth y k (0:UInt8)).toNat:Nat):Int):=λh=>e (UInt8.toNat_inj.1 (by omega))
      rw [bI hne]
      refine .inr ⟨_,rfl,?_⟩
      rw [sz_ x y k (by omega) (by omega) hI (λ_ _=>e)])
    (λ_ hI=>⟨_,by
      unfold ZI
      rw [hm,bK (by omega)];rfl,by
      rw [sz_ x y (min x.length y.length) (by omega) (by omega) hI (λh1 h2=>by omega)]⟩)
    (s0:=()) (λi hi=>by omega)
  exact h
section
variable {S α:Type}
end
structure ArcsOk (arcs:List (List Arc)):Prop where
  out: ∀i, ∀x∈nth arcs i [],x.out.length<=1000000
structure LagOk (n:Nat) (l:TLag):Prop where
  p:0<=l.p/\l.p<n
  q:0<=l.q/\l.q<n
  a:l.a.length<=100000000
  b:l.b.length<=100000000
section
variable {Sy:Type} {Y:Sy->TLag->Option (Sy×Bool)} (w:Walk) (hw:ArcsOk w.arcs) (row:List TLag) (hr: ∀l∈row,LagOk w.arcs.length l) (i:Nat) (hi:i<row.length)
include hw hr hi
end
theorem th_: ∀(a b:T_1) (n:Nat),n<=a.length->(n<=zi a b↔n<=b.length/\b.take n=a.take n)
  |a,b,0,_=>by simp
  |[],b,n+1,h=>by simp at h
  |x::l,[],n+1,h=>by simp [zi]
  |x::l,y::m,n+1,h=>by
    have ih:=th_ l m n (by simpa using h)
    unfold zi
    by_cases c:x=y
    · subst c;simp [ih]
    simp only [if_neg c,List.length_cons,List.take_succ_cons,List.cons.injEq]
    constructor
    · intro h;omega
    intro h;exact absurd h.2.1.symm c
theorem no_{p x:T_1}:p <+: x↔p.length<=x.length/\x.take p.length=p:=by
  rw [List.prefix_iff_eq_take]
  constructor
  · intro h
    refine ⟨?_,h.symm⟩
    have:=congrArg List.length h
    rw [List.length_take]at this;omega
  intro h;exact h.2.symm
theorem pz_{p q:T_1}(h:p <+: q)(k:q <+: p):p=q:=h.eq_of_length (Nat.le_antisymm h.length_le k.length_le)
theorem lcp_l(s t:T_1):s.take (zi s t) <+: s:=List.take_prefix _ _
theorem lcp_r(s t:T_1):s.take (zi s t) <+: t:=by
  have h1:=wk_ s t
  have h2:=(th_ s t _ h1).1 (Nat.le_refl _)
  rw [<-h2.2];exact List.take_prefix _ _
theorem lcp_max{p s t:T_1}(h:p <+: s)(k:p <+: t):p <+: s.take (zi s t):=by
  rw [no_]at h k
  have h1:=(th_ s t p.length h.1).2 ⟨k.1,by rw [k.2,h.2]⟩
  rw [no_,List.length_take,List.take_take,Nat.min_eq_left h1]
  exact ⟨by omega,h.2⟩
def Jm(l:aC)(s:T_1):T_1:=l.foldl (λs t=>s.take (zi s t)) s
theorem my_: ∀(l:aC) (s:T_1),Jm l s <+: s/\ ∀x∈l,Jm l s <+: x
  |[],s=>⟨List.prefix_refl _,by simp⟩
  |t::l,s=>by
    obtain ⟨h1,h2⟩:=my_ l (s.take (zi s t))
    refine ⟨h1.trans (lcp_l s t),λx hx=> ?_⟩
    rcases List.mem_cons.1 hx with rfl|hx
    · exact h1.trans (lcp_r s x)
    exact h2 x hx
theorem ul_{p:T_1}: ∀(l:aC) (s:T_1),p <+: s->(∀x∈l,p <+: x)->p <+: Jm l s
  |[],s,h,_=>h
  |t::l,s,h,k=>ul_ l _ (lcp_max h (k t (jm ..))) λx hx=>k x (pF _ hx)
def jf:aC->T_1
  |[]=>[]
  |x::l=>Jm l x
theorem LW: ∀{l:aC} {x:T_1},x∈l->jf l <+: x
  |[],x,h=>by cases h
  |y::l,x,h=>by
    rcases List.mem_cons.1 h with rfl|h
    · exact (my_ l x).1
    exact (my_ l y).2 x h
theorem kk_: ∀{l:aC} {p:T_1},l≠[]->(∀x∈l,p <+: x)->p <+: jf l
  |[],p,h,_=>absurd rfl h
  |y::l,p,_,h=>ul_ l y (h y (jm ..)) λx hx=>h x (pF _ hx)
theorem wl_{l:aC}{p:T_1}(h0:l≠[])(h1: ∀x∈l,p <+: x)(h2: ∀q,(∀x∈l,q <+: x)->q <+: p):jf l=p:=
  pz_ (h2 _ λx hx=>LW hx) (kk_ h0 h1)
theorem vp_{l m:aC}(h: ∀x,x∈l↔x∈m):jf l=jf m:=by
  by_cases c:l=[]
  · subst c
    have:m=[]:=List.eq_nil_iff_forall_not_mem.2 λx hx=>by have:=(h x).2 hx;cases this
    rw [this]
  have c2:m≠[]:=λe=>by
    subst e
    exact c (List.eq_nil_iff_forall_not_mem.2 λx hx=>by have:=(h x).1 hx;cases this)
  exact wl_ c (λx hx=>LW ((h x).1 hx)) λq hq=>kk_ c2 λx hx=>hq x ((h x).2 hx)
theorem r9_(l:aC)(s t:T_1):Jm (l++[t]) s=(Jm l s).take (zi (Jm l s) t):=by simp [Jm]
theorem yH{α:Type}(l:List α){k:Nat}(h:k<l.length)(d:α):l.take (k+1)=l.take k++[nth l k d]:=by
  rw [List.take_add_one]
  have:=getD_some l h d
  rw [this];rfl
theorem pa_ {l : aC} (h : ∀ x ∈ l, x.length <= 281474976710656) : Zx l = some (jf l) := by
  unfold Zx
  cases l with
  |nil=>rfl
  |cons x l=>
    rw [bK (by simp;omega),aF (by simp),aF (by simp)]
    have hx:x.length<=281474976710656:=h x (jm ..)
    obtain ⟨r,h1,h2⟩:=kT (step:=λq:T_1×Nat=>Qr (x::l) q.1 q.2) (λs k=>(s,k)) l.length (λk s=>s=Jm (l.take k) x) (λr=>r=Jm l x)
      (λk s hk hI=> .inl ⟨s.take (zi s (nth l k [])),by
        have hs:s.length<=281474976710656:=by
          rw [hI]
          exact Nat.le_trans (my_ _ x).1.length_le hx
        have ht:(nth l k []).length<=281474976710656:=h _ (pF _ (wz [] hk))
        show Qr (x::l) s k=_
        unfold Qr
        rw [show (x::l).drop 1=l from rfl,bI (by omega),yq_ s _ hs ht,fD,aF ⟨by omega,by omega,by rw [iW];exact wk_ _ _⟩,iW];rfl,by
        rw [yH l hk [],r9_,<-hI]⟩)
      (λs hI=>⟨s,by
        show Qr (x::l) s l.length=_
        unfold Qr
        rw [show (x::l).drop 1=l from rfl,bK (by omega)];rfl,by rw [hI,List.take_length]⟩) (s0:=x) rfl
    rw [show nth (x::l) 0 []=x from rfl]
    show bC _ (x,0)=_
    rw [h1,h2];rfl
theorem rbeg_eq(x y:T_1)(hx:x.length<=281474976710656)(hy:y.length<=281474976710656):B4_ x y=some (decide (x <+: y)):=by
  unfold B4_
  rw [aF hx,aF hy]
  by_cases c:x.length<=y.length
  · rw [bI (by omega),aF ⟨by omega,c⟩]
    have:(y.take x.length=x)↔x <+: y:=by rw [no_];simp [c]
    simp only [this]
  rw [bK (by omega),decide_eq_false (λh=>c h.length_le)]
theorem rlcp_at {x : T_1} {l : aC} (h : ∀ y ∈ x :: l, y.length <= 281474976710656) (n : Nat) (hn : n + 1 <= x.length) :
    QU (x::l) ((n+1:Nat):Int)=some (if ∀y∈x::l,x.take (n+1) <+: y then .inr (x.take (n+1)) else .inl ((n:Nat):Int)):=by
  unfold QU
  rw [bI (by omega)]
  have hx:x.length<=281474976710656:=h x (jm ..)
  have htn:(x.take (n+1)).length<=281474976710656:=by rw [List.length_take];omega
  have hg:(0:Int)<=((n+1:Nat):Int)/\0<=((n+1:Nat):Int).toNat/\((n+1:Nat):Int).toNat<=(nth (x::l) 0 ([]:T_1)).length:=by
    rw [iW];exact ⟨by omega,by omega,hn⟩
  obtain ⟨r,h1,h2⟩:=kT (step:=λq:Bool×Nat=>QV (x::l) ((n+1:Nat):Int) q.1 q.2) (λs k=>(s,k)) (x::l).length (λk s=>s=decide (∀y∈(x::l).take k,x.take (n+1) <+: y))
    (λr=>r=(if ∀y∈x::l,x.take (n+1) <+: y then .inr (x.take (n+1)) else .inl ((n:Nat):Int)))
    (λk s hk hI=> .inl ⟨decide (∀y∈(x::l).take (k+1),x.take (n+1) <+: y),by
      show QV (x::l) _ s k=_
      unfold QV Cv_
      rw [bI (by omega)]
      have e1:(∀y∈(x::l).take (k+1),x.take (n+1) <+: y)↔(∀y∈(x::l).take k,x.take (n+1) <+: y)/\x.take (n+1) <+: nth (x::l) k []:=by
        rw [yH _ hk []]
        simp only [List.mem_append,yK]
        exact ⟨λq=>⟨λy hy=>q y (.inl hy),q _ (.inr rfl)⟩,λq y hy=>hy.elim (q.1 y) (λe=>by rw [e];exact q.2)⟩
      cases s with
      |true=>
        have hI:=jg hI.symm
        rw [iteO_true,aF (by simp),aF hg,iW]
        show bnd (B4_ (x.take (n+1)) (nth (x::l) k [])) _=_
        rw [rbeg_eq _ _ htn (h _ (wz [] hk)),fD]
        simp only [e1]
        rw [show (decide ((∀y∈(x::l).take k,x.take (n+1) <+: y)/\x.take (n+1) <+: nth (x::l) k []))=decide (x.take (n+1) <+: nth (x::l) k [])from by
          rw [Bool.eq_iff_iff];simp only [jV];exact ⟨λq=>q.2,λq=>⟨hI,q⟩⟩]
        rfl
      |false=>
        have hI:=jo hI.symm
        rw [iteO_false,decide_eq_false (λq=>hI (e1.1 q).1)];rfl,rfl⟩)
    (λs hI=>by
      rw [List.take_length]at hI
      show ∃r,QV (x::l) _ s _=_/\_
      unfold QV
      rw [bK (by omega)]
      cases s with
      |true=>
        have hI:=jg hI.symm
        refine ⟨_,?_,rfl⟩
        rw [iteO_true,aF (by simp),aF hg,iW,if_pos hI];rfl
      |false=>
        have hI:=jo hI.symm
        refine ⟨_,?_,rfl⟩
        rw [iteO_false,if_neg hI,show ((n+1:Nat):Int) - 1=((n:Nat):Int) by omega,UM (by omega) (by omega)];rfl) (s0:=true) (by simp)
  rw [<-h2];exact h1
theorem rLcp_eq {l : aC} (h : ∀ x ∈ l, x.length <= 281474976710656) : Dp_ l = some (jf l) := by
  cases l with
  |nil=>rfl
  |cons x l=>
    have hp:jf (x::l) <+: x:=LW (jm ..)
    have key: ∀n:Nat,n<=x.length->(jf (x::l)).length<=n->bC (λq:Int=>QU (x::l) q) ((n:Nat):Int)=some (jf (x::l)):=by
      intro n
      induction n with
      |zero=>
        intro _ k
        have e:jf (x::l)=[]:=List.length_eq_zero_iff.1 (by omega)
        rw [e]
        refine zD ?_
        show QU (x::l) _=_
        unfold QU
        rw [bK (by omega)];rfl
      |succ n ih=>
        intro hn k
        have hs:=rlcp_at h n hn
        by_cases c: ∀y∈x::l,x.take (n+1) <+: y
        · rw [if_pos c]at hs
          have h1:=kk_ (List.cons_ne_nil x l) c
          have h2:jf (x::l) <+: x.take (n+1):=by
            rw [no_]at hp ⊢
            rw [List.length_take,List.take_take,Nat.min_eq_left k]
            exact ⟨by omega,hp.2⟩
          rw [pz_ h2 h1]
          exact zD hs
        rw [if_neg c]at hs
        refine II hs (ih (by omega) ?_)
        rcases Nat.lt_or_ge (jf (x::l)).length (n+1)with q|q
        · omega
        refine absurd (λy hy=> ?_) c
        have e:(jf (x::l)).length=n+1:=by omega
        have h3:=(no_.1 hp).2
        rw [e]at h3
        rw [h3];exact LW hy
    unfold Dp_
    rw [bK (by simp;omega),aF (by simp)]
    exact key x.length (Nat.le_refl _) hp.length_le
theorem Nw{n:Nat}{p:Nat->Bool}:(List.range n).all p=true↔ ∀j,j<n->p j=true:=by
  simp [List.all_eq_true,List.mem_range]
theorem WM{R:Type}{step:Nat->Option (Nat⊕R)}{good bad:R}(n:Nat)(p:Nat->Bool)(hy: ∀k,k<n->p k=true->step k=some (.inl (k+1)))(hn: ∀k,k<n->p k=false->step k=some (.inr bad))(hd:step n=some (.inr good)):
    bC step 0=some (if (List.range n).all p=true then good else bad):=by
  have h:=rd_ (step:=step) (y:=bad) (no:=good) (λk=>k) (λk=> !p k) n (λk hk h=>hy k hk (by simpa using h)) (λk hk h=>hn k hk (by simpa using h)) hd
  rw [h,<-List.not_all_eq_any_not]
  cases (List.range n).all p<;>rfl
def FI(nx:ak)(os:aC)(n b:Nat):Bool:=decide (-1<=nth nx b 0) && decide (nth nx b 0<(n:Int)) && decide ((nth os b []).length<=4096) && (decide (nth nx b 0≠ -1) || decide (nth os b []=[]))
def N_(nx:ak)(os:aC)(n:Nat):Bool:=decide (nx.length=256) && decide (os.length=256) && (List.range 256).all (FI nx os n)
theorem Hw_ (nx : ak) (os : aC) (n : Nat) : G3_ nx os ((n : Nat) : Int) = some (N_ nx os n) := by
  unfold G3_ N_
  by_cases h1:nx.length=256
  · rw [bK  (by omega)]
    by_cases h2:os.length=256
    · rw [bK (by omega),decide_eq_true h1,decide_eq_true h2,Bool.true_and,Bool.true_and]
      have:=WM (step:=λq:Nat=>Vj nx ((n:Nat):Int) os q) (good:=true) (bad:=false) 256 (FI nx os n) ?_ ?_ ?_
      · rw [this];cases (List.range 256).all (FI nx os n)<;>rfl
      · intro k hk hp
        simp only [FI,Bool.and_eq_true,Bool.or_eq_true,jV]at hp
        obtain ⟨⟨⟨p1,p2⟩,p3⟩,p4⟩:=hp
        simp only [Vj,E4_]
        rw [bI (by omega),bK (by omega),bK (by omega),aF (by omega),bK (by omega)]
        by_cases c:nth nx k (0:Int)= -1
        · rw [bI c,aF (by omega),bK (by rcases p4 with p4|p4<;>simp_all)];rfl
        rw [bK c];rfl
      · intro k hk hp
        simp only [Vj,E4_]
        rw [bI (by omega)]
        by_cases c1:nth nx k (0:Int)< -1
        · rw [bI c1];rfl
        rw [bK c1]
        by_cases c2:((n:Nat):Int)<=nth nx k (0:Int)
        · rw [bI c2];rfl
        rw [bK c2,aF (by omega)]
        by_cases c3:4096<(nth os k ([]:T_1)).length
        · rw [bI (by omega)];rfl
        rw [bK (by omega)]
        by_cases c4:nth nx k (0:Int)= -1
        · rw [bI c4,aF (by omega)]
          by_cases c5:nth os k ([]:T_1)=[]
          · exfalso
            simp only [FI,c5]at hp
            rw [decide_eq_true (by omega),decide_eq_true (by omega)]at hp
            simp at hp
          rw [bI c5];rfl
        exfalso
        simp only [FI]at hp
        rw [decide_eq_true (by omega),decide_eq_true (by omega),decide_eq_true (by omega),decide_eq_true c4]at hp
        simp at hp
      simp only [Vj]
      rw [bK (by omega)];rfl
    rw [bI (by omega),decide_eq_false h2];simp
  rw [bI (by omega),decide_eq_false h1];simp
def EH(q:Seq)(s:Nat):Bool:=decide ((nth q.tail s []).length<=4096) && (nth q.fin s false || decide (nth q.tail s []=[])) && N_ (nth q.next s []) (nth q.outs s []) q.next.length
def yP(q:Seq):Bool:=decide (q.next.length<=1024) && decide (q.outs.length=q.next.length) && decide (q.fin.length=q.next.length) && decide (q.tail.length=q.next.length) && decide (q.front.length<=4096) && (decide (q.next.length≠0) || decide (q.front=[]))
def eP(q:Seq):Bool:=yP q && (List.range q.next.length).all (EH q)
theorem Ev_ (q : Seq) : NG q = some (if eP q = true then 0 else 1) := by
  unfold NG
  by_cases h1:q.next.length<=1024
  rotate_left
  · rw [bI (by omega),if_neg (by simp [eP,yP,h1])]
  rw [bK (by omega)]
  by_cases h2:q.outs.length=q.next.length
  rotate_left
  · rw [bI (by omega),if_neg (by simp [eP,yP,h2])]
  rw [bK (by omega)]
  by_cases h3:q.fin.length=q.next.length
  rotate_left
  · rw [bI (by omega),if_neg (by simp [eP,yP,h3])]
  rw [bK (by omega)]
  by_cases h4:q.tail.length=q.next.length
  rotate_left
  · rw [bI (by omega),if_neg (by simp [eP,yP,h4])]
  rw [bK (by omega)]
  by_cases h5:q.front.length<=4096
  rotate_left
  · rw [bI (by omega),if_neg (by simp [eP,yP,h5])]
  rw [bK (by omega)]
  have key:(decide (q.next.length≠0) || decide (q.front=[]))=true->D8_ q=some (if eP q=true then 0 else 1):=by
    intro h6
    have hs:yP q=true:=by simp only [yP,h6,Bool.and_true,Bool.and_eq_true,jV];exact ⟨⟨⟨⟨h1,h2⟩,h3⟩,h4⟩,h5⟩
    unfold D8_ eP
    rw [hs,Bool.true_and]
    refine WM (step:=λk:Nat=>Vo q k) q.next.length (EH q) ?_ ?_ ?_
    · intro k hk hp
      simp only [EH,Bool.and_eq_true,jV]at hp
      obtain ⟨⟨p1,p2⟩,p3⟩:=hp
      have hj:Vm k q=some (.inl (k+1)):=by
        unfold Vm
        rw [aF (by omega),Hw_,fD,p3];rfl
      simp only [Vo]
      rw [bI (by omega),aF (by omega),bK (by omega),aF (by omega)]
      cases hf:nth q.fin k false with
      |true=>rw [qK];exact hj
      |false=>
        rw [hf,Bool.false_or,jV]at p2
        rw [uj,aF (by omega),bK (by simp [p2])];exact hj
    · intro k hk hp
      simp only [Vo]
      rw [bI (by omega),aF (by omega)]
      by_cases c1:4096<(nth q.tail k ([]:T_1)).length
      · rw [bI (by omega)];rfl
      rw [bK (by omega),aF (by omega)]
      have hj:(nth q.fin k false || decide (nth q.tail k []=[]))=true->Vm k q=some (.inr 1):=by
        intro hh
        simp only [EH,hh,Bool.and_true]at hp
        rw [decide_eq_true (by omega),Bool.true_and]at hp
        unfold Vm
        rw [aF (by omega),Hw_,fD,hp];rfl
      cases hf:nth q.fin k false with
      |true=>rw [qK];exact hj (by rw [hf];rfl)
      |false=>
        rw [uj,aF (by omega)]
        by_cases c2:nth q.tail k ([]:T_1)=[]
        · rw [bK (by simp [c2])];exact hj (by rw [c2];simp)
        rw [bI c2];rfl
    simp only [Vo]
    rw [bK (by omega)];rfl
  by_cases h6:q.next.length=0
  · rw [bI (by omega)]
    by_cases h7:q.front=[]
    · rw [bK (by simp [h7])];exact key (by simp [h7])
    rw [bI h7,if_neg (by simp [eP,yP,h6,h7])]
  rw [bK (by omega)];exact key (by simp [h6])
theorem nk_(l m:T_1)(h:l.length+m.length<=140737488355328):zA ⟨l⟩ m=some (((m.length:Nat):Int),(),⟨l++m⟩):=by
  unfold zA
  rw [aF (by omega),show it_ (⟨l⟩:SB)=some ⟨l⟩from rfl,fD,aF h]
def DC(q:Seq):T_1->Nat->Int->T_1->T_1×Nat×Bool
  |[],i,s,acc=>if nth q.fin s.toNat false=true then (acc++nth q.tail s.toNat [],i,true) else ([],i,false)
  |b::w,i,s,acc=>if nth (nth q.next s.toNat []) b.toNat 0<0 then ([],i,false) else DC q w (i+1) (nth (nth q.next s.toNat []) b.toNat 0) (acc++nth (nth q.outs s.toNat []) b.toNat [])
def Nu(q:Seq)(w:T_1):T_1×Int×Bool×Int:=
  if eP q=true then (if q.next.length=0 then ([],0,false,0) else ((DC q w 0 0 q.front).1,(((DC q w 0 0 q.front).2.1:Nat):Int),(DC q w 0 0 q.front).2.2,0)) else ([],0,false,1)
structure CellOk (q:Seq) (s:Int) (b:UInt8):Prop where
  n:b.toNat<(nth q.next s.toNat []).length
  o:b.toNat<(nth q.outs s.toNat []).length
  lo: -1<=nth (nth q.next s.toNat []) b.toNat 0
  hi:nth (nth q.next s.toNat []) b.toNat 0<(q.next.length:Int)
  le:(nth (nth q.outs s.toNat []) b.toNat []).length<=4096
theorem mW{q:Seq}(h:eP q=true):q.next.length<=1024/\q.outs.length=q.next.length/\q.fin.length=q.next.length/\q.tail.length=q.next.length/\q.front.length<=4096:=by
  simp only [eP,yP,Bool.and_eq_true,jV]at h
  exact ⟨h.1.1.1.1.1.1,h.1.1.1.1.1.2,h.1.1.1.1.2,h.1.1.1.2,h.1.1.2⟩
theorem hk_{q:Seq}(h:eP q=true){s:Int}(h0:0<=s)(h1:s<(q.next.length:Int)):EH q s.toNat=true:=by
  simp only [eP,Bool.and_eq_true]at h
  exact Nw.1 h.2 _ (by omega)
theorem sp_{q:Seq}(h:eP q=true){s:Int}(h0:0<=s)(h1:s<(q.next.length:Int)):(nth q.tail s.toNat []).length<=4096:=by
  have:=hk_ h h0 h1
  simp only [EH,Bool.and_eq_true,jV]at this
  exact this.1.1
theorem iz_{q:Seq}(h:eP q=true){s:Int}(h0:0<=s)(h1:s<(q.next.length:Int))(b:UInt8):CellOk q s b:=by
  have hs:=hk_ h h0 h1
  simp only [EH,N_,Bool.and_eq_true,jV]at hs
  obtain ⟨_,⟨h2,h3⟩,h4⟩:=hs
  have hb:=UInt8.toNat_lt b
  have hc:=Nw.1 h4 b.toNat (by omega)
  simp only [FI,Bool.and_eq_true,jV]at hc
  exact ⟨by omega,by omega,hc.1.1.1,hc.1.1.2,hc.1.2⟩
theorem wn_{α:Type}(l:List α){k:Nat}(h:k<l.length)(d:α):l.drop k=nth l k d::l.drop (k+1):=by
  rw [List.drop_eq_getElem_cons h]
  congr 1
  have h2:=getD_some l h d
  rw [List.getElem?_eq_getElem h]at h2;exact Option.some.inj h2
theorem px_{q:Seq}(h:eP q=true)(w:T_1)(hw:w.length<=1000000): ∀(m k:Nat) (s:Int) (acc:T_1),w.length - k=m->k<=w.length->0<=s->s<(q.next.length:Int)->acc.length<=4096 * (k+1)->
    bC (λz:T_1×Int×Nat=>Vp w q z.1 z.2.1 z.2.2) (acc,s,k)=some ((DC q (w.drop k) k s acc).1,(((DC q (w.drop k) k s acc).2.1:Nat):Int),(DC q (w.drop k) k s acc).2.2,0)
  |0,k,s,acc,hm,hk,h0,h1,ha=>by
    obtain ⟨q1,q2,q3,q4,q5⟩:=mW h
    have ht:=sp_ h h0 h1
    have e:k=w.length:=by omega
    subst e
    refine zD ?_
    simp only [Vp]
    rw [List.drop_length,DC,bK (by omega),aF (by omega)]
    cases hf:nth q.fin s.toNat false with
    |false=>rw [uj];rfl
    |true=>
      rw [qK,aF (by omega),nk_ _ _ (by omega),fD];rfl
  | m + 1, k, s, acc, hm, hk, h0, h1, ha => by
    obtain ⟨q1,q2,q3,q4,q5⟩:=mW h
    obtain ⟨c1,c2,c3,c4,c5⟩:=iz_ h h0 h1 (nth w k (0:UInt8))
    rw [wn_ w (show k<w.length by omega) (0:UInt8),DC]
    by_cases cz:nth (nth q.next s.toNat ([]:ak)) (nth w k (0:UInt8)).toNat (0:Int)<0
    · refine zD ?_
      simp only [Vp]
      rw [if_pos cz,bI (by omega),aF (by omega),aF c1,bI cz];rfl
    rw [if_neg cz]
    refine II (s':=(acc++nth (nth q.outs s.toNat ([]:aC)) (nth w k (0:UInt8)).toNat ([]:T_1),nth (nth q.next s.toNat ([]:ak)) (nth w k (0:UInt8)).toNat (0:Int),k+1)) ?_ (px_ h w hw m (k+1) _ _ (by omega) (by omega) (by omega) c4 (by rw [gB];omega))
    simp only [Vp]
    rw [bI (by omega),aF (by omega),aF c1,bK cz,aF (by omega),aF c2,nk_ _ _ (by omega),fD];rfl
theorem zh_(q:Seq)(w:T_1)(hw:w.length<=1000000):Fc_ q w=some (Nu q w):=by
  unfold Fc_ Nu
  rw [aF (by omega),Ev_,fD]
  by_cases h:eP q=true
  · rw [if_pos h,bK (by omega),if_pos h]
    by_cases h2:q.next.length=0
    · rw [bI (by omega),if_pos h2]
    rw [bK (by omega),if_neg h2,nk_ _ _ (by have:=(mW h).2.2.2.2;simp only [List.length_nil];omega),fD]
    simp only [List.nil_append]
    have:=px_ h w hw _ 0 0 q.front rfl (Nat.zero_le _) (by omega) (by omega) (by have:=(mW h).2.2.2.2;omega)
    rw [List.drop_zero]at this
    exact this
  rw [if_neg h,bI (by omega),if_neg h]
theorem q3_{q:Seq}(h:eP q=true)(w:T_1):(Nu q w).2.2.2=0:=by
  unfold Nu;rw [if_pos h];split<;>rfl
def nxQ(q:Seq)(s b:Nat):Int:=nth (nth q.next s []) b 0
def otQ(q:Seq)(s b:Nat):T_1:=nth (nth q.outs s []) b []
def dh(q:Seq):Nat->T_1->Option T_1
  |s,[]=>if nth q.fin s false=true then some (nth q.tail s []) else none
  |s,b::w=>if nxQ q s b.toNat<0 then none else (dh q (nxQ q s b.toNat).toNat w).map λy=>otQ q s b.toNat++y
def VY(q:Seq)(s:Nat):Prop:= ∃w y,dh q s w=some y
def ComQ(q:Seq)(s:Nat)(p:T_1):Prop:= ∀w y,dh q s w=some y->p <+: y
structure FrI (q:Seq) (l:aC) (m:B_1):Prop where
  ln:l.length=q.next.length
  mn:m.length=q.next.length
  no: ∀s,s<q.next.length->nth m s false=false->nth l s []=[]
  live: ∀s,s<q.next.length->nth m s false=true->VY q s
  up: ∀s,s<q.next.length->nth m s false=true-> ∀p,ComQ q s p->p <+: nth l s []
def Hq(q:Seq)(l:aC)(m:B_1)(s b:Nat):aC:=
  if 0<=nxQ q s b/\nth m (nxQ q s b).toNat false=true then [otQ q s b++nth l (nxQ q s b).toNat []] else []
def vV(q:Seq)(l:aC)(m:B_1)(s k:Nat):aC:=(if nth q.fin s false=true then [nth q.tail s []] else [])++(List.range k).flatMap (Hq q l m s)
def jU(q:Seq)(l:aC)(m:B_1)(s:Nat):aC:=vV q l m s 256
theorem lv_(q:Seq)(l:aC)(m:B_1)(s k:Nat):vV q l m s (k+1)=vV q l m s k++Hq q l m s k:=by
  simp [vV,List.range_succ,qH]
theorem Tj{q:Seq}{l:aC}{m:B_1}{s:Nat}{x:T_1}:x∈jU q l m s↔(nth q.fin s false=true/\x=nth q.tail s [])\/ ∃b,b<256/\0<=nxQ q s b/\nth m (nxQ q s b).toNat false=true/\x=otQ q s b++nth l (nxQ q s b).toNat []:=by
  unfold jU vV
  rw [List.mem_append]
  constructor
  · rintro (h|h)
    · split at h
      · rename_i c;rw [yK]at h;exact .inl ⟨c,h⟩
      cases h
    obtain ⟨b,hb,h⟩:=List.mem_flatMap.1 h
    unfold Hq at h
    split at h
    · rename_i c;rw [yK]at h;exact .inr ⟨b,List.mem_range.1 hb,c.1,c.2,h⟩
    cases h
  rintro (⟨c,h⟩|⟨b,hb,c1,c2,h⟩)
  · left;rw [if_pos c,yK];exact h
  right
  refine List.mem_flatMap.2 ⟨b,List.mem_range.2 hb,?_⟩
  unfold Hq
  rw [if_pos ⟨c1,c2⟩,yK];exact h
theorem V7{b:Nat}(hb:b<256):(UInt8.ofNat b).toNat=b:=by rw [UInt8.toNat_ofNat'];omega
theorem oG{q:Seq}(h:eP q=true){s b:Nat}(hs:s<q.next.length)(hb:b<256):nxQ q s b<(q.next.length:Int):=by
  have:=(iz_ h (s:=((s:Nat):Int)) (by omega) (by omega) (UInt8.ofNat b)).hi
  rw [V7 hb,iW]at this;exact this
theorem sh_{q:Seq}(h:eP q=true){s b:Nat}(hs:s<q.next.length)(hb:b<256): -1<=nxQ q s b:=by
  have:=(iz_ h (s:=((s:Nat):Int)) (by omega) (by omega) (UInt8.ofNat b)).lo
  rw [V7 hb,iW]at this;exact this
theorem Pv{q:Seq}(h:eP q=true){s b:Nat}(hs:s<q.next.length)(hb:b<256):(otQ q s b).length<=4096:=by
  have:=(iz_ h (s:=((s:Nat):Int)) (by omega) (by omega) (UInt8.ofNat b)).le
  rw [V7 hb,iW]at this;exact this
theorem xu_{q:Seq}{s b:Nat}(hb:b<256)(h0:0<=nxQ q s b){p:T_1}(hp:ComQ q s p): ∀w y,dh q (nxQ q s b).toNat w=some y->p <+: otQ q s b++y:=λw y hy=>by
  refine hp (UInt8.ofNat b::w) _ ?_
  rw [dh,V7 hb,if_neg (by omega),hy];rfl
theorem FrI.all{q:Seq}(hq:eP q=true){l:aC}{m:B_1}(h:FrI q l m){s:Nat}(hs:s<q.next.length){p:T_1}(hp:ComQ q s p): ∀x∈jU q l m s,p <+: x:=λx hx=>by
  rcases Tj.1 hx with ⟨c,rfl⟩|⟨b,hb,h0,hm,rfl⟩
  · refine hp [] _ ?_
    rw [dh,if_pos c]
  have hz:=oG hq hs hb
  have hv:=xu_ hb h0 hp
  obtain ⟨w,y,hy⟩:=h.live _ (show (nxQ q s b).toNat<_ by omega) hm
  have h1:=hv w y hy
  rcases List.prefix_or_prefix_of_prefix h1 (List.prefix_append (otQ q s b) y)with h2|⟨r,hr⟩
  · exact h2.trans (List.prefix_append _ _)
  subst hr
  rw [List.prefix_append_right_inj]
  refine h.up _ (by omega) hm r λw y hy=> ?_
  have:=hv w y hy
  rwa [List.prefix_append_right_inj]at this
theorem FrI.goes{q:Seq}(hq:eP q=true){l:aC}{m:B_1}(h:FrI q l m){s:Nat}(hs:s<q.next.length)(hn:jU q l m s≠[]):VY q s:=by
  obtain ⟨x,hx⟩:=List.exists_mem_of_ne_nil _ hn
  rcases Tj.1 hx with ⟨c,rfl⟩|⟨b,hb,h0,hm,rfl⟩
  · exact ⟨[],_,by rw [dh,if_pos c]⟩
  have hz:=oG hq hs hb
  obtain ⟨w,y,hy⟩:=h.live _ (show (nxQ q s b).toNat<_ by omega) hm
  refine ⟨UInt8.ofNat b::w,otQ q s b++y,?_⟩
  rw [dh,V7 hb,if_neg (by omega),hy];rfl
theorem FrI.put{q:Seq}(hq:eP q=true){l:aC}{m:B_1}(h:FrI q l m){s:Nat}(hs:s<q.next.length)(hn:jU q l m s≠[]):FrI q (l.set s (jf (jU q l m s))) (m.set s true):=by
  have hl:=h.ln
  have hm:=h.mn
  refine ⟨by rw [gy];exact hl,by rw [gy];exact hm,λz hz hz2=> ?_,λz hz hz2=> ?_,λz hz hz2 p hp=> ?_⟩
  · rw [jO]at hz2 ⊢
    by_cases c:s=z
    · rw [if_pos ⟨c,by omega⟩]at hz2;cases hz2
    rw [if_neg (λq=>c q.1)]at hz2 ⊢;exact h.no z hz hz2
  · rw [jO]at hz2
    by_cases c:s=z
    · subst c;exact h.goes hq hs hn
    rw [if_neg (λq=>c q.1)]at hz2;exact h.live z hz hz2
  rw [jO]at hz2 ⊢
  by_cases c:s=z
  · subst c
    rw [if_pos ⟨rfl,by omega⟩]
    exact kk_ hn (h.all hq hs hp)
  rw [if_neg (λq=>c q.1)]at hz2 ⊢;exact h.up z hz hz2 p hp
def Np(q:Seq)(l:aC)(m:B_1)(s:Nat):Prop:=(nth m s false=true->nth l s []=jf (jU q l m s))/\(nth m s false=false->jU q l m s=[])
theorem np_{q:Seq}(hq:eP q=true){l:aC}{m:B_1}(hd: ∀s,s<q.next.length->Np q l m s): ∀(w:T_1) (s:Nat) (y:T_1),s<q.next.length->dh q s w=some y->nth m s false=true/\nth l s [] <+: y
  |[],s,y,hs,hy=>by
    rw [dh]at hy
    split at hy
    · rename_i c
      cases hy
      have hmem:nth q.tail s []∈jU q l m s:=Tj.2 (.inl ⟨c,rfl⟩)
      cases hm:nth m s false with
      |false=>have:=(hd s hs).2 hm;rw [this]at hmem;cases hmem
      |true=>exact ⟨rfl,by rw [(hd s hs).1 hm];exact LW hmem⟩
    cases hy
  | b :: w, s, y, hs, hy => by
    rw [dh]at hy
    have hb:=UInt8.toNat_lt b
    split at hy
    · cases hy
    rename_i c
    have hz:=oG hq hs (show b.toNat<256 by omega)
    cases ho:dh q (nxQ q s b.toNat).toNat w with
    |none=>rw [ho]at hy;cases hy
    |some y'=>
      rw [ho]at hy
      cases hy
      obtain ⟨h1,h2⟩:=np_ hq hd w _ y' (show (nxQ q s b.toNat).toNat<_ by omega) ho
      have hmem:otQ q s b.toNat++nth l (nxQ q s b.toNat).toNat []∈jU q l m s:=Tj.2 (.inr ⟨b.toNat,by omega,by omega,h1,rfl⟩)
      have h3:otQ q s b.toNat++nth l (nxQ q s b.toNat).toNat [] <+: otQ q s b.toNat++y':=by rwa [List.prefix_append_right_inj]
      cases hm:nth m s false with
      |false=>have:=(hd s hs).2 hm;rw [this]at hmem;cases hmem
      |true=>exact ⟨rfl,by rw [(hd s hs).1 hm];exact (LW hmem).trans h3⟩
structure FrOk (q:Seq) (l:aC) (m:B_1):Prop where
  ln:l.length=q.next.length
  mn:m.length=q.next.length
  live: ∀s,s<q.next.length->(nth m s false=true↔VY q s)
  no: ∀s,s<q.next.length->nth m s false=false->nth l s []=[]
  com: ∀s,s<q.next.length->ComQ q s (nth l s [])
  up: ∀s,s<q.next.length->nth m s false=true-> ∀p,ComQ q s p->p <+: nth l s []
  le: ∀s,s<q.next.length->(nth l s []).length<=4194304
theorem FrI.ok{q:Seq}(hq:eP q=true){l:aC}{m:B_1}(h:FrI q l m)(hle: ∀s,s<q.next.length->nth m s false=true->(nth l s []).length<=4194304)(hd: ∀s,s<q.next.length->Np q l m s):FrOk q l m:=
  ⟨h.ln,h.mn,λs hs=>⟨h.live s hs,λ⟨w,y,hy⟩=>(np_ hq hd w s y hs hy).1⟩,h.no,λs hs w y hy=>(np_ hq hd w s y hs hy).2,h.up,λs hs=>by
    cases c:nth m s false with
    |true=>exact hle s hs c
    |false=>rw [h.no s hs c];exact Nat.zero_le _⟩
theorem FrOk.uniq{q:Seq}{l l':aC}{m m':B_1}(h:FrOk q l m)(k:FrOk q l' m'):l=l'/\m=m':=by
  have hm:m=m':=DK false (by rw [h.mn,k.mn]) λs hs=>by
    have hs:s<q.next.length:=by rw [<-h.mn];exact hs
    rw [Bool.eq_iff_iff,h.live s hs,k.live s hs]
  subst hm
  refine ⟨DK [] (by rw [h.ln,k.ln]) λs hs=> ?_,rfl⟩
  have hs:s<q.next.length:=by rw [<-h.ln];exact hs
  cases hc:nth m s false with
  |false=>rw [h.no s hs hc,k.no s hs hc]
  |true=>exact pz_ (k.up s hs hc _ (h.com s hs)) (h.up s hs hc _ (k.com s hs))
def LeQ(n:Nat)(l:aC)(m:B_1)(l':aC)(m':B_1):Prop:= ∀s,s<n->nth m s false=true->nth m' s false=true/\nth l' s [] <+: nth l s []
theorem LeQ.all{q:Seq}(hq:eP q=true){l l':aC}{m m':B_1}(h:LeQ q.next.length l m l' m'){s:Nat}(hs:s<q.next.length): ∀x∈jU q l m s, ∃x'∈jU q l' m' s,x' <+: x:=λx hx=>by
  rcases Tj.1 hx with ⟨c,rfl⟩|⟨b,hb,h0,hm,rfl⟩
  · exact ⟨_,Tj.2 (.inl ⟨c,rfl⟩),List.prefix_refl _⟩
  have hz:=oG hq hs hb
  obtain ⟨h1,h2⟩:=h _ (show (nxQ q s b).toNat<_ by omega) hm
  exact ⟨_,Tj.2 (.inr ⟨b,hb,h0,h1,rfl⟩),by rwa [List.prefix_append_right_inj]⟩
theorem LeQ.lcp{q:Seq}(hq:eP q=true){l l':aC}{m m':B_1}(h:LeQ q.next.length l m l' m'){s:Nat}(hs:s<q.next.length)(hn:jU q l m s≠[]):jf (jU q l' m' s) <+: jf (jU q l m s):=
  kk_ hn λx hx=>by
    obtain ⟨x',h1,h2⟩:=h.all hq hs x hx
    exact (LW h1).trans h2
def v9_(q:Seq)(l:aC)(m:B_1):Prop:= ∀s,s<q.next.length->nth m s false=true->jU q l m s≠[]/\jf (jU q l m s) <+: nth l s []
theorem z8_{q:Seq}{l:aC}{m:B_1}(h:v9_ q l m){s:Nat}(hs:s<q.next.length)(hl:l.length=q.next.length)(hm:m.length=q.next.length):LeQ q.next.length l m (l.set s (jf (jU q l m s))) (m.set s true):=λz hz hz2=>by
  rw [jO,jO]
  by_cases c:s=z
  · subst c
    rw [if_pos ⟨rfl,by omega⟩,if_pos ⟨rfl,by omega⟩]
    exact ⟨rfl,(h s hs hz2).2⟩
  rw [if_neg (λq=>c q.1),if_neg (λq=>c q.1)]
  exact ⟨hz2,List.prefix_refl _⟩
theorem v9_.put{q:Seq}(hq:eP q=true){l:aC}{m:B_1}(h:v9_ q l m){s:Nat}(hs:s<q.next.length)(hl:l.length=q.next.length)(hm:m.length=q.next.length)(hn:jU q l m s≠[]):v9_ q (l.set s (jf (jU q l m s))) (m.set s true):=λz hz hz2=>by
  have hle:=z8_ h hs hl hm
  rw [jO]at hz2
  by_cases c:s=z
  · subst c
    obtain ⟨x,hx⟩:=List.exists_mem_of_ne_nil _ hn
    obtain ⟨x',h1,_⟩:=hle.all hq hs x hx
    refine ⟨List.ne_nil_of_mem h1,?_⟩
    have:=hle.lcp hq hs hn
    rw [jO (l:=l),if_pos ⟨rfl,by omega⟩]
    exact this
  rw [if_neg (λq=>c q.1)]at hz2
  obtain ⟨k1,k2⟩:=h z hz hz2
  obtain ⟨x,hx⟩:=List.exists_mem_of_ne_nil _ k1
  obtain ⟨x',h1,_⟩:=hle.all hq hz x hx
  refine ⟨List.ne_nil_of_mem h1,?_⟩
  have:=hle.lcp hq hz k1
  rw [jO (l:=l),if_neg (λq=>c q.1)]
  exact this.trans k2
theorem vX{q:Seq}(h:eP q=true){s:Nat}(hs:s<q.next.length):(nth q.next s []).length=256/\(nth q.outs s []).length=256:=by
  have hst:=hk_ h (s:=((s:Nat):Int)) (by omega) (by omega)
  rw [iW]at hst
  simp only [EH,N_,Bool.and_eq_true,jV]at hst
  exact hst.2.1
theorem Ia{q:Seq}(h:eP q=true){s:Nat}(hs:s<q.next.length):(nth q.tail s []).length<=4096/\(nth q.fin s false=true\/nth q.tail s []=[]):=by
  have hst:=hk_ h (s:=((s:Nat):Int)) (by omega) (by omega)
  rw [iW]at hst
  simp only [EH,Bool.and_eq_true,Bool.or_eq_true,jV]at hst
  exact hst.1
theorem Tm{q:Seq}(h:eP q=true){s b:Nat}(hs:s<q.next.length)(hb:b<256)(hn:nxQ q s b<0):otQ q s b=[]:=by
  have hst:=hk_ h (s:=((s:Nat):Int)) (by omega) (by omega)
  rw [iW]at hst
  simp only [EH,N_,Bool.and_eq_true,jV]at hst
  have hc:=Nw.1 hst.2.2 b hb
  simp only [FI,Bool.and_eq_true,Bool.or_eq_true,jV]at hc
  have h1:nth (nth q.next s []) b 0<0:=hn
  have h2:=hc.1.1.1
  rcases hc.2 with c|c
  · omega
  exact c
end Go.Proofs.YtchebnpdnfhenaaGreatDoor
end

noncomputable section
namespace Go.E
open Go
theorem mt_{P:Program}{w:World}(t ty e:TypeId)(i:TypeInfo)(ht:P.underlying t=some (.slice e))(hi:P.info? e=some i)
    (g o sLen sCap:Nat) (cur:Array Value) (hg:w.heap[g]? =some (.cells cur e (0,0)))
    (a:Addr) (m c:Nat) (news:List Value) (hl:news.length=m * i.size) (hnews: ∀j u,news[j]? =some u->w.cell? (a.add j)=some u) (h1: ∀u∈news,u.oneCell'=true)
    (hroom:sLen+m<=sCap) (hfit:o+sLen * i.size+news.length<=cur.size):
    (Builtin.append_ #[t,t] ty #[.slice (some ⟨g,o,none⟩) sLen sCap,.slice (some a) m c]).run P w=
      .ok (.slice (some ⟨g,o,none⟩) (sLen+m) sCap) (w.setRow g (cur.toList.take (o+sLen * i.size)++news++cur.toList.drop (o+sLen * i.size+news.length)).toArray):=by
  have hf:=run_firstCells_some (P:=P) w i.size m a m c news hl hnews
  have hst:=run_storeCells_at P g (o+sLen * i.size) e news 0 cur w hg (by simpa using hfit) h1
  simp only [Nat.add_zero]at hst
  simp [Builtin.append_,run_underlying ht,sizeOf,typeInfo,hi,Builtin.lenOf,hroom,hf,Addr.add_lit,hst]
def OC(size k:Nat):Value->Value
  | .slice a n c=> .slice (a.map λb=>b.add (k * size)) (n - k) (c - k)
  |v=>v
theorem pc_(size:Nat)(v:Value):OC size 0 v=v:=by
  cases v<;>simp only [OC]
  rename_i a n c
  cases a<;>simp [Addr.add]
theorem ta_(size k:Nat)(v:Value):(OC size k v).ownBlock=v.ownBlock:=by
  cases v<;>simp only [OC]
  rename_i a n c
  cases a with
  |none=>rfl
  |some b=>simp only [Value.ownBlock,Option.map_some,Addr.add];split<;>rfl
def View(size k:Nat)(v0 v:Value)(n:Nat):Prop:=v=OC size k v0\/n=0/\v.ownBlock=v0.ownBlock/\ ∃a,v= .slice a 0 0
theorem View.block{size k:Nat}{v0 v:Value}{n:Nat}(h:View size k v0 v n):v.ownBlock=v0.ownBlock:=by
  rcases h with rfl|⟨_,h,_⟩
  · exact ta_ ..
  exact h
def Ql{α:Type}(E size:Nat)(enc:α->List Value)(v:Value)(L:List α)(w:World):Prop:=w.ownsRow 0 E size v L.length (L.flatMap enc)/\ ∀u∈L.flatMap enc,u.oneCell'=true
def Res.queS {α : Type} (E size : Nat) (enc : α -> List Value) (v : Value) (l : List α) : Res where
  bl:=v.ownBlock.toList
  holds w:= ∃(L:List α) (v0:Value) (k:Nat),Ql E size enc v0 L w/\k<=L.length/\l=L.drop k/\View size k v0 v l.length/\l.length<=281474976710656
  lt w b hb h:=by
    obtain ⟨L,v0,k,h,_,_,hv,_⟩:=h
    exact (h.1.lt b (by rw [<-hv.block];exact Option.mem_toList.1 hb)).2
  keep w w' hb h:=by
    obtain ⟨L,v0,k,⟨h,ho⟩,h1,h2,hv,h3⟩:=h
    refine ⟨L,v0,k,⟨⟨h.1,?_⟩,ho⟩,h1,h2,hv,h3⟩
    have hbl:=hv.block
    rcases h.2 with hn|⟨g,cap,cur,rfl,h0,hg,rest⟩
    · exact .inl hn
    exact .inr ⟨g,cap,cur,rfl,h0,by rw [hb g (by rw [hbl];exact Option.mem_toList.2 rfl)];exact hg,rest⟩
section
variable {α:Type} {E size:Nat} {enc:α->List Value} {v:Value} {l:List α}
theorem Reach.cz_{w0:World}{C:List Nat}{σ0 σ:aj}{w:World}{F:List Res}(h:Reach w0 C σ0 σ w (φ E size enc v l::F)):Reach w0 C σ0 σ w (Res.queS E size enc v l::F):=
  h.G9 v.ownBlock v.ownBlock rfl rfl rfl rfl rfl (Nat.le_refl _) (Nat.le_refl _) (λ_ _ _=>rfl) ⟨l,v,0,⟨(h.holds _ (jm ..)).1,(h.holds _ (jm ..)).2.1⟩,Nat.zero_le _,rfl,.inl (pc_ size v).symm,(h.holds _ (jm ..)).2.2⟩ (λ_ hb=> .inl hb)
theorem TC.cz_{X:Ctx}{Q:QP}{c:Code}{e:Env}{σ:aj}{F:List Res}(k:TC X Q c e σ (Res.queS E size enc v l::F)):TC X Q c e σ (φ E size enc v l::F):=λw a hw ha=>k w a (hw.by λ_ h=>h.cz_) ha
theorem que_sl{w:World}(h:(Res.queS E size enc v l).holds w):nb_ v l.length/\l.length<=281474976710656:=by
  obtain ⟨L,v0,k,h,hk,rfl,hv,hb⟩:=h
  obtain ⟨a,c,rfl,h0,hc⟩:=isSl_row h.1
  rw [List.length_drop]at hv hb ⊢
  rcases hv with rfl|⟨h1, -,a',rfl⟩
  · refine ⟨⟨_,_,rfl,λhn=> ?_,by omega⟩,by omega⟩
    cases a with
    |none=>obtain ⟨h1,h2⟩:=h0 rfl;omega
    |some b=>cases hn
  rw [h1];exact ⟨⟨a',0,rfl,λ_=>⟨rfl,rfl⟩,Nat.le_refl _⟩,by omega⟩
theorem tm_{σ:aj}{H:List Res}{q:Nat}(hq:H[q]? =some (Res.queS E size enc v l)): ∀w,jR σ H w->nb_ v l.length/\l.length<=281474976710656:=λw hw=>que_sl (hw.2 _ (List.mem_of_getElem? hq))
theorem sd_{w:World}(h:(Res.queS E size enc v l).holds w):(∃(L:List α) (g k c:Nat) (cur:Array Value),k<=L.length/\l=L.drop k/\v= .slice (some ⟨g,k * size,none⟩) (L.length - k) (c - k)/\w.heap[g]? =some (.cells cur E (0,0))/\L.length<=c/\c<=maxLen/\cur.size=c * size/\cur.toList.take (L.length * size)=L.flatMap enc/\(L.flatMap enc).length=L.length * size/\(∀u∈L.flatMap enc,u.oneCell'=true)/\l.length<=281474976710656)\/l=[]/\ ∃a,v= .slice a 0 0:=by
  obtain ⟨L,v0,k,h,hk,rfl,hv,hbig⟩:=h
  rw [List.length_drop]at hv
  obtain ⟨⟨hl,h1⟩,hone⟩:=h
  rcases hv with rfl|⟨h7, -,a,rfl⟩
  · rcases h1 with ⟨rfl,hn⟩|⟨g,c,cur,rfl, -,hg,h3,h4,h5,h6⟩
    · refine .inr ⟨o7 (by rw [List.length_drop];omega),none,?_⟩
      simp [OC]
    refine .inl ⟨L,g,k,c,cur,hk,rfl,?_,hg,h3,h4,h5,h6,hl,hone,hbig⟩
    unfold OC
    simp only [Option.map_some,DJ,Nat.zero_add]
  exact .inr ⟨o7 (by rw [List.length_drop];exact h7),a,rfl⟩
theorem t4_{w:World}(h:(Res.queS E size enc v l).holds w)(h0:0<l.length): ∃(L:List α) (g k c:Nat) (cur:Array Value),k<L.length/\l=L.drop k/\v= .slice (some ⟨g,k * size,none⟩) (L.length - k) (c - k)/\w.heap[g]? =some (.cells cur E (0,0))/\L.length<=c/\c<=maxLen/\cur.size=c * size/\cur.toList.take (L.length * size)=L.flatMap enc/\(L.flatMap enc).length=L.length * size/\(∀u∈L.flatMap enc,u.oneCell'=true)/\l.length<=281474976710656:=by
  rcases sd_ h with ⟨L,g,k,c,cur,hk,rfl,h⟩|⟨rfl, -⟩
  · rw [List.length_drop]at h0;exact ⟨L,g,k,c,cur,by omega,rfl,h⟩
  cases h0
theorem n6_{size:Nat}(hl: ∀x,(enc x).length=size): ∀(L:List α) (k:Nat),(L.drop k).flatMap enc=(L.flatMap enc).drop (k * size)
  |L,0=>by simp
  |[],k+1=>by simp
  |x::L,k+1=>by
    rw [List.drop_succ_cons,n6_ hl L k,List.flatMap_cons,Nat.add_mul,Nat.one_mul,Nat.add_comm,<-hl x,List.drop_length_add_append]
theorem OpVal.da_{P:Program}{n:Nat}{e:Env}{σ:aj}{H:List Res}{o:Oper}{x:Operand}{T q i:Nat}{u:Value}(d:α)(ho:o.op= .load T x)(hA:aggOf P T=some false)(hx:ev e x=oN v (i * 1))(hq:H[q]? =some (Res.queS E 1 enc v l))(hl: ∀x,(enc x).length=1)(hi:i<l.length)
    (hu:(enc (nth l i d))[0]? =some u):OpVal P n o e σ H u:=λw hw=>by
  have hQ:=hw.2 _ (List.mem_of_getElem? hq)
  obtain ⟨L,g,k,c,cur,hk,rfl,rfl,hg,h3,h4,h5,h6,h7,h8,h9⟩:=t4_ hQ (by omega)
  rw [List.length_drop]at hi
  have hn:nth (L.drop k) i d=nth L (k+i) d:=by unfold nth;simp [List.getD_eq_getElem?_getD,List.getElem?_drop]
  rw [hn]at hu
  have hx':ev e x=loc g (k+i):=by
    rw [hx];unfold oN loc;simp only [DJ,Nat.mul_one]
  have hc:cur.toList[k+i]? =some u:=by
    have h10:(L.flatMap enc)[(k+i) * 1+0]? =some u:=by rw [YM hl L (k+i) 0 _ (getD_some L (by omega) d) (by omega)];exact hu
    rw [<-h6,List.getElem?_take]at h10
    split at h10
    · simpa using h10
    cases h10
  exact OpVal.aZ (n:=n) (H:=[κ g cur E]) (i:=0) ho hA hx' rfl (by simpa using hc) w ⟨hw.1,λr hr=>by rw [List.mem_singleton.1 hr];exact hg⟩
end
section
variable {X:Ctx} {e:Env} {σ:aj} {F:List Res} {o:Oper} {x y:Operand} {K:Env->aj->List Res->Prop} {α:Type} {E size d:Nat} {enc:α->List Value} {v:Value} {l:List α}
theorem OpOk.popQ {T i : Nat} {k : IntKind} (ho : o.op = .slice T x (some y) none none) (ht : X.P.underlying T = some (.slice E)) (hs : szOf X.P E = some size) (hd : o.dst = some d) (hn : Nat.blt d X.n = true) (hx : ev e x = v) (hy : ev e y = .int k (i : Nat)) (hi : i <= l.length) (h0 : 0 < l.length)
    (kk: ∀a c,K (upd e d (.slice a (l.drop i).length c)) σ (Res.queS E size enc (.slice a (l.drop i).length c) (l.drop i)::F)):OpOk X o e σ (Res.queS E size enc v l::F) K:=by
  intro u0 C0 τ0 w a hw ha K' Q hK
  have hQ:=hw.holds _ (jm ..)
  obtain ⟨L,g,q,c,cur,hk,rfl,rfl,hg,h3,h4,h5,h6,h7,h8,h9⟩:=t4_ hQ h0
  rw [List.length_drop]at hi
  have hlen:((L.drop q).drop i).length=L.length - q - i:=by rw [List.length_drop,List.length_drop]
  have hrow:Ql E size enc (.slice (some ⟨g,0,none⟩) L.length c) L w:=⟨⟨h7,.inr ⟨g,c,cur,rfl,Nat.zero_le _,hg,h3,h4,h5,h6⟩⟩,h8⟩
  obtain ⟨a',hrun,hV⟩: ∃a',(execOp (ev e) o).run X.P w= .ok (.value (.slice a' (L.length - q - i) (c - q - i))) w/\(Value.slice a' (L.length - q - i) (c - q - i)).ownBlock=(Value.slice (some ⟨g,0,none⟩) L.length c).ownBlock/\View size (q+i) (.slice (some ⟨g,0,none⟩) L.length c) (.slice a' (L.length - q - i) (c - q - i)) (L.length - q - i):=by
    by_cases hc:c - q=i
    · refine ⟨some ⟨g,q * size,none⟩,?_,rfl,.inr ⟨by omega,rfl,?_⟩⟩
      · have h1:(i:Int)<=((c - q:Nat):Int):=by omega
        have h2:(i:Int)<=((L.length - q:Nat):Int):=by omega
        simp [execOp,ho,hx,hy,Instr.sliceAt,Instr.slice,Instr.sliceBounds,Instr.sliceBound,asIntOf,run_underlying ht,zC hs]
        rw [if_pos hi,if_pos hc]
      rw [show L.length - q - i=0 by omega,show c - q - i=0 by omega];exact ⟨_,rfl⟩
    refine ⟨some ⟨g,(q+i) * size,none⟩,?_,rfl,.inl ?_⟩
    · simp [execOp,ho,hx,hy,Instr.sliceAt,Instr.slice,Instr.sliceBounds,Instr.sliceBound,asIntOf,run_underlying ht,zC hs]
      rw [if_pos hi,if_neg hc,DJ,<-Nat.add_mul]
    unfold OC
    simp only [Option.map_some,DJ,Nat.zero_add,Nat.sub_sub]
  have hR:Reach u0 C0 τ0 σ w (Res.queS E size enc (.slice a' (L.length - q - i) (c - q - i)) ((L.drop q).drop i)::F):=
    hw.G9 (some g) (some g) rfl (by show (Value.slice a' (L.length - q - i) (c - q - i)).ownBlock.toList=_;rw [hV.1];rfl) rfl rfl rfl (Nat.le_refl _) (Nat.le_refl _) (λ_ _ _=>rfl) ⟨L,_,q+i,hrow,by omega,by rw [List.drop_drop],by rw [hlen];exact hV.2,by rw [List.length_drop]at h9;omega⟩ (λ_ hb=> .inl hb)
  have hk2:=kk a' (c - q - i)
  rw [hlen]at hk2
  refine Oper.vZ (w':=w) (v:= .slice a' (L.length - q - i) (c - q - i)) ?_ (hK _ _ _ _ _ hk2 hR (yh ha hd hn _))
  rw [ha.eval'];exact hrun
theorem OpOk.cv_ {T nY : Nat} {z u : Value} {l2 : List α} {ty : TypeId} (ho : o.op = .call { callee := .builtin .append, args := #[x, y], argTypes := #[T, ty] }) (hty : ty = T) (ht : X.P.underlying T = some (.slice E)) (hs : szOf X.P E = some size) (hby : byOf X.P E = some nY) (hz : zeroOf X.P E = some z)
    (hd:o.dst=some d) (hn:Nat.blt d X.n=true) (hsz:0<size) (hzs:z.cells.size=size) (hl: ∀x,(enc x).length=size) (hx:ev e x=v) (hy:ev e y=u) (hsrc:s8_ σ F size enc u l2) (hb0:(l.length+l2.length) * nY<=140737488355328) (qw:0<nY) (h2:0<l2.length)
    (k: ∀a c,K (upd e d (.slice a (l++l2).length c)) σ (Res.queS E size enc (.slice a (l++l2).length c) (l++l2)::F)):OpOk X o e σ (Res.queS E size enc v l::F) K:=by
  subst hty
  obtain ⟨i,hi,hsi⟩:=UN hs
  have hiz:i.zero=some z:=by simpa [zeroOf,hi]using hz
  have hib:i.bytes=nY:=by simpa [byOf,hi]using hby
  have hm0:l.length+l2.length<=140737488355328:=Nat.le_trans (Nat.le_mul_of_pos_right _ qw) hb0
  have hm:l.length+l2.length<=maxLen:=by unfold maxLen;omega
  intro u0 C0 τ0 w a hw ha K' Q hK
  have hQ:=hw.holds _ (jm ..)
  have hF:jR σ F w:=⟨hw.fit,λr hr=>hw.holds r (pF _ hr)⟩
  have hsrc':t3_ σ F size u l2.length (l2.flatMap enc):=by
    rcases hsrc with h|⟨E',q,h⟩
    · exact .inl h.rv
    exact .inr ⟨E',q,h⟩
  have hyl:(l2.flatMap enc).length=l2.length * size:=um hl l2
  rcases hsrc'.spec hF with ⟨_,h0,_⟩|⟨ad,c2,rfl,hl2,hc2,h1⟩
  · omega
  have hone2: ∀q∈(l++l2).flatMap enc,(∀u∈l.flatMap enc,u.oneCell'=true)->q.oneCell'=true:=λq hq h0=>by
    rw [List.flatMap_append]at hq
    rcases List.mem_append.1 hq with hq|hq
    · exact h0 q hq
    exact h1 q hq
  have hfl:(l.flatMap enc).length=l.length * size:=um hl l
  -- the end: a new row with all of it
  have fin: ∀(vb:Value) (cap:Nat),v=vb->(∀u∈l.flatMap enc,u.oneCell'=true)->cap<l.length+l2.length->
      (Builtin.append_ #[ty,ty] o.type #[vb,.slice (some ad) l2.length c2]).run X.P w=
        .ok (.slice (some ⟨w.heap.size,0,none⟩) (l.length+l2.length) (grownCap w (l.length+l2.length) cap E)) (w.drew.alloc (.cells ((l.flatMap enc).toArray++(l2.flatMap enc).toArray++Builtin.zeroCells z.cells (grownCap w (l.length+l2.length) cap E - (l.length+l2.length))) E))->
      o.wpIn (fence X.rnd) 0 X.P a w K' Q:=λvb cap hvb hone hcap hrun=>by
    subst hvb
    have hge:=grownCap_ge w (l.length+l2.length) cap E
    have hcm:grownCap w (l.length+l2.length) cap E<=maxLen:=grownCap_le_maxLen w (l.length+l2.length) cap E hm
    have hrow:Ql E size enc (.slice (some ⟨w.heap.size,0,none⟩) (l.length+l2.length) (grownCap w (l.length+l2.length) cap E)) (l++l2) (w.drew.alloc (.cells ((l.flatMap enc).toArray++(l2.flatMap enc).toArray++Builtin.zeroCells z.cells (grownCap w (l.length+l2.length) cap E - (l.length+l2.length))) E)):=by
      refine ⟨⟨by rw [um hl],.inr ⟨w.heap.size,_,_,by rw [gB],Nat.zero_le _,heap_alloc_new w.drew _,by rw [gB];exact hge,hcm,?_,?_⟩⟩,λq hq=>hone2 q hq hone⟩
      · simp only [Array.size_append,List.size_toArray,size_zeroCells,hzs,hfl,hyl,<-Nat.add_mul]
        congr 1
        omega
      simp only [Array.toList_append,qH,List.flatMap_append]
      rw [<-qH,gB,Nat.add_mul,<-hfl,<-hyl,<-gB]
      exact List.take_left
    have hR:Reach u0 C0 τ0 σ (w.drew.alloc (.cells ((l.flatMap enc).toArray++(l2.flatMap enc).toArray++Builtin.zeroCells z.cells (grownCap w (l.length+l2.length) cap E - (l.length+l2.length))) E)) (Res.queS E size enc (.slice (some ⟨w.heap.size,0,none⟩) (l.length+l2.length) (grownCap w (l.length+l2.length) cap E)) (l++l2)::F):=
      hw.G9 (Value.ownBlock v) (some w.heap.size) rfl rfl rfl rfl rfl (by simp) (Nat.le_succ _) (λk hk _=>gi_ w.drew _ k hk) ⟨l++l2,_,0,hrow,Nat.zero_le _,rfl,.inl (pc_ size _).symm,by rw [gB];omega⟩ (λb hb=> .inr (by cases hb;exact Nat.le_refl _))
    have hk2:=k (some ⟨w.heap.size,0,none⟩) (grownCap w (l.length+l2.length) cap E)
    rw [gB]at hk2
    refine Oper.vZ (w':=_) (v:= .slice (some ⟨w.heap.size,0,none⟩) (l.length+l2.length) (grownCap w (l.length+l2.length) cap E)) ?_ (hK _ _ _ _ _ hk2 hR (yh ha hd hn _))
    rw [ha.eval']
    simp [execOp,ho,resolve,invoke,builtin,hx,hy,hrun]
  subst hsi hib
  rcases sd_ hQ with ⟨L,g,q,c,cur,hk,rfl,rfl,hg,h3,h4,h5,h6,h7,h8,h9⟩|⟨rfl,b,rfl⟩
  · rw [List.length_drop]at *
    have holds: ∀j u,((L.drop q).flatMap enc)[j]? =some u->w.cell? ((⟨g,q * i.size,none⟩:Addr).add j)=some u:=λj u hj=>by
      rw [n6_ hl,List.getElem?_drop,<-h6,List.getElem?_take]at hj
      split at hj
      · rw [DJ]
        simp only [World.cell?,hg,Option.isSome_none,Bool.false_eq_true,if_false]
        rw [<-Array.getElem?_toList];exact hj
      cases hj
    have hone: ∀u∈(L.drop q).flatMap enc,u.oneCell'=true:=λu hu=>h8 u (by rw [n6_ hl]at hu;exact List.mem_of_mem_drop hu)
    by_cases hroom:L.length - q+l2.length<=c - q
    · have e1:q * i.size+(L.length - q) * i.size=L.length * i.size:=by rw [<-Nat.add_mul];congr 1;omega
      have hfit:q * i.size+(L.length - q) * i.size+(l2.flatMap enc).length<=cur.size:=by
        rw [e1,hyl,h5,<-Nat.add_mul];exact Nat.mul_le_mul_right _ (by omega)
      have hr:=mt_ (P:=X.P) ty o.type E i ht hi g (q * i.size) (L.length - q) (c - q) cur hg ad l2.length c2 (l2.flatMap enc) hl2 hc2 h1 hroom hfit
      rw [e1]at hr
      have hrow:Ql E i.size enc (.slice (some ⟨g,0,none⟩) (L.length+l2.length) c) (L++l2) (w.setRow g (cur.toList.take (L.length * i.size)++l2.flatMap enc++cur.toList.drop (L.length * i.size+(l2.flatMap enc).length)).toArray):=by
        refine ⟨⟨by rw [um hl],.inr ⟨g,c,_,by rw [gB],Nat.zero_le _,setRow_heap w g cur _ E _ hg,by rw [gB];omega,h4,?_,?_⟩⟩,λu hu=> ?_⟩
        · simp only [List.size_toArray,gB,List.length_take,List.length_drop,Array.length_toList]
          omega
        · rw [h6,List.flatMap_append,gB,Nat.add_mul,<-h7,<-hyl,<-gB]
          exact List.take_left
        rw [List.flatMap_append]at hu
        rcases List.mem_append.1 hu with hu|hu
        · exact h8 u hu
        exact h1 u hu
      have hR:Reach u0 C0 τ0 σ (w.setRow g (cur.toList.take (L.length * i.size)++l2.flatMap enc++cur.toList.drop (L.length * i.size+(l2.flatMap enc).length)).toArray) (Res.queS E i.size enc (.slice (some ⟨g,q * i.size,none⟩) (L.length - q+l2.length) (c - q)) (L.drop q++l2)::F):=
        hw.G9 (some g) (some g) rfl rfl rfl rfl rfl (by simp) (Nat.le_refl _) (λk hk hn=>setRow_other w g k _ (λe=>hn (by rw [e]))) ⟨L++l2,_,q,hrow,by rw [gB];omega,by rw [List.drop_append_of_le_length (by omega)],.inl (by
          unfold OC
          simp only [Option.map_some,DJ,Nat.zero_add]
          congr 1;omega),by rw [gB,List.length_drop];omega⟩ (λb hb=> .inl hb)
      have hk2:=k (some ⟨g,q * i.size,none⟩) (c - q)
      rw [gB,List.length_drop]at hk2
      refine Oper.vZ (w':=_) (v:= .slice (some ⟨g,q * i.size,none⟩) (L.length - q+l2.length) (c - q)) ?_ (hK _ _ _ _ _ hk2 hR (yh ha hd hn _))
      rw [ha.eval']
      simp [execOp,ho,resolve,invoke,builtin,hx,hy,hr]
    have hr:=run_append_grow (P:=X.P) (w:=w) ty o.type E i z ht hi hiz ⟨g,q * i.size,none⟩ (L.length - q) (c - q) ((L.drop q).flatMap enc) hfl holds ad l2.length c2 (l2.flatMap enc) hl2 hc2 (by omega) (by omega) (growslice_fits (by omega) hb0)
    exact fin _ (c - q) rfl hone (by omega) hr
  simp only [List.length_nil,Nat.zero_add,List.flatMap_nil]at *
  cases b with
  |some b=>
    have hr:=run_append_grow (P:=X.P) (w:=w) ty o.type E i z ht hi hiz b 0 0 [] (by simp) (by simp) ad l2.length c2 (l2.flatMap enc) hl2 hc2 (by omega) (by omega) (growslice_fits (by omega) (by simpa using hb0))
    simp only [Nat.zero_add]at hr
    exact fin _ 0 rfl (by simp) h2 hr
  |none=>
    have hr:=run_append_nil (P:=X.P) w ty o.type E i z ht hi hiz ad l2.length c2 (l2.flatMap enc) hl2 hc2 (by omega) (by omega) (by omega)
    exact fin _ 0 rfl (by simp) h2 (by simpa using hr)
end
end Go.E
end
