/- Parts of a proof, one behind the other: what a machine reaches, functions decompiled, plain lemmas. Conditions stand with each lemma. -/
import Derived.Test.YtcfgkcfcddfccaaGreatDoorB436a4c84ed
import Derived.Shelf.SlSortCmp.NoneTotal
import Derived.Shelf.Sort.Plain
import Derived.Test.YtcfgkcfcddfccaaGreatDoorChecked

set_option linter.unusedVariables false
set_option linter.unusedSimpArgs false
set_option linter.unusedSectionVars false
set_option maxRecDepth 100000
set_option maxHeartbeats 8000000
variable {ay aC aK bW cu XW:Option Go.Addr}{t_ yR fM o9 ig au aJ aF bV b_ Xq:Nat}

noncomputable section
namespace Go.E
open Go Go.E.OpVal
theorem agF{P:Program}{t:TypeId}{v:Option Bool}(h:aggOf P t=v:=by first|with_reducible exact vS|with_reducible exact xj_|with_reducible exact zb_|with_reducible exact v9_|with_reducible exact oV|with_reducible exact ag35|with_reducible exact wr_|with_reducible exact ag9|with_reducible exact uv_|with_reducible exact zc_|with_reducible exact ag4|with_reducible exact MQ|with_reducible exact zu_|with_reducible exact ag65|with_reducible exact ag27|with_reducible exact zF|with_reducible exact NH|with_reducible exact ag138|with_reducible exact LY|with_reducible exact ag137|with_reducible exact ag192|with_reducible exact ag106|with_reducible exact ag131|with_reducible exact ag5):aggOf P t=v:=h
theorem szF{P:Program}{t:TypeId}{v w:Option Nat}(h:szOf P t=w:=by first|with_reducible exact lG|with_reducible exact Vq|with_reducible exact Il|with_reducible exact ji|with_reducible exact Io|with_reducible exact NR|with_reducible exact AZ|with_reducible exact jc|with_reducible exact D6|with_reducible exact Va|with_reducible exact ug|with_reducible exact Vk|with_reducible exact wf_|with_reducible exact sz27|with_reducible exact sz5|with_reducible exact Ji|with_reducible exact U6|with_reducible exact sz23|with_reducible exact Qo|with_reducible exact Qp|with_reducible exact sz137)(h':w=v:=by rfl):szOf P t=v:=h.trans h'
theorem foF{P:Program}{t i:Nat}{v w:Option Nat}(h:foOf P t i=w:=by first|with_reducible exact jk_|with_reducible exact jm_|with_reducible exact kf_|with_reducible exact kc_|with_reducible exact kb_|with_reducible exact ky_|with_reducible exact k8_|with_reducible exact k0_|with_reducible exact lu_|with_reducible exact j8_|with_reducible exact ms_|with_reducible exact ml_|with_reducible exact mq_|with_reducible exact x8_|with_reducible exact fo93_1|with_reducible exact rr_|with_reducible exact fo212_0|with_reducible exact Zw|with_reducible exact fo210_0|with_reducible exact ss_|with_reducible exact fo210_1|with_reducible exact q4_|with_reducible exact yz_|with_reducible exact yd_|with_reducible exact G9|with_reducible exact q8_)(h':w=v:=by rfl):foOf P t i=v:=h.trans h'
theorem unF{P:Program}{t:TypeId}{v:Option TypeDesc}(h:P.underlying t=v:=by first|with_reducible exact Tryz.underlying31|with_reducible exact Tryz.underlying32|with_reducible exact Tryz.underlying22|with_reducible exact Tryz.underlying23|with_reducible exact Tryz.underlying33|with_reducible exact Tryz.underlying131|with_reducible exact Tryz.underlying9|with_reducible exact Tryz.underlying3|with_reducible exact Tryz.underlying47|with_reducible exact Tryz.underlying63|with_reducible exact Tryz.underlying84|with_reducible exact Tryz.underlying5|with_reducible exact Tryz.underlying106|with_reducible exact Tryz.underlying45|with_reducible exact Tryz.underlying4|with_reducible exact Tryz.underlying224|with_reducible exact Tryz.underlying171|with_reducible exact Tryz.underlying137|with_reducible exact Tryz.underlying138|with_reducible exact Tryz.underlying98|with_reducible exact Tryz.underlying208|with_reducible exact Tryz.underlying250):P.underlying t=v:=h
theorem zeF{P:Program}{t:TypeId}{v w:Option Value}(h:zeroOf P t=w:=by first|with_reducible exact Fh|with_reducible exact jI|with_reducible exact y3_|with_reducible exact wa_|with_reducible exact ze35|with_reducible exact wg_|with_reducible exact qG|with_reducible exact ze4|with_reducible exact U7|with_reducible exact Fq|with_reducible exact ze5|with_reducible exact I5|with_reducible exact ze27|with_reducible exact U8|with_reducible exact ze93|with_reducible exact ze63|with_reducible exact ze212|with_reducible exact ze210|with_reducible exact ze192|with_reducible exact ze138|with_reducible exact ze137)(h':w=v:=by rfl):zeroOf P t=v:=h.trans h'
theorem byF{P:Program}{t:TypeId}{v w:Option Nat}(h:byOf P t=w:=by first|with_reducible exact kY|with_reducible exact T_|with_reducible exact by79|with_reducible exact by4|with_reducible exact by49|with_reducible exact by5|with_reducible exact by47|with_reducible exact by129|with_reducible exact by63|with_reducible exact by33)(h':w=v:=by rfl):byOf P t=v:=h.trans h'
theorem hq0{α:Type _}{r0:α}{l:List α}:(r0::l)[0]? =some r0:=rfl
theorem hq1{α:Type _}{r0 r1:α}{l:List α}:(r0::r1::l)[1]? =some r1:=rfl
theorem hq2{α:Type _}{r0 r1 r2:α}{l:List α}:(r0::r1::r2::l)[2]? =some r2:=rfl
theorem hq3{α:Type _}{r0 r1 r2 r3:α}{l:List α}:(r0::r1::r2::r3::l)[3]? =some r3:=rfl
theorem hq4{α:Type _}{r0 r1 r2 r3 r4:α}{l:List α}:(r0::r1::r2::r3::r4::l)[4]? =some r4:=rfl
theorem hq5{α:Type _}{r0 r1 r2 r3 r4 r5:α}{l:List α}:(r0::r1::r2::r3::r4::r5::l)[5]? =some r5:=rfl
theorem hq6{α:Type _}{r0 r1 r2 r3 r4 r5 r6:α}{l:List α}:(r0::r1::r2::r3::r4::r5::r6::l)[6]? =some r6:=rfl
theorem hq7{α:Type _}{r0 r1 r2 r3 r4 r5 r6 r7:α}{l:List α}:(r0::r1::r2::r3::r4::r5::r6::r7::l)[7]? =some r7:=rfl
theorem hq8{α:Type _}{r0 r1 r2 r3 r4 r5 r6 r7 r8:α}{l:List α}:(r0::r1::r2::r3::r4::r5::r6::r7::r8::l)[8]? =some r8:=rfl
theorem FV{α:Type _}{r0 r1 r2 r3 r4 r5 r6 r7 r8 r9:α}{l:List α}:(r0::r1::r2::r3::r4::r5::r6::r7::r8::r9::l)[9]? =some r9:=rfl
theorem Fz{α:Type _}{r0 r1 r2 r3 r4 r5 r6 r7 r8 r9 r10:α}{l:List α}:(r0::r1::r2::r3::r4::r5::r6::r7::r8::r9::r10::l)[10]? =some r10:=rfl
theorem FD{α:Type _}{r0 r1 r2 r3 r4 r5 r6 r7 r8 r9 r10 r11:α}{l:List α}:(r0::r1::r2::r3::r4::r5::r6::r7::r8::r9::r10::r11::l)[11]? =some r11:=rfl
theorem FI{α:Type _}{r0 r1 r2 r3 r4 r5 r6 r7 r8 r9 r10 r11 r12:α}{l:List α}:(r0::r1::r2::r3::r4::r5::r6::r7::r8::r9::r10::r11::r12::l)[12]? =some r12:=rfl
theorem Fv{α:Type _}{r0 r1 r2 r3 r4 r5 r6 r7 r8 r9 r10 r11 r12 r13:α}{l:List α}:(r0::r1::r2::r3::r4::r5::r6::r7::r8::r9::r10::r11::r12::r13::l)[13]? =some r13:=rfl
theorem Fj{α:Type _}{r0 r1 r2 r3 r4 r5 r6 r7 r8 r9 r10 r11 r12 r13 Qu:α}{l:List α}:(r0::r1::r2::r3::r4::r5::r6::r7::r8::r9::r10::r11::r12::r13::Qu::l)[14]? =some Qu:=rfl
theorem FH{α:Type _}{r0 r1 r2 r3 r4 r5 r6 r7 r8 r9 r10 r11 r12 r13 Qu Zr:α}{l:List α}:(r0::r1::r2::r3::r4::r5::r6::r7::r8::r9::r10::r11::r12::r13::Qu::Zr::l)[15]? =some Zr:=rfl
theorem FB{α:Type _}{r0 r1 r2 r3 r4 r5 r6 r7 r8 r9 r10 r11 r12 r13 Qu Zr r16:α}{l:List α}:(r0::r1::r2::r3::r4::r5::r6::r7::r8::r9::r10::r11::r12::r13::Qu::Zr::r16::l)[16]? =some r16:=rfl
theorem FC{α:Type _}{r0 r1 r2 r3 r4 r5 r6 r7 r8 r9 r10 r11 r12 r13 Qu Zr r16 r17:α}{l:List α}:(r0::r1::r2::r3::r4::r5::r6::r7::r8::r9::r10::r11::r12::r13::Qu::Zr::r16::r17::l)[17]? =some r17:=rfl
section
variable {P:Program} {n:Nat} {o:Oper} {e:Env} {σ:ak} {H:List Res} {x y:Operand}
theorem mI{k:IntKind}{a:Int}(ho:DJ o.op x:=by first|exact .inl rfl|exact .inr rfl)(hx:ev e x= .int k a:=by rfl):OpVal P n o e σ H (.int k a):=OpVal.fP ho hx
theorem mB{b:Bool}(ho:DJ o.op x:=by first|exact .inl rfl|exact .inr rfl)(hx:ev e x= .bool b:=by rfl):OpVal P n o e σ H (.bool b):=OpVal.moveB ho hx
theorem mS{a:Option Addr}{m c:Nat}(ho:DJ o.op x:=by first|exact .inl rfl|exact .inr rfl)(hx:ev e x= .slice a m c:=by rfl):OpVal P n o e σ H (.slice a m c):=OpVal.EY ho hx
theorem mL{b k:Nat}(ho:DJ o.op x:=by first|exact .inl rfl|exact .inr rfl)(hx:ev e x=loc b k:=by rfl):OpVal P n o e σ H (loc b k):=OpVal.ci_ ho hx
theorem mT{cs:Array Value}(ho:DJ o.op x:=by first|exact .inl rfl|exact .inr rfl)(hx:ev e x= .tuple cs:=by rfl):OpVal P n o e σ H (.tuple cs):=OpVal.moveT ho hx
theorem fL{T i off b k:Nat}(ho:o.op= .fieldAddr T x i:=by rfl)(hf:foOf P T i=some off:=by exact foF)(hx:ev e x=loc b k:=by rfl):OpVal P n o e σ H (loc b (k+off)):=OpVal.r_ ho hf hx
theorem lL{T b k E i:Nat}{cs:Array Value}{u:Value}(ho:o.op= .load T x:=by rfl)(hA:aggOf P T=some false:=by exact agF)(hx:ev e x=loc b k:=by rfl)(hi:H[i]? =some (ω b cs E):=by first|with_reducible exact hq0|with_reducible exact hq1|with_reducible exact hq2|with_reducible exact hq3|with_reducible exact hq4|with_reducible exact hq5|with_reducible exact hq6|with_reducible exact hq7|with_reducible exact hq8|with_reducible exact FV|with_reducible exact Fz|with_reducible exact FD|with_reducible exact FI|with_reducible exact Fv|with_reducible exact Fj|with_reducible exact FH|with_reducible exact FB|with_reducible exact FC|exact hq0|exact hq1|exact hq2|exact hq3|exact hq4|exact hq5|exact hq6|exact hq7|exact hq8|exact FV|exact Fz|exact FD|exact FI|exact Fv|exact Fj|exact FH|exact FB|exact FC)(hk:cs[k]? =some u:=by rfl):OpVal P n o e σ H u:=OpVal.qw ho hA hx hi hk
theorem lA{T b E i s:Nat}{cs:Array Value}(ho:o.op= .load T x:=by rfl)(hA:aggOf P T=some true:=by exact agF)(hz:szOf P T=some s:=by exact szF)(hx:ev e x=loc b 0:=by rfl)(hi:H[i]? =some (ω b cs E):=by first|with_reducible exact hq0|with_reducible exact hq1|with_reducible exact hq2|with_reducible exact hq3|with_reducible exact hq4|with_reducible exact hq5|with_reducible exact hq6|with_reducible exact hq7|with_reducible exact hq8|with_reducible exact FV|with_reducible exact Fz|with_reducible exact FD|with_reducible exact FI|with_reducible exact Fv|with_reducible exact Fj|with_reducible exact FH|with_reducible exact FB|with_reducible exact FC|exact hq0|exact hq1|exact hq2|exact hq3|exact hq4|exact hq5|exact hq6|exact hq7|exact hq8|exact FV|exact Fz|exact FD|exact FI|exact Fv|exact Fj|exact FH|exact FB|exact FC)(hl:cs.size=s:=by rfl):OpVal P n o e σ H (.agg cs):=OpVal.Ue ho hA hz hx hi hl
theorem lB{T b k E i s:Nat}{cs:Array Value}{us:List Value}(ho:o.op= .load T x:=by rfl)(hA:aggOf P T=some true:=by exact agF)(hz:szOf P T=some s:=by exact szF)(hx:ev e x=loc b k:=by rfl)(hi:H[i]? =some (ω b cs E):=by first|with_reducible exact hq0|with_reducible exact hq1|with_reducible exact hq2|with_reducible exact hq3|with_reducible exact hq4|with_reducible exact hq5|with_reducible exact hq6|with_reducible exact hq7|with_reducible exact hq8|with_reducible exact FV|with_reducible exact Fz|with_reducible exact FD|with_reducible exact FI|with_reducible exact Fv|with_reducible exact Fj|with_reducible exact FH|with_reducible exact FB|with_reducible exact FC|exact hq0|exact hq1|exact hq2|exact hq3|exact hq4|exact hq5|exact hq6|exact hq7|exact hq8|exact FV|exact Fz|exact FD|exact FI|exact Fv|exact Fj|exact FH|exact FB|exact FC)(hk:(cs.toList.drop k).take s=us:=by rfl)(hl:us.length=s:=by rfl):OpVal P n o e σ H (.agg us.toArray):=OpVal.bp_ ho hA hz hx hi hl hk
theorem lC{t E m c:Nat}{a:Option Addr}(ho:o.op= .call {callee:= .builtin .len,args:= #[x],argTypes:= #[t]}:=by rfl)(ht:P.underlying t=some (.slice E):=by exact unF)(hx:ev e x= .slice a m c:=by rfl):OpVal P n o e σ H (.int .i64 (m:Nat)):=OpVal.lenC ho ht hx
theorem isF{v:Value}{m:Nat}(h:vg v m:=by first|assumption|exact RV.sl (RS.rv (by assumption))|exact RZ.isSl (by assumption)|exact ZOk.isSl (by assumption) (by assumption)|exact VwOk.sl (by assumption)):vg v m:=h
theorem iN{T E size m c m':Nat}{a:Option Addr}{k:IntKind}{i:Nat}(ho:o.op= .indexAddr T x y:=by rfl)(ht:P.underlying T=some (.slice E):=by exact unF)(hz:szOf P E=some size:=by exact szF)(hx:ev e x= .slice a m c:=by rfl)(hy:ev e y= .int k (i:Nat):=by rfl)(hs:vg (.slice a m c) m':=by first|assumption|exact RV.sl (RS.rv (by assumption))|exact RZ.isSl (by assumption)|exact ZOk.isSl (by assumption) (by assumption)|exact VwOk.sl (by assumption))(h1:i<m':=by omega):OpVal P n o e σ H (lX (.slice a m c) (i * size)):=OpVal.zk ho ht hz hx hy hs h1
theorem iX{T E size m c m':Nat}{a:Option Addr}{k:IntKind}{i:Int}(ho:o.op= .indexAddr T x y:=by rfl)(ht:P.underlying T=some (.slice E):=by exact unF)(hz:szOf P E=some size:=by exact szF)(hx:ev e x= .slice a m c:=by rfl)(hy:ev e y= .int k i:=by rfl)(hs:vg (.slice a m c) m':=by first|assumption|exact RV.sl (RS.rv (by assumption))|exact RZ.isSl (by assumption)|exact ZOk.isSl (by assumption) (by assumption)|exact VwOk.sl (by assumption))(h1:0<=i/\i<m':=by omega):OpVal P n o e σ H (lX (.slice a m c) (i.toNat * size)):=OpVal.index ho ht hz hx hy hs h1.1 h1.2
theorem iA{T E size m b q:Nat}{k:IntKind}{i:Nat}(ho:o.op= .indexAddr T x y:=by rfl)(ht:P.underlying T=some (.array m E):=by exact unF)(hz:szOf P E=some size:=by exact szF)(hx:ev e x=loc b q:=by rfl)(hy:ev e y= .int k (i:Nat):=by rfl)(h1:i<m:=by omega):OpVal P n o e σ H (loc b (q+i * size)):=OpVal.XP ho ht hz hx hy h1
theorem fE{T i off m c k m':Nat}{a:Option Addr}(ho:o.op= .fieldAddr T x i:=by rfl)(hf:foOf P T i=some off:=by exact foF)(hx:ev e x=lX (.slice a m c) k:=by rfl)(hs:vg (.slice a m c) m':=by first|assumption|exact RV.sl (RS.rv (by assumption))|exact RZ.isSl (by assumption)|exact ZOk.isSl (by assumption) (by assumption)|exact VwOk.sl (by assumption))(hj:0<m':=by omega):OpVal P n o e σ H (lX (.slice a m c) (k+off)):=OpVal.cr_ ho hf hx hs hj
theorem l1{α:Type}{T i m c:Nat}{a:Option Addr}{enc:α->List Value}{u:Value}{l:List α}(ho:o.op= .load T x:=by rfl)(hA:aggOf P T=some false:=by exact agF)(hx:ev e x=lX (.slice a m c) (i * 1):=by rfl)(hR:RS σ 1 enc (.slice a m c) l:=by assumption)(hi:i<l.length:=by omega)(d:α:=by first|exact (0:Int)|exact false|exact bD|exact aO|exact BSet.zero|exact (0:UInt8)|exact Arrow.zero|exact (0:Nat)|exact ([]:List UInt8)|exact ([]:List Int))(hu:(enc (nth l i d))[0]? =some u:=by rfl):OpVal P n o e σ H u:=OpVal.Uc d ho hA hx hR hi hu
theorem lS{α:Type}{T i m c size j:Nat}{a:Option Addr}{enc:α->List Value}{u:Value}{l:List α}(ho:o.op= .load T x:=by rfl)(hA:aggOf P T=some false:=by exact agF)(hx:ev e x=lX (.slice a m c) (i * size+j):=by rfl)(hR:RS σ size enc (.slice a m c) l:=by assumption)(hi:i<l.length:=by omega)(hj:j<size:=by omega)(d:α:=by first|exact (0:Int)|exact false|exact bD|exact aO|exact BSet.zero|exact (0:UInt8)|exact Arrow.zero|exact (0:Nat)|exact ([]:List UInt8)|exact ([]:List Int))(hu:(enc (nth l i d))[j]? =some u:=by rfl):OpVal P n o e σ H u:=OpVal.loadS d ho hA hx hR hi hj hu
theorem lT{α:Type}{T i m c size:Nat}{a:Option Addr}{enc:α->List Value}{l:List α}(ho:o.op= .load T x:=by rfl)(hA:aggOf P T=some true:=by exact agF)(hz:szOf P T=some size:=by exact szF)(hx:ev e x=lX (.slice a m c) (i * size):=by rfl)(hR:RS σ size enc (.slice a m c) l:=by assumption)(hi:i<l.length:=by omega)(h0:0<size:=by omega)(d:α:=by first|exact (0:Int)|exact false|exact bD|exact aO|exact BSet.zero|exact (0:UInt8)|exact Arrow.zero|exact (0:Nat)|exact ([]:List UInt8)|exact ([]:List Int)):OpVal P n o e σ H (.agg (enc (nth l i d)).toArray):=OpVal.cu_ d ho hA hz hx hR hi h0
theorem o1{α:Type}{T E i m c q:Nat}{a:Option Addr}{enc:α->List Value}{u:Value}{l:List α}(ho:o.op= .load T x:=by rfl)(hA:aggOf P T=some false:=by exact agF)(hx:ev e x=lX (.slice a m c) (i * 1):=by rfl)(hq:H[q]? =some (ε E 1 enc (.slice a m c) l):=by first|with_reducible exact hq0|with_reducible exact hq1|with_reducible exact hq2|with_reducible exact hq3|with_reducible exact hq4|with_reducible exact hq5|with_reducible exact hq6|with_reducible exact hq7|with_reducible exact hq8|with_reducible exact FV|with_reducible exact Fz|with_reducible exact FD|with_reducible exact FI|with_reducible exact Fv|with_reducible exact Fj|with_reducible exact FH|with_reducible exact FB|with_reducible exact FC|exact hq0|exact hq1|exact hq2|exact hq3|exact hq4|exact hq5|exact hq6|exact hq7|exact hq8|exact FV|exact Fz|exact FD|exact FI|exact Fv|exact Fj|exact FH|exact FB|exact FC)(hi:i<l.length:=by omega)(hl: ∀x,(enc x).length=1:=by exact λ_=>rfl)(d:α:=by first|exact (0:Int)|exact false|exact bD|exact aO|exact BSet.zero|exact (0:UInt8)|exact Arrow.zero|exact (0:Nat)|exact ([]:List UInt8)|exact ([]:List Int))(hu:(enc (nth l i d))[0]? =some u:=by rfl):OpVal P n o e σ H u:=OpVal.cl_ d ho hA hx hq hl hi hu
theorem oT{α:Type}{T E i m c q size:Nat}{a:Option Addr}{enc:α->List Value}{l:List α}(ho:o.op= .load T x:=by rfl)(hA:aggOf P T=some true:=by exact agF)(hz:szOf P T=some size:=by exact szF)(hx:ev e x=lX (.slice a m c) (i * size):=by rfl)(hq:H[q]? =some (ε E size enc (.slice a m c) l):=by first|with_reducible exact hq0|with_reducible exact hq1|with_reducible exact hq2|with_reducible exact hq3|with_reducible exact hq4|with_reducible exact hq5|with_reducible exact hq6|with_reducible exact hq7|with_reducible exact hq8|with_reducible exact FV|with_reducible exact Fz|with_reducible exact FD|with_reducible exact FI|with_reducible exact Fv|with_reducible exact Fj|with_reducible exact FH|with_reducible exact FB|with_reducible exact FC|exact hq0|exact hq1|exact hq2|exact hq3|exact hq4|exact hq5|exact hq6|exact hq7|exact hq8|exact FV|exact Fz|exact FD|exact FI|exact Fv|exact Fj|exact FH|exact FB|exact FC)(hi:i<l.length:=by omega)(hl: ∀x,(enc x).length=size:=by exact λ_=>rfl)(h0:0<size:=by omega)(d:α:=by first|exact (0:Int)|exact false|exact bD|exact aO|exact BSet.zero|exact (0:UInt8)|exact Arrow.zero|exact (0:Nat)|exact ([]:List UInt8)|exact ([]:List Int)):OpVal P n o e σ H (.agg (enc (nth l i d)).toArray):=OpVal.loadOA d ho hA hz hx hq hl hi h0
theorem plF{T:TypeId}{v w:Option (Array (Nat×Nat))}(h:plOf P T=w:=by first|with_reducible exact w9_|with_reducible exact pl35|with_reducible exact pl79|with_reducible exact pl65|with_reducible exact pl49|with_reducible exact pl93|with_reducible exact pl129|with_reducible exact pl212|with_reducible exact pl210)(h':w=v:=by rfl):plOf P T=v:=h.trans h'
theorem bL{T:TypeId}{parts:Array (Nat×Operand)}{pl:Array (Nat×Nat)}{z:Value}{cs:List Value}(ho:o.op= .build T parts:=by rfl)(hp:plOf P T=some pl:=by exact plF)(hz:zeroOf P T=some z:=by exact zeF)(hf:Iu (λi=>pl.toList[i]?) z.cells.toList (parts.toList.map λx=>(x.1,ev e x.2))=some cs:=by rfl):OpVal P n o e σ H (.agg cs.toArray):=OpVal.buildL ho hp hz hf
end
section
variable {X:Ctx} {ops:Array Oper} {Q:QP} {e:Env} {σ σr:ak} {H Hr:List Res} {late:List Nat} {fuel:Nat} {listed:Array Bool}
theorem TA.of(i:Nat){oi:Oper}{d:Nat}(hi:ops[i]? =some oi)(h:gdC X.n ops e oi=some (false,d))(k:TA X ops Q σr Hr late fuel (listed.setIfInBounds i true) (upd e d undef) σ H)(hs:Region.noSelect ops=true:=by kernel_rfl)(hf:Region.free .any ops listed i=true:=by kernel_rfl)(hr:(Region.ready .any ops listed).contains i=true:=by kernel_rfl)(hl:late.all (λj=>after? ops ops.size j i)=true:=by kernel_rfl):TA X ops Q σr Hr late (fuel+1) listed e σ H:=by
  obtain ⟨h1,h2,j,b,oj,dj,h3,h4,h5,h6,h7⟩:=t4_ h;refine TA.c6_ i hi hs hf hr hl (λa ha=> .inr ⟨?_,rfl⟩) h1 h2 k;have hy:=OT ha h4 h5 h6;unfold Region.wanted;rw [h3];show (yielded ops a.tmps j == some b)=false;rw [hy];generalize e dj=v at h7;cases v
  case bool b'=>cases b<;>cases b'<;>first|rfl|exact Bool.noConfusion (show true=false from h7)
  all_goals (cases b<;>rfl)
theorem TA.oN(i:Nat){oi:Oper}{d:Nat}{v:Value}(hi:ops[i]? =some oi)(h:gdC X.n ops e oi=some (true,d))(hv:OpVal X.P X.n oi e σr Hr v)(k:TA X ops Q σr Hr late fuel (listed.setIfInBounds i true) (upd e d v) σ H)(hs:Region.noSelect ops=true:=by kernel_rfl)(hf:Region.free .any ops listed i=true:=by kernel_rfl)(hr:(Region.ready .any ops listed).contains i=true:=by kernel_rfl)(hl:late.all (λj=>after? ops ops.size j i)=true:=by kernel_rfl):TA X ops Q σr Hr late (fuel+1) listed e σ H:=by
  obtain ⟨h1,h2,j,b,oj,dj,h3,h4,h5,h6,h7⟩:=t4_ h;have hb:e dj= .bool b:=by
    generalize e dj=v at h7;cases v
    case bool b'=>cases b<;>cases b'<;>first|rfl|exact Bool.noConfusion (show false=true from h7)
    all_goals exact Bool.noConfusion (show false=true from h7)
  exact TA.on i hi h3 h4 h5 hv h1 k hs hf hr hl h6 hb h2
theorem TA.aw(i:Nat){oi:Oper}{v:Value}{d:Nat}(hi:ops[i]? =some oi)(hv:OpVal X.P X.n oi e (λ_=>none) [] v)(hd:plC X.n oi=some d)
    (k:TA X ops Q σr Hr late fuel (listed.setIfInBounds i true) (upd e d v) σ H) (hs:Region.noSelect ops=true:=by kernel_rfl) (hf:Region.free .any ops listed i=true:=by kernel_rfl) (hr:(Region.ready .any ops listed).contains i=true:=by kernel_rfl):TA X ops Q σr Hr late (fuel+1) listed e σ H:=
  TA.qM i hi hs hf hr (Zt hd).1 hv (Zt hd).2.1 (Zt hd).2.2 k
end
section
variable {P:Program} {fn:Func} {n:Nat} {e:Env} {σ:ak} {H:List Res}
theorem rz{ex:Exit}{Post:Value->ak->List Res->Prop}{F:List Res}{rs:List ResultVar}{vs:List Value}(hr:fn.results=rs.toArray:=by exact rfl)(h:RVs P n e H rs vs:=by repeat (first|exact RVs.nil|(apply RVs.tmp;exact rfl)|(apply RVs.agg;exact agF)|(apply RVs.one;exact agF)|exact szF|exact rfl|with_reducible exact hq0|with_reducible exact hq1|with_reducible exact hq2|with_reducible exact hq3|with_reducible exact hq4|with_reducible exact hq5|with_reducible exact hq6|with_reducible exact hq7|with_reducible exact hq8|with_reducible exact FV|with_reducible exact Fz|with_reducible exact FD|with_reducible exact FI|with_reducible exact Fv|with_reducible exact Fj|with_reducible exact FH|with_reducible exact FB|with_reducible exact FC|exact hq0|exact hq1|exact hq2|exact hq3|exact hq4|exact hq5|exact hq6|exact hq7|exact hq8|exact FV|exact Fz|exact FD|exact FI|exact Fv|exact Fj|exact FH|exact FB|exact FC))(hp:Post (tupV vs) σ F:=by repeat (first|exact rfl|assumption|exact RS.nilF _ _ λ_=>rfl|exact RZ.nilF _ _|apply Exists.intro|apply And.intro))(hs:F.Sublist H:=by exact List.sublist_append_left _ _)(hex:ex= .ret\/ex= .normal:=by first|exact .inl rfl|exact .inr rfl):RetOk P fn n Post ex e σ H:=RetOk.mk' F hr hex h hs hp
theorem ry{ex:Exit}{Post:Value->ak->List Res->Prop}{rs:List ResultVar}{vs:List Value}(hr:fn.results=rs.toArray:=by exact rfl)(h:RVs P n e H rs vs:=by repeat (first|exact RVs.nil|(apply RVs.tmp;exact rfl)|(apply RVs.agg;exact agF)|(apply RVs.one;exact agF)|exact szF|exact rfl|with_reducible exact hq0|with_reducible exact hq1|with_reducible exact hq2|with_reducible exact hq3|with_reducible exact hq4|with_reducible exact hq5|with_reducible exact hq6|with_reducible exact hq7|with_reducible exact hq8|with_reducible exact FV|with_reducible exact Fz|with_reducible exact FD|with_reducible exact FI|with_reducible exact Fv|with_reducible exact Fj|with_reducible exact FH|with_reducible exact FB|with_reducible exact FC|exact hq0|exact hq1|exact hq2|exact hq3|exact hq4|exact hq5|exact hq6|exact hq7|exact hq8|exact FV|exact Fz|exact FD|exact FI|exact Fv|exact Fj|exact FH|exact FB|exact FC))(hp:Post (tupV vs) σ H:=by repeat (first|exact rfl|assumption|exact RS.nilF _ _ λ_=>rfl|exact RZ.nilF _ _|apply Exists.intro|apply And.intro))(hex:ex= .ret\/ex= .normal:=by first|exact .inl rfl|exact .inr rfl):RetOk P fn n Post ex e σ H:=RetOk.mk' H hr hex h (List.Sublist.refl _) hp
end
section
variable {X:Ctx} {ops:Array Oper} {Q:QP} {e:Env} {σ:ak} {H:List Res} {rest:List Oper} {o:Oper} {x y:Operand}
theorem TL.al{E d:Nat}{z:Value}(k: ∀b,TL X ops Q rest (upd e d (loc b 0)) σ (ω b z.cells E::H))(hg:o.guard=none:=by exact rfl)(ho:o.op= .alloc E:=by exact rfl)(hz:zeroOf X.P E=some z:=by exact zeF)(hd:o.dst=some d:=by exact rfl)(hn:Nat.blt d X.n=true:=by exact rfl):TL X ops Q (o::rest) e σ H:=κ hg (OpOk.alloc ho hz hd hn k)
theorem TL.bx{E d:Nat}{cs:Array Value}(k: ∀b,TL X ops Q rest (upd e d (loc b 0)) σ (ω b cs E::H))(hg:o.guard=none:=by exact rfl)(ho:o.op= .box E x:=by exact rfl)(hd:o.dst=some d:=by exact rfl)(hn:Nat.blt d X.n=true:=by exact rfl)(hx:ev e x= .agg cs:=by exact rfl):TL X ops Q (o::rest) e σ H:=κ hg (OpOk.boxA ho hd hn hx k)
theorem cM{P:Program}{f:FuncId}{fn:Func}{c:Code}{args:List Value}(n:Nat){Post:Value->ak->List Res->Prop}(hf:P.funcs[f]? =some fn)(h: ∀w0,TC ⟨P,w0,fV H,σ,n,none,none⟩ (retQ P fn n Post) c (Vw args) σ H)(hb:fn.body=some c:=by exact rfl)(hn:fn.ntmps=n:=by exact rfl)(ha:Nat.ble args.length n=true:=by exact rfl):Con P f args.toArray σ H Post:=Con.mk hf hb hn ha h
theorem gX{α:Type}{T E size d m:Nat}{K:Env->ak->List Res->Prop}{enc:α->List Value}{parts:Array (Nat×Operand)}{z:Value}(l:List α)(k: ∀a c,K (upd e d (.slice a l.length c)) σ (ε E size enc (.slice a l.length c) l::H))(x0:α:=by first|exact (0:Int)|exact false|exact bD|exact aO|exact BSet.zero|exact (0:UInt8)|exact Arrow.zero|exact (0:Nat)|exact ([]:List UInt8)|exact ([]:List Int))
    (ho:o.op= .buildSlice T m parts:=by rfl) (ht:X.P.underlying T=some (.slice E):=by exact unF) (hs:szOf X.P E=some size:=by exact szF) (hz:zeroOf X.P E=some z:=by exact zeF)
    (hd:o.dst=some d:=by rfl) (hn:Nat.blt d X.n=true:=by rfl) (hm:l.length=m:=by rfl) (h0:m * size≠0:=by decide) (hbig:m * size<=16777216:=by decide)
    (hx0:z.cells.toList=enc x0:=by rfl) (h00:0<size:=by decide)
    (hf:Iu (λi=>some (i * size,size)) ((List.replicate m x0).flatMap enc) (parts.toList.map λx=>(x.1,ev e x.2))=some (l.flatMap enc):=by rfl) (hmax:m<=281474976710656:=by decide) (hl: ∀x,(enc x).length=size:=by exact λ_=>rfl) (h1: ∀x, ∀u∈enc x,u.oneCell'=true:=by exact λ_=>List.all_eq_true.1 rfl):OpOk X o e σ H K:=
  OpOk.lit l ho ht hs hz hd hn hm hl h0 hbig x0 hx0 h00 hf hmax h1 k
theorem mk2{α:Type}{T E size jT d m:Nat}{K:Env->ak->List Res->Prop}{enc:α->List Value}{kl kc:IntKind}{z:Value}(x0:α)(k: ∀a c,K (upd e d (.slice a (List.replicate m x0).length c)) σ (ε E size enc (.slice a (List.replicate m x0).length c) (List.replicate m x0)::H))(ho:o.op= .makeSlice T x y:=by rfl)(ht:X.P.underlying T=some (.slice E):=by exact unF)(hs:szOf X.P E=some size:=by exact szF)(hby:byOf X.P E=some jT:=by exact byF)(hz:zeroOf X.P E=some z:=by exact zeF)
    (hd:o.dst=some d:=by rfl) (hn:Nat.blt d X.n=true:=by rfl) (hx:ev e x= .int kl (m:Nat):=by rfl) (hy:ev e y= .int kc (m:Nat):=by rfl) (hb:jT * m<=281474976710656:=by omega) (kW:0<jT:=by decide) (hl: ∀x,(enc x).length=size:=by exact λ_=>rfl) (h0:0<size:=by decide)
    (hz0:z.cells.toList=enc x0:=by rfl) (h1: ∀x, ∀u∈enc x,u.oneCell'=true:=by exact λ_=>List.all_eq_true.1 rfl):OpOk X o e σ H K:=OpOk.IC x0 ho ht hs hby hz hd hn hx hy hb kW hl h0 hz0 h1 k
theorem iT{α:Type}{p:Prop}[Decidable p]{t u:Option α}{r:α}(h:decide p=true)(hh:aI (decide p) t u=some r):p/\t=some r:=⟨Gu h,nT h hh⟩
theorem iF{α:Type}{p:Prop}[Decidable p]{t u:Option α}{r:α}(h:decide p=false)(hh:aI (decide p) t u=some r): ¬ p/\u=some r:=⟨df_ h,nS h hh⟩
end
section
variable {P:Program} {n:Nat} {o:Oper} {e:Env} {σ:ak} {H:List Res} {v:Value}
theorem vF(h:OpVal P n o e σ H v:=by first|exact OpVal.lss rfl rfl rfl|exact OpVal.lF rfl rfl rfl|exact OpVal.qN rfl rfl rfl|exact OpVal.succ rfl rfl rfl (by omega)|exact OpVal.extract rfl rfl rfl|exact OpVal.neq rfl rfl rfl|exact OpVal.leq rfl rfl rfl|exact OpVal.gtr rfl rfl rfl|exact OpVal.geq rfl rfl rfl|exact OpVal.eql rfl rfl rfl|exact OpVal.not rfl rfl|exact OpVal.addW rfl rfl rfl|exact OpVal.subW rfl rfl rfl|exact OpVal.mulW rfl rfl rfl|exact OpVal.XO rfl rfl|exact OpVal.r_ rfl foF rfl|exact OpVal.lenC rfl unF rfl|exact OpVal.b8_ (.inl rfl) rfl|exact OpVal.b8_ (.inr rfl) rfl|exact OpVal.b5_ (.inl rfl) rfl|exact OpVal.b5_ (.inr rfl) rfl|exact OpVal.qw rfl agF rfl (i:=0) rfl rfl|exact OpVal.qw rfl agF rfl (i:=1) rfl rfl|exact OpVal.qw rfl agF rfl (i:=2) rfl rfl|exact OpVal.qw rfl agF rfl (i:=3) rfl rfl|exact OpVal.qw rfl agF rfl (i:=4) rfl rfl|exact OpVal.Ue rfl agF szF rfl (i:=0) rfl rfl|exact OpVal.Ue rfl agF szF rfl (i:=1) rfl rfl|exact OpVal.Ue rfl agF szF rfl (i:=2) rfl rfl|exact OpVal.Ue rfl agF szF rfl (i:=3) rfl rfl|exact OpVal.Ue rfl agF szF rfl (i:=4) rfl rfl|exact mT|exact lL|exact lA|exact lB|exact iN|exact iX|exact iA|exact fE|exact l1|exact lS|exact lT|exact o1|exact oT|exact bL):OpVal P n o e σ H v:=h
theorem gF(h:OpVal P n o e σ H v:=by first|exact OpVal.fP (.inl rfl) rfl|exact OpVal.fP (.inr rfl) rfl|exact OpVal.EY (.inl rfl) rfl|exact OpVal.EY (.inr rfl) rfl|exact OpVal.moveB (.inl rfl) rfl|exact OpVal.moveB (.inr rfl) rfl|exact OpVal.ci_ (.inl rfl) rfl|exact OpVal.ci_ (.inr rfl) rfl|exact vF):OpVal P n o e σ H v:=h
end
section
variable {X:Ctx} {ops:Array Oper} {Q:QP} {e:Env} {σ:ak} {H:List Res} {rest:List Oper} {o:Oper} {d:Nat}
theorem TL.w2(h:plC X.n o=some d)(k: ∃v,OpVal X.P X.n o e σ H v/\TL X ops Q rest (upd e d v) σ H):TL X ops Q (o::rest) e σ H:=let ⟨_,hv,k⟩:=k;TL.w h hv k
theorem TL.m2{x:Operand}(h:mvC X.n o=some (x,d))(k: ∃v,ev e x=v/\TL X ops Q rest (upd e d v) σ H):TL X ops Q (o::rest) e σ H:=by
  obtain ⟨v,hv,k⟩:=k;subst hv;exact TL.w (QY h).1 (OpVal.mv (QY h).2) k
theorem tlid{l:List Oper}(h:TL X ops Q l e σ H):TL X ops Q l e σ H:=h
theorem tcid{c:Code}(h:TC X Q c e σ H):TC X Q c e σ H:=h
theorem evF{x:Operand}{v:Value}(h:ev e x=v:=by first|exact (rfl:_=Value.int _ _)|exact (rfl:_=Value.slice _ _ _)|exact (rfl:_=Value.bool _)|exact (rfl:_=loc _ _)|exact (rfl:_=Value.string _)|exact (rfl:_=Value.map _)):ev e x=v:=h
theorem TL.g2(h:gdC X.n ops e o=some (true,d))(k: ∃v,OpVal X.P X.n o e σ H v/\TL X ops Q rest (upd e d v) σ H):TL X ops Q (o::rest) e σ H:=let ⟨_,hv,k⟩:=k;TL.g h hv k
end
structure Wp (p:Prop):Prop where
  a:p
theorem st {G G':Prop} (k:G') (h:Wp G'->G:=by
  intro hk
  first
    |((with_reducible apply tlid);first|(with_reducible apply Ω)|(refine TL.m2 rfl ?_;refine ⟨_,evF,?_⟩)|(refine TL.w2 rfl ?_;refine ⟨_,vF,?_⟩)|refine TL.f rfl ?_ |refine κ rfl (OpOk.storeAll rfl szF rfl rfl rfl rfl rfl rfl ?_)|refine κ rfl (OpOk.de_ rfl szF rfl rfl rfl rfl rfl ?_)|refine κ rfl (OpOk.gJ rfl szF rfl rfl rfl rfl rfl ?_)|refine κ rfl (OpOk.storeB rfl szF rfl rfl rfl rfl rfl ?_)|(refine TL.g2 rfl ?_;refine ⟨_,gF,?_⟩)|refine Ω ?_)
    |((with_reducible apply tcid);first|(with_reducible apply Ψ)|apply υ|(with_reducible apply TC.skip)|(with_reducible apply TC.block)|(with_reducible apply TC.exit)|refine TC.t rfl ?_ |refine TC.f rfl ?_)
    |refine TC.LX ?_
    |refine S.x (TC.LX ?_)
    |refine S.x (S.x (TC.LX ?_))
    |(refine TA.done ?_ ?_;kernel_rfl)
    |(refine TZ.done ?_ ?_;kernel_rfl)
  exact hk.a):G:=h ⟨k⟩
theorem R1 {G G':Prop} (k:G') (h:Wp G'->G:=by
  intro hk
  iterate 1 refine st ?_
  exact hk.a):G:=h ⟨k⟩
theorem R2 {G G':Prop} (k:G') (h:Wp G'->G:=by
  intro hk
  iterate 2 refine st ?_
  exact hk.a):G:=h ⟨k⟩
theorem R3 {G G':Prop} (k:G') (h:Wp G'->G:=by
  intro hk
  iterate 3 refine st ?_
  exact hk.a):G:=h ⟨k⟩
theorem R4 {G G':Prop} (k:G') (h:Wp G'->G:=by
  intro hk
  iterate 4 refine st ?_
  exact hk.a):G:=h ⟨k⟩
theorem R5 {G G':Prop} (k:G') (h:Wp G'->G:=by
  intro hk
  iterate 5 refine st ?_
  exact hk.a):G:=h ⟨k⟩
theorem R6 {G G':Prop} (k:G') (h:Wp G'->G:=by
  intro hk
  iterate 6 refine st ?_
  exact hk.a):G:=h ⟨k⟩
theorem R7 {G G':Prop} (k:G') (h:Wp G'->G:=by
  intro hk
  iterate 7 refine st ?_
  exact hk.a):G:=h ⟨k⟩
theorem R8 {G G':Prop} (k:G') (h:Wp G'->G:=by
  intro hk
  iterate 8 refine st ?_
  exact hk.a):G:=h ⟨k⟩
theorem R9 {G G':Prop} (k:G') (h:Wp G'->G:=by
  intro hk
  iterate 9 refine st ?_
  exact hk.a):G:=h ⟨k⟩
theorem R10 {G G':Prop} (k:G') (h:Wp G'->G:=by
  intro hk
  iterate 10 refine st ?_
  exact hk.a):G:=h ⟨k⟩
theorem R11 {G G':Prop} (k:G') (h:Wp G'->G:=by
  intro hk
  iterate 11 refine st ?_
  exact hk.a):G:=h ⟨k⟩
theorem R12 {G G':Prop} (k:G') (h:Wp G'->G:=by
  intro hk
  iterate 12 refine st ?_
  exact hk.a):G:=h ⟨k⟩
theorem R13 {G G':Prop} (k:G') (h:Wp G'->G:=by
  intro hk
  iterate 13 refine st ?_
  exact hk.a):G:=h ⟨k⟩
theorem R14 {G G':Prop} (k:G') (h:Wp G'->G:=by
  intro hk
  iterate 14 refine st ?_
  exact hk.a):G:=h ⟨k⟩
theorem R15 {G G':Prop} (k:G') (h:Wp G'->G:=by
  intro hk
  iterate 15 refine st ?_
  exact hk.a):G:=h ⟨k⟩
theorem R16 {G G':Prop} (k:G') (h:Wp G'->G:=by
  intro hk
  iterate 16 refine st ?_
  exact hk.a):G:=h ⟨k⟩
theorem R17 {G G':Prop} (k:G') (h:Wp G'->G:=by
  intro hk
  iterate 17 refine st ?_
  exact hk.a):G:=h ⟨k⟩
theorem R18 {G G':Prop} (k:G') (h:Wp G'->G:=by
  intro hk
  iterate 18 refine st ?_
  exact hk.a):G:=h ⟨k⟩
theorem X_ {G G':Prop} (k:G') (h:Wp G'->G:=by
  intro hk
  iterate 19 refine st ?_
  exact hk.a):G:=h ⟨k⟩
theorem R20 {G G':Prop} (k:G') (h:Wp G'->G:=by
  intro hk
  iterate 20 refine st ?_
  exact hk.a):G:=h ⟨k⟩
theorem R21 {G G':Prop} (k:G') (h:Wp G'->G:=by
  intro hk
  iterate 21 refine st ?_
  exact hk.a):G:=h ⟨k⟩
theorem R22 {G G':Prop} (k:G') (h:Wp G'->G:=by
  intro hk
  iterate 22 refine st ?_
  exact hk.a):G:=h ⟨k⟩
theorem R23 {G G':Prop} (k:G') (h:Wp G'->G:=by
  intro hk
  iterate 23 refine st ?_
  exact hk.a):G:=h ⟨k⟩
theorem R24 {G G':Prop} (k:G') (h:Wp G'->G:=by
  intro hk
  iterate 24 refine st ?_
  exact hk.a):G:=h ⟨k⟩
theorem R25 {G G':Prop} (k:G') (h:Wp G'->G:=by
  intro hk
  iterate 25 refine st ?_
  exact hk.a):G:=h ⟨k⟩
theorem R26 {G G':Prop} (k:G') (h:Wp G'->G:=by
  intro hk
  iterate 26 refine st ?_
  exact hk.a):G:=h ⟨k⟩
theorem R27 {G G':Prop} (k:G') (h:Wp G'->G:=by
  intro hk
  iterate 27 refine st ?_
  exact hk.a):G:=h ⟨k⟩
theorem R28 {G G':Prop} (k:G') (h:Wp G'->G:=by
  intro hk
  iterate 28 refine st ?_
  exact hk.a):G:=h ⟨k⟩
theorem R29 {G G':Prop} (k:G') (h:Wp G'->G:=by
  intro hk
  iterate 29 refine st ?_
  exact hk.a):G:=h ⟨k⟩
theorem R30 {G G':Prop} (k:G') (h:Wp G'->G:=by
  intro hk
  iterate 30 refine st ?_
  exact hk.a):G:=h ⟨k⟩
theorem R31 {G G':Prop} (k:G') (h:Wp G'->G:=by
  intro hk
  iterate 31 refine st ?_
  exact hk.a):G:=h ⟨k⟩
theorem R32 {G G':Prop} (k:G') (h:Wp G'->G:=by
  intro hk
  iterate 32 refine st ?_
  exact hk.a):G:=h ⟨k⟩
theorem R33 {G G':Prop} (k:G') (h:Wp G'->G:=by
  intro hk
  iterate 33 refine st ?_
  exact hk.a):G:=h ⟨k⟩
theorem R34 {G G':Prop} (k:G') (h:Wp G'->G:=by
  intro hk
  iterate 34 refine st ?_
  exact hk.a):G:=h ⟨k⟩
theorem R35 {G G':Prop} (k:G') (h:Wp G'->G:=by
  intro hk
  iterate 35 refine st ?_
  exact hk.a):G:=h ⟨k⟩
theorem R36 {G G':Prop} (k:G') (h:Wp G'->G:=by
  intro hk
  iterate 36 refine st ?_
  exact hk.a):G:=h ⟨k⟩
theorem R37 {G G':Prop} (k:G') (h:Wp G'->G:=by
  intro hk
  iterate 37 refine st ?_
  exact hk.a):G:=h ⟨k⟩
theorem R38 {G G':Prop} (k:G') (h:Wp G'->G:=by
  intro hk
  iterate 38 refine st ?_
  exact hk.a):G:=h ⟨k⟩
theorem R39 {G G':Prop} (k:G') (h:Wp G'->G:=by
  intro hk
  iterate 39 refine st ?_
  exact hk.a):G:=h ⟨k⟩
theorem R40 {G G':Prop} (k:G') (h:Wp G'->G:=by
  intro hk
  iterate 40 refine st ?_
  exact hk.a):G:=h ⟨k⟩
section
variable {X:Ctx} {Q:QP} {e e':Env} {σ:ak} {H H':List Res} {c:Code}
abbrev nO:Option Addr:=none
abbrev oO:Nat:=0
def LP{A B R:Type}(M:List Nat)(e:Env)(T:A->B->List (Nat×Value)×List Res)(K:A->B->Prop)(s:ak)(F:A->Option (A⊕R))(r:R)(m:Nat):Env->ak->List Res->Prop:=
  LoopP M e (λg:A×B=>(T g.1 g.2).1) (λg=>(T g.1 g.2).2) (λ_=>s) (λg=>aV F g.1=some r/\K g.1 g.2) (λg=>qI F g.1) m
theorem TC.lk{A B R:Type}{F:A->Option (A⊕R)}{a0:A}{r:R}(h0:aV F a0=some r)(b0:B)(M:List Nat)(T:A->B->List (Nat×Value)×List Res)(K:A->B->Prop)(hk:K a0 b0)(hH:Sub (T a0 b0).2 H)
    (round: ∀(g:A) (b:B) (j:Env) (z:A⊕R),F g=some z->Rd F r (qI F g) z->K g b->TC X (seqQ (LP M e T K σ F r (qI F g)) Q) c (upds (mask M j e) (T g b).1) σ (T g b).2)
    (hS:Has e (T a0 b0).1:=by repeat (first|exact trivial|refine ⟨rfl,?_⟩)):TC X Q (.loop c) e σ H:=
  TC.zl M (λg:A×B=>(T g.1 g.2).1) (λg=>(T g.1 g.2).2) (λ_=>σ) (λg=>aV F g.1=some r/\K g.1 g.2) (λg=>qI F g.1) (a0,b0) hH rfl hS ⟨h0,hk⟩ λg j h=>Exists.elim (yO h.1) λz hz=>round g.1 g.2 j z hz.1 hz.2 h.2
theorem TC.lp{A B R:Type}{F:A->Option (A⊕R)}{a0:A}{r:R}(h0:aV F a0=some r)(b0:B)(M:List Nat)(T:A->B->List (Nat×Value)×List Res)(hH:Sub (T a0 b0).2 H)
    (round: ∀(g:A) (b:B) (j:Env) (z:A⊕R),F g=some z->Rd F r (qI F g) z->TC X (seqQ (LP M e T (λ_ _=>True) σ F r (qI F g)) Q) c (upds (mask M j e) (T g b).1) σ (T g b).2)
    (hS:Has e (T a0 b0).1:=by repeat (first|exact trivial|refine ⟨rfl,?_⟩)):TC X Q (.loop c) e σ H:=
  TC.lk h0 b0 M T (λ_ _=>True) trivial hH (λg b j z h1 h2 _=>round g b j z h1 h2) hS
theorem nk{A B R:Type}{M:List Nat}{T:A->B->List (Nat×Value)×List Res}{K:A->B->Prop}{F:A->Option (A⊕R)}{r:R}{m:Nat}{z:A⊕R}{s:A}(hR:Rd F r m z)(h:nxt s=some z)(b:B)(hs:Sub (T s b).2 H')(hk:K s b)
    (hA:Agr M e' e:=by repeat (first|exact Agr.refl _ _|exact Agr.mask|refine Agr.upd rfl ?_ |refine Agr.EZ rfl ?_ |refine Agr.upds rfl ?_)) (hS:Has e' (T s b).1:=by repeat (first|exact trivial|refine ⟨rfl,?_⟩)):LP M e T K σ F r m e' σ H':=
  ⟨hA,(s,b),(wG hR h).2,⟨(wG hR h).1,hk⟩,hS,hs,rfl⟩
theorem nx{A B R:Type}{M:List Nat}{T:A->B->List (Nat×Value)×List Res}{F:A->Option (A⊕R)}{r:R}{m:Nat}{z:A⊕R}{s:A}(hR:Rd F r m z)(h:nxt s=some z)(b:B)(hs:Sub (T s b).2 H')
    (hA:Agr M e' e:=by repeat (first|exact Agr.refl _ _|exact Agr.mask|refine Agr.upd rfl ?_ |refine Agr.EZ rfl ?_ |refine Agr.upds rfl ?_)) (hS:Has e' (T s b).1:=by repeat (first|exact trivial|refine ⟨rfl,?_⟩)):LP M e T (λ_ _=>True) σ F r m e' σ H':=
  nk hR h b hs trivial hA hS
end
theorem gd{α:Type}{p:Prop}[Decidable p]{t:Option α}{r:α}(h:grd p t=some r):p/\t=some r:=⟨grd_c h,grd_t h⟩
section
variable {X:Ctx} {o:Oper} {e:Env} {σ:ak} {H F:List Res} {K:Env->ak->List Res->Prop} {x y:Operand}
theorem ξ{E size n:Nat}{v:Value}{xs:List Value}{Q:QP}{c:Code}(i:Nat)(hi:H[i]? =some (Res.row E size v n xs))(k:n<=281474976710656->TC X Q c e σ H):TC X Q c e σ H:=TC.isSl hi λ_ h _=>k h
theorem TL.iS{E size n:Nat}{v:Value}{xs:List Value}{Q:QP}{ops:Array Oper}{l:List Oper}(i:Nat)(hi:H[i]? =some (Res.row E size v n xs))(k:vg v n->TL X ops Q l e σ H):TL X ops Q l e σ H:=TL.isSl hi λh _ _=>k h
theorem litF{α:Type}{T E size d m:Nat}{enc:α->List Value}{parts:Array (Nat×Operand)}{z:Value}(l:List α)(x0:α)(hl: ∀x,(enc x).length=size)(h1: ∀x, ∀u∈enc x,u.oneCell'=true)
    (k: ∀a c,K (upd e d (.slice a l.length c)) σ (ε E size enc (.slice a l.length c) l::H))
    (ho:o.op= .buildSlice T m parts:=by rfl) (ht:X.P.underlying T=some (.slice E):=by exact unF) (hs:szOf X.P E=some size:=by exact szF) (hz:zeroOf X.P E=some z:=by exact zeF)
    (hd:o.dst=some d:=by rfl) (hn:Nat.blt d X.n=true:=by rfl) (hm:l.length=m:=by rfl) (h0:m * size≠0:=by decide) (hbig:m * size<=16777216:=by decide)
    (hx0:z.cells.toList=enc x0:=by rfl) (h00:0<size:=by decide)
    (hf:Iu (λi=>some (i * size,size)) ((List.replicate m x0).flatMap enc) (parts.toList.map λx=>(x.1,ev e x.2))=some (l.flatMap enc):=by rfl) (hmax:m<=281474976710656:=by decide):OpOk X o e σ H K:=
  OpOk.lit l ho ht hs hz hd hn hm hl h0 hbig x0 hx0 h00 hf hmax h1 k
theorem apF{α:Type}{T E size jT d:Nat}{enc:α->List Value}{z v u:Value}{l l2:List α}{ty:TypeId}{p:Prop}(hsrc:sp_ σ F size enc u l2)(hp:p)
    (k: ∀a c,K (upd e d (.slice a (l++l2).length c)) σ (ε E size enc (.slice a (l++l2).length c) (l++l2)::F))
    (ho:o.op= .call {callee:= .builtin .append,args:= #[x,y],argTypes:= #[T,ty]}:=by rfl) (hty:ty=T:=by rfl) (ht:X.P.underlying T=some (.slice E):=by exact unF) (hs:szOf X.P E=some size:=by exact szF) (hby:byOf X.P E=some jT:=by exact byF) (hz:zeroOf X.P E=some z:=by exact zeF)
    (hd:o.dst=some d:=by rfl) (hn:Nat.blt d X.n=true:=by rfl) (hsz:0<size:=by decide) (hzs:z.cells.size=size:=by rfl) (hx:ev e x=v:=by rfl) (hy:ev e y=u:=by rfl) (hb0:p->(l.length+l2.length) * jT<=140737488355328:=by intro h;simpa using h) (kW:0<jT:=by decide):OpOk X o e σ (ε E size enc v l::F) K:=
  OpOk.Z_ ho hty ht hs hby hz hd hn hsz hzs hx hy hsrc (hb0 hp) kW k
end
end Go.E
end

noncomputable section
namespace Go.Proofs.YtcfgkcfcddfccaaGreatDoor
open Go Go.E
theorem and_one(a:Nat):a &&& 1=a % 2:=Nat.and_one_is_mod a
theorem qy_(σ:ak)(s:BSet)(b:Nat)(hs:s.ok)(hb:b<256):Con Tryz.prog 125 #[sK s,.int .u8 (b:Nat)] σ [] (iU (.bool (s.has b)) σ):=by
  have hw:s.word (b / 64)<18446744073709551616:=BSet.word_lt hs _;have hw2:s.word (b / 64) / 2 ^ (b % 64)<18446744073709551616:=Nat.lt_of_le_of_lt (Nat.div_le_self _ _) hw;refine Con.mk (n:=14) Tryz.func125 rfl rfl rfl (λw0=> ?_);refine Ψ ?_;refine υ ?_;refine κ rfl (OpOk.boxA rfl rfl rfl rfl (λb1=> ?_));refine Ξ rfl (OpVal.moveB (.inr rfl) rfl) rfl rfl ?_;refine Ω ?_;refine S.n ?_;refine Ψ ?_;refine υ ?_;refine Ξ rfl (OpVal.fP (.inl rfl) rfl) rfl rfl ?_;refine Ξ rfl (OpVal.quoN (b:=64) rfl rfl rfl (by omega) (by simp only [zG];omega)) rfl rfl ?_;refine Ξ rfl (OpVal.XP rfl Tryz.underlying47 ug rfl rfl (by omega)) rfl rfl ?_;refine Ξ rfl (OpVal.bo_ rfl zF rfl (j:=0) rfl (by omega)) rfl rfl ?_;refine Ξ rfl (OpVal.fP (.inl rfl) rfl) rfl rfl ?_;refine Ξ rfl (OpVal.remN (b:=64) rfl rfl rfl (by omega)) rfl rfl ?_;refine Ξ rfl (OpVal.shrN rfl rfl rfl (by show _<64;omega)) rfl rfl ?_;refine Ξ rfl (OpVal.andN (b:=1) rfl rfl rfl (by omega) (by omega)) rfl rfl ?_;refine Ξ rfl (OpVal.eqlN (b:=1) rfl rfl rfl) rfl rfl ?_;refine Ξ rfl (OpVal.moveB (.inr rfl) rfl) rfl rfl ?_;refine Ω ?_;refine S.n ?_;refine θ ?_
  -- leaf 1 ret [] H=['q2']
  refine qB rfl (congrArg Value.bool ?_);unfold BSet.has;rw [decide_eq_decide,and_one]
theorem ro_(σ:ak)(k:Nat)(hk:k<64):Con Tryz.prog 173 #[.int .i64 (k:Nat)] σ [] (iU (.int .u64 ((2 ^ k:Nat):Int)) σ):=by
  have hp: ∀i,i<k->2 * 2 ^ i<18446744073709551616:=λi hi=>by
    have:2 * 2 ^ i=2 ^ (i+1):=by rw [Nat.pow_succ];omega
    rw [this];exact Nat.lt_of_le_of_lt (Nat.pow_le_pow_right (by omega) (show i+1<=63 by omega)) (by decide)
  refine Con.mk (n:=13) Tryz.func173 rfl rfl rfl (λw0=> ?_);refine Ψ ?_;refine υ ?_;refine Ξ rfl (OpVal.fP (.inr rfl) rfl) rfl rfl ?_;refine Ω ?_;refine S.n ?_;refine Ψ ?_;refine υ ?_;refine Ξ rfl (OpVal.fP (.inr rfl) rfl) rfl rfl ?_;refine Ω ?_;refine S.n ?_;refine Ψ ?_;refine Ψ ?_;refine υ ?_;refine Ξ rfl (OpVal.fP (.inr rfl) rfl) rfl rfl ?_;refine Ω ?_;refine S.n ?_;refine TC.block ?_;refine TC.Pq (α:=Nat) [3,4,5,6,7,8,9,10,11] (λi=>[(3,.int .u64 ((2 ^ i:Nat):Int)),(4,.int .i64 (i:Nat))]) (λ_=>_) (λ_=>_) (λi=>i<=k) (λi=>k - i) (0) (by first|exact True.intro|omega|(dsimp only;omega)|(simp;done)|(simp;omega)) (by repeat (first|exact trivial|refine ⟨rfl,?_⟩)) (by rfl) (by rfl) (λg1 j1 hg1=> ?_);have hp1:g1<k->2 * 2 ^ g1<18446744073709551616:=hp g1;refine Ψ ?_;refine Ψ ?_;refine υ ?_;refine Ξ rfl (OpVal.fP (.inl rfl) rfl) rfl rfl ?_;refine Ξ rfl (OpVal.fP (.inl rfl) rfl) rfl rfl ?_;refine Ξ rfl (OpVal.lss rfl rfl rfl) rfl rfl ?_;refine Ω ?_;refine S.n ?_;refine TC.ES rfl (λh1=> ?_) (λh1=> ?_)
  · try simp only [dA,decide_eq_false_iff_not,Bool.not_eq_true',Bool.not_eq_false',Bool.not_eq_eq_eq_not,Bool.not_true,Bool.not_false,Int.not_lt,Int.not_le,Decidable.not_not]at h1
    refine TC.skip ?_;refine S.n ?_;refine Ψ ?_;refine TC.block ?_;refine υ ?_;refine Ξ rfl (OpVal.fP (.inl rfl) rfl) rfl rfl ?_;refine Ξ rfl (OpVal.mulN (a:=2) rfl rfl rfl (by simp only [zG];omega)) rfl rfl ?_;refine Ξ rfl (OpVal.fP (.inr rfl) rfl) rfl rfl ?_;refine Ω ?_;refine B.n ?_;refine S.n ?_;refine υ ?_;refine Ξ rfl (OpVal.fP (.inl rfl) rfl) rfl rfl ?_;refine Ξ rfl (OpVal.succ rfl rfl rfl (by omega)) rfl rfl ?_;refine Ξ rfl (OpVal.fP (.inr rfl) rfl) rfl rfl ?_;refine Ω ?_;refine S.n ?_
    -- leaf 1 next [h1: True] H=[]
    refine ⟨by repeat (first|exact Agr.mask|refine Agr.upd rfl ?_ |refine Agr.EZ rfl ?_),g1+1,?_,?_,?_,?_,?_⟩
    · omega
    · first|exact True.intro|omega|(dsimp only;omega)|(simp;done)|(simp;omega)
    · exact ⟨congrArg (λx:Nat=>Value.int .u64 (x:Int)) (by rw [Nat.pow_succ];omega),rfl,trivial⟩
    · rfl
    rfl
  try simp only [dA,decide_eq_false_iff_not,Bool.not_eq_true',Bool.not_eq_false',Bool.not_eq_eq_eq_not,Bool.not_true,Bool.not_false,Int.not_lt,Int.not_le,Decidable.not_not]at h1
  refine TC.exit ?_;refine S.x ?_;refine S.x ?_;refine TC.LX ?_;refine S.n ?_;refine Ψ ?_;refine υ ?_;refine Ξ rfl (OpVal.fP (.inl rfl) rfl) rfl rfl ?_;refine Ξ rfl (OpVal.fP (.inr rfl) rfl) rfl rfl ?_;refine Ω ?_;refine S.n ?_;refine θ ?_
  -- leaf 2 ret [h1: False] H=[]
  have:g1=k:=by omega
  subst this;exact qB rfl rfl
theorem qg_(σ:ak)(s:BSet)(b:Nat)(hs:s.ok)(hb:b<256):Con Tryz.prog 116 #[sK s,.int .i64 (b:Nat)] σ [] (iU (.bool (s.has b)) σ):=by
  have hw:s.word (b / 64)<18446744073709551616:=BSet.word_lt hs _;have hd:((b:Int)).tdiv 64=((b / 64:Nat):Int):=by rw [Int.tdiv_eq_ediv_of_nonneg (by omega)];omega
  have hp:0<2 ^ (b % 64):=Nat.pow_pos (by omega);have hq:s.word (b / 64) / 2 ^ (b % 64)<18446744073709551616:=Nat.lt_of_le_of_lt (Nat.div_le_self _ _) hw;refine Con.mk (n:=15) Tryz.func116 rfl rfl rfl (λw0=> ?_);refine Ψ ?_;refine υ ?_;refine κ rfl (OpOk.boxA rfl rfl rfl rfl (λb1=> ?_));refine Ξ rfl (OpVal.moveB (.inr rfl) rfl) rfl rfl ?_;refine Ω ?_;refine S.n ?_;refine Ψ ?_;refine TC.draw [] (by kernel_rfl) ?_;refine TA.qM 0 rfl (by kernel_rfl) (by kernel_rfl) (by kernel_rfl) rfl (OpVal.fP (.inl rfl) rfl) rfl rfl ?_;refine TA.qM 1 rfl (by kernel_rfl) (by kernel_rfl) (by kernel_rfl) rfl (OpVal.quoN (b:=64) rfl rfl rfl (by omega) (by simp only [zG];omega)) rfl rfl ?_;refine TA.qM 2 rfl (by kernel_rfl) (by kernel_rfl) (by kernel_rfl) rfl (OpVal.XP rfl Tryz.underlying47 ug rfl rfl (by omega)) rfl rfl ?_;refine TA.take 3 rfl (by kernel_rfl) (by kernel_rfl) (by kernel_rfl) (by kernel_rfl) rfl (OpVal.bo_ rfl zF rfl (j:=0) rfl (by omega)) rfl rfl ?_;refine TA.qM 4 rfl (by kernel_rfl) (by kernel_rfl) (by kernel_rfl) rfl (OpVal.fP (.inl rfl) rfl) rfl rfl ?_;refine TA.qM 5 rfl (by kernel_rfl) (by kernel_rfl) (by kernel_rfl) rfl (OpVal.remN (b:=64) rfl rfl rfl (by omega)) rfl rfl ?_;refine TA.act 6 (by kernel_rfl) rfl rfl (OpOk.eG (ro_ _ (b % 64) (by omega)) rfl rfl Qy rfl rfl rfl ⟨(λw h=>um (by first|exact ak.le.refl _|assumption) (λr hr=>hr) w h),?_⟩);refine TA.qM 7 rfl (by kernel_rfl) (by kernel_rfl) (by kernel_rfl) rfl (OpVal.quoN rfl rfl rfl (by omega) (by simp only [zG];omega)) rfl rfl ?_;refine TA.qM 8 rfl (by kernel_rfl) (by kernel_rfl) (by kernel_rfl) rfl (OpVal.remN (b:=2) rfl rfl rfl (by omega)) rfl rfl ?_;refine TA.qM 9 rfl (by kernel_rfl) (by kernel_rfl) (by kernel_rfl) rfl (OpVal.eqlN (b:=1) rfl rfl rfl) rfl rfl ?_;refine TA.qM 10 rfl (by kernel_rfl) (by kernel_rfl) (by kernel_rfl) rfl (OpVal.moveB (.inr rfl) rfl) rfl rfl ?_;refine TA.done (by kernel_rfl) ?_;refine S.n ?_;refine θ ?_
  -- leaf 1 ret [] H=['q2']
  refine qB rfl (congrArg Value.bool ?_);unfold BSet.has;rfl
theorem in_yes{l:aj}{x:Int}{k:Nat}(hk:k<l.length)(h:nth l k 0=x):l.contains x=true:=by
  rw [List.contains_iff_mem,<-h];have:=getD_some l hk 0;exact List.mem_of_getElem? this
theorem in_no{l:aj}{x:Int}(h: ∀j,j<l.length->nth l j 0≠x):l.contains x=false:=by
  rw [Bool.eq_false_iff];intro hc;rw [List.contains_iff_mem]at hc;obtain ⟨j,hj,hx⟩:=List.mem_iff_getElem.1 hc;refine h j hj ?_;have:=getD_some l hj 0;rw [List.getElem?_eq_getElem hj,hx]at this;exact (Option.some.inj this).symm
theorem in_con(σ:ak)(a:Option Addr)(c:Nat)(l:aj)(x:Int)(hl:RS σ 1 aB (.slice a l.length c) l):Con Tryz.prog 113 #[.int .i64 x,.slice a l.length c] σ [] (iU (.bool (l.contains x)) σ):=by
  have hb:=hl.rv.big;refine Con.mk (n:=18) Tryz.func113 rfl rfl rfl (λw0=> ?_);refine Ψ ?_;refine υ ?_;refine Ξ rfl (OpVal.moveB (.inr rfl) rfl) rfl rfl ?_;refine Ω ?_;refine S.n ?_;refine Ψ ?_;refine Ψ ?_;refine υ ?_;refine Ξ rfl (OpVal.fP (.inr rfl) rfl) rfl rfl ?_;refine Ω ?_;refine S.n ?_;refine TC.block ?_;refine TC.Pq (α:=Nat) [4,5,6,7,8,9,10,11,12,13,14,15,16,17] (λi=>[(5,.int .i64 (i:Nat))]) (λ_=>_) (λ_=>_) (λi=>i<=l.length/\ ∀j,j<i->nth l j 0≠x) (λi=>l.length - i) (0) (by first|exact True.intro|omega|(dsimp only;omega)|(simp;done)|(simp;omega)) (by repeat (first|exact trivial|refine ⟨rfl,?_⟩)) (by rfl) (by rfl) (λg1 j1 hg1=> ?_);obtain ⟨hk,hi⟩:=hg1;refine Ψ ?_;refine Ψ ?_;refine υ ?_;refine Ξ rfl (OpVal.fP (.inl rfl) rfl) rfl rfl ?_;refine Ξ rfl (OpVal.EY (.inl rfl) rfl) rfl rfl ?_;refine Ξ rfl (OpVal.lenC rfl Tryz.underlying31 rfl) rfl rfl ?_;refine Ξ rfl (OpVal.lss rfl rfl rfl) rfl rfl ?_;refine Ω ?_;refine S.n ?_;refine TC.ES rfl (λh1=> ?_) (λh1=> ?_)
  · try simp only [dA,decide_eq_false_iff_not,Bool.not_eq_true',Bool.not_eq_false',Bool.not_eq_eq_eq_not,Bool.not_true,Bool.not_false,Int.not_lt,Int.not_le,Decidable.not_not]at h1
    refine TC.skip ?_;refine S.n ?_;refine Ψ ?_;refine TC.block ?_;refine Ψ ?_;refine υ ?_;refine Ξ rfl (OpVal.EY (.inl rfl) rfl) rfl rfl ?_;refine Ξ rfl (OpVal.fP (.inl rfl) rfl) rfl rfl ?_;refine Ξ rfl (OpVal.zk rfl Tryz.underlying31 lG rfl rfl (by first|assumption|exact (RS.rv (by assumption)).sl) (by omega)) rfl rfl ?_;refine Ξ rfl (OpVal.Uc (0:Int) rfl vS rfl (by assumption) (by omega) rfl) rfl rfl ?_;refine Ξ rfl (OpVal.fP (.inl rfl) rfl) rfl rfl ?_;refine Ξ rfl (OpVal.eql rfl rfl rfl) rfl rfl ?_;refine Ω ?_;refine S.n ?_;refine TC.ES rfl (λh2=> ?_) (λh2=> ?_)
    · try simp only [dA,decide_eq_false_iff_not,Bool.not_eq_true',Bool.not_eq_false',Bool.not_eq_eq_eq_not,Bool.not_true,Bool.not_false,Int.not_lt,Int.not_le,Decidable.not_not]at h2
      refine Ψ ?_;refine υ ?_;refine Ξ rfl (OpVal.moveB (.inr rfl) rfl) rfl rfl ?_;refine Ω ?_;refine S.n ?_;refine θ ?_;refine B.r ?_;refine S.r ?_;refine S.r ?_;refine B.r ?_;refine S.r ?_
      -- leaf 1 ret [h1: True; h2: True] H=[]
      refine qB rfl (congrArg Value.bool ?_);exact (in_yes (k:=g1) (by omega) h2).symm
    try simp only [dA,decide_eq_false_iff_not,Bool.not_eq_true',Bool.not_eq_false',Bool.not_eq_eq_eq_not,Bool.not_true,Bool.not_false,Int.not_lt,Int.not_le,Decidable.not_not]at h2
    refine TC.skip ?_;refine B.n ?_;refine S.n ?_;refine υ ?_;refine Ξ rfl (OpVal.fP (.inl rfl) rfl) rfl rfl ?_;refine Ξ rfl (OpVal.succ rfl rfl rfl (by omega)) rfl rfl ?_;refine Ξ rfl (OpVal.fP (.inr rfl) rfl) rfl rfl ?_;refine Ω ?_;refine S.n ?_
    -- leaf 2 next [h1: True; h2: False] H=[]
    refine ⟨by repeat (first|exact Agr.mask|refine Agr.upd rfl ?_ |refine Agr.EZ rfl ?_),g1+1,?_,?_,?_,?_,?_⟩
    · omega
    · exact ⟨by omega,λj hj=>by rcases Nat.lt_succ_iff_lt_or_eq.1 hj with h|rfl;exact hi j h;exact h2⟩
    · repeat (first|exact trivial|refine ⟨rfl,?_⟩)
    · rfl
    rfl
  try simp only [dA,decide_eq_false_iff_not,Bool.not_eq_true',Bool.not_eq_false',Bool.not_eq_eq_eq_not,Bool.not_true,Bool.not_false,Int.not_lt,Int.not_le,Decidable.not_not]at h1
  refine TC.exit ?_;refine S.x ?_;refine S.x ?_;refine TC.LX ?_;refine S.n ?_;refine Ψ ?_;refine υ ?_;refine Ξ rfl (OpVal.moveB (.inr rfl) rfl) rfl rfl ?_;refine Ω ?_;refine S.n ?_;refine θ ?_
  -- leaf 3 ret [h1: False] H=[]
  refine qB rfl (congrArg Value.bool ?_);exact (in_no (λj hj=>hi j (by omega))).symm
def zN(s n:Int):Bool:=decide (0<=s) && decide (s<n)
def C_(n:Int)(l:aj)(i:Nat):Bool:=zN (nth l i 0) n && !(decide (0<i) && decide (nth l i 0<=nth l (i - 1) 0))
def GY(l:aj)(n:Int):Bool:=(List.range l.length).all (C_ n l)
theorem lq_{l:aj}{st:Int}{k:Nat}(hk:k<l.length)(h:C_ st l k=false):GY l st=false:=by
  unfold GY;rw [List.all_eq_false];exact ⟨k,by simpa using hk,by simp [h]⟩
theorem sc_{l:aj}{st:Int}{k:Nat}(hk:l.length<=k)(h: ∀i,i<k->C_ st l i=true):GY l st=true:=by
  unfold GY;rw [List.all_eq_true];intro i hi;exact h i (by have:=List.mem_range.1 hi;omega)
theorem ZG{p:Nat->Bool}{k:Nat}(h: ∀i,i<k->p i=true)(hk:p k=true): ∀i,i<k+1->p i=true:=λi hi=>by
  rcases Nat.lt_succ_iff_lt_or_eq.1 hi with h'|rfl
  · exact h i h'
  exact hk
theorem ta_{l:aj}{st:Int}(h:GY l st=true): ∀x∈l,0<=x/\x<st:=by
  unfold GY at h;rw [List.all_eq_true]at h;intro x hx;obtain ⟨j,hj,rfl⟩:=List.mem_iff_getElem.1 hx;have:=h j (List.mem_range.2 hj);have h2:=getD_some l hj 0;rw [List.getElem?_eq_getElem hj,Option.some.injEq]at h2;simp only [C_,zN,Bool.and_eq_true,dA]at this;rw [h2];exact ⟨this.1.1,this.1.2⟩
def if_(n:Int)(x:Arrow):Bool:=zN x.frm n && zN x.to n && !decide (x.set=BSet.zero)
def kJ(n:Nfa):Bool:=decide (0<=n.states) && decide (n.states<=4096) && decide ((n.edges.length:Int)<=65536) && GY n.starts n.states && GY n.ends n.states && n.edges.all (if_ n.states)
def A8(b:Bool):Int:=if b then 0 else 1
theorem hs_{n:Nfa}{k:Nat}(hk:k<n.edges.length)(h:if_ n.states (nth n.edges k Arrow.zero)=false):n.edges.all (if_ n.states)=false:=by
  rw [List.all_eq_false];exact ⟨_,List.mem_of_getElem? (getD_some n.edges hk Arrow.zero),by simp [h]⟩
theorem ry_{n:Nfa}(h: ∀i,i<n.edges.length->if_ n.states (nth n.edges i Arrow.zero)=true):n.edges.all (if_ n.states)=true:=by
  rw [List.all_eq_true];intro x hx;obtain ⟨j,hj,rfl⟩:=List.mem_iff_getElem.1 hx;have h2:=getD_some n.edges hj Arrow.zero;rw [List.getElem?_eq_getElem hj,Option.some.injEq]at h2;rw [h2];exact h j hj
theorem p6_{α:Type}(l:List α){k:Nat}(hk:k<l.length)(d:α):l.take (k+1)=l.take k++[nth l k d]:=by
  rw [List.take_add_one,getD_some l hk d];rfl
theorem nth_mem{α:Type}{l:List α}{i:Nat}(h:i<l.length)(d:α):nth l i d∈l:=List.mem_of_getElem? (getD_some l h d)
theorem nr_(σ:ak)(s n:Int):Con Tryz.prog 145 #[.int .i64 s,.int .i64 n] σ [] (iU (.bool (zN s n)) σ):=by
  refine Con.mk (n:=12) Tryz.func145 rfl rfl rfl (λw0=> ?_);refine Ψ ?_;refine υ ?_;refine Ξ rfl (OpVal.moveB (.inr rfl) rfl) rfl rfl ?_;refine Ω ?_;refine S.n ?_;refine Ψ ?_;refine υ ?_;refine Ξ rfl (OpVal.fP (.inl rfl) rfl) rfl rfl ?_;refine Ξ rfl (OpVal.leq rfl rfl rfl) rfl rfl ?_;refine Ξ rfl (OpVal.moveB (.inl rfl) rfl) rfl rfl ?_;refine Γ 7 rfl (λh1=> ?_) (λh1=> ?_)
  · try simp only [dA,decide_eq_false_iff_not,Bool.not_eq_true',Bool.not_eq_false',Bool.not_eq_eq_eq_not,Bool.not_true,Bool.not_false,Int.not_lt,Int.not_le,Decidable.not_not]at h1
    refine TL.gv rfl rfl rfl rfl rfl (OpVal.fP (.inl rfl) rfl) rfl rfl ?_;refine TL.gv rfl rfl rfl rfl rfl (OpVal.fP (.inl rfl) rfl) rfl rfl ?_;refine TL.gv rfl rfl rfl rfl rfl (OpVal.lss rfl rfl rfl) rfl rfl ?_;refine Ξ rfl (OpVal.lF rfl rfl rfl) rfl rfl ?_;refine Ξ rfl (OpVal.moveB (.inr rfl) rfl) rfl rfl ?_;refine Ω ?_;refine S.n ?_;refine θ ?_
    -- leaf 1 ret [h1: t7=True] H=[]
    refine qB rfl (congrArg Value.bool ?_);simp [zN, *]<;>omega
  try simp only [dA,decide_eq_false_iff_not,Bool.not_eq_true',Bool.not_eq_false',Bool.not_eq_eq_eq_not,Bool.not_true,Bool.not_false,Int.not_lt,Int.not_le,Decidable.not_not]at h1
  refine χ rfl rfl rfl rfl rfl rfl rfl rfl ?_;refine χ rfl rfl rfl rfl rfl rfl rfl rfl ?_;refine χ rfl rfl rfl rfl rfl rfl rfl rfl ?_;refine Ξ rfl (OpVal.qN rfl rfl rfl) rfl rfl ?_;refine Ξ rfl (OpVal.moveB (.inr rfl) rfl) rfl rfl ?_;refine Ω ?_;refine S.n ?_;refine θ ?_
  -- leaf 2 ret [h1: t7=False] H=[]
  refine qB rfl (congrArg Value.bool ?_);simp [zN, *]<;>omega
theorem tj_ (σ : ak) (a : Option Addr) (c : Nat) (l : aj) (st : Int) (hl : RS σ 1 aB (.slice a l.length c) l) :
    Con Tryz.prog 144 #[.slice a l.length c,.int .i64 st] σ [] (iU (.bool (GY l st)) σ):=by
  have hb:=hl.rv.big;refine Con.mk (n:=32) Tryz.func144 rfl rfl rfl (λw0=> ?_);refine Ψ ?_;refine υ ?_;refine Ξ rfl (OpVal.moveB (.inr rfl) rfl) rfl rfl ?_;refine Ω ?_;refine S.n ?_;refine Ψ ?_;refine Ψ ?_;refine υ ?_;refine Ξ rfl (OpVal.EY (.inl rfl) rfl) rfl rfl ?_;refine Ξ rfl (OpVal.lenC rfl Tryz.underlying31 rfl) rfl rfl ?_;refine Ξ rfl (OpVal.fP (.inl rfl) rfl) rfl rfl ?_;refine Ω ?_;refine S.n ?_;refine TC.block ?_;refine TC.Pq (α:=Nat) [4,5,6,9,10,11,12,13,14,15,16,17,18,19,20,21,22,23,24,25,26,27,28,29,30,31] (λk=>[(9,.int .i64 (k:Nat))]) (λ_=>_) (λ_=>_) (λk=>k<=l.length/\ ∀i,i<k->C_ st l i=true) (λk=>l.length - k) (0) (by first|exact True.intro|omega|(dsimp only;omega)|(simp;done)|(simp;omega)) (by repeat (first|exact trivial|refine ⟨rfl,?_⟩)) (by rfl) (by rfl) (λg1 j1 hg1=> ?_);obtain ⟨hk,hi⟩:=hg1;refine Ψ ?_;refine υ ?_;refine Ξ rfl (OpVal.lss rfl rfl rfl) rfl rfl ?_;refine Ω ?_;refine S.n ?_;refine Ψ ?_;refine TC.ES rfl (λh1=> ?_) (λh1=> ?_)
  · try simp only [dA, decide_eq_false_iff_not, Bool.not_eq_true', Bool.not_eq_false', Bool.not_eq_eq_eq_not, Bool.not_true, Bool.not_false, Int.not_lt, Int.not_le, Decidable.not_not] at h1
    refine TC.skip ?_;refine S.n ?_;refine Ψ ?_;refine TC.block ?_;refine Ψ ?_;refine υ ?_;refine Ξ rfl (OpVal.fP (.inl rfl) rfl) rfl rfl ?_;refine Ξ rfl (OpVal.zk rfl Tryz.underlying31 lG rfl rfl (by first|assumption|exact (RS.rv (by assumption)).sl) (by omega)) rfl rfl ?_;refine Ξ rfl (OpVal.Uc (0:Int) rfl vS rfl (by assumption) (by omega) rfl) rfl rfl ?_;refine Ξ rfl (OpVal.fP (.inr rfl) rfl) rfl rfl ?_;refine Ξ rfl (OpVal.fP (.inr rfl) rfl) rfl rfl ?_;refine Ω ?_;refine S.n ?_;refine Ψ ?_;refine υ ?_;refine Ξ rfl (OpVal.fP (.inl rfl) rfl) rfl rfl ?_;refine Ξ rfl (OpVal.fP (.inl rfl) rfl) rfl rfl ?_;refine κ rfl (OpOk.eG (nr_ _ _ _) rfl rfl Jm rfl rfl rfl ?_);refine Ξ rfl (OpVal.not rfl rfl) rfl rfl ?_;refine Ξ rfl (OpVal.moveB (.inl rfl) rfl) rfl rfl ?_;refine Γ 18 rfl (λh2=> ?_) (λh2=> ?_)
    · try simp only [dA,decide_eq_false_iff_not,Bool.not_eq_true',Bool.not_eq_false',Bool.not_eq_eq_eq_not,Bool.not_true,Bool.not_false,Int.not_lt,Int.not_le,Decidable.not_not]at h2
      refine χ rfl rfl rfl rfl rfl rfl rfl rfl ?_;refine χ rfl rfl rfl rfl rfl rfl rfl rfl ?_;refine χ rfl rfl rfl rfl rfl rfl rfl rfl ?_;refine TL.Xk rfl rfl rfl rfl rfl rfl rfl ?_;refine TL.Xk rfl rfl rfl rfl rfl rfl rfl ?_;refine TL.Xk rfl rfl rfl rfl rfl rfl rfl ?_;refine TL.Xk rfl rfl rfl rfl rfl rfl rfl ?_;refine TL.Xk rfl rfl rfl rfl rfl rfl rfl ?_;refine TL.Xk rfl rfl rfl rfl rfl rfl rfl ?_;refine TL.Xk rfl rfl rfl rfl rfl rfl rfl ?_;refine χ rfl rfl rfl rfl rfl rfl rfl rfl ?_;refine Ξ rfl (OpVal.lF rfl rfl rfl) rfl rfl ?_;refine Ω ?_;refine S.n ?_;refine TC.cond rfl (λ_=> ?_) (λh=>Bool.noConfusion h);refine Ψ ?_;refine υ ?_;refine Ξ rfl (OpVal.moveB (.inr rfl) rfl) rfl rfl ?_;refine Ω ?_;refine S.n ?_;refine θ ?_;refine B.r ?_;refine S.r ?_;refine S.r ?_;refine B.r ?_;refine S.r ?_
      -- leaf 1 ret [h1: True; h2: su=True] H=[]
      refine qB rfl (congrArg Value.bool ?_);exact (lq_ (k:=g1) (by omega) (by simp [C_,h2])).symm
    try simp only [dA,decide_eq_false_iff_not,Bool.not_eq_true',Bool.not_eq_false',Bool.not_eq_eq_eq_not,Bool.not_true,Bool.not_false,Int.not_lt,Int.not_le,Decidable.not_not]at h2
    refine TL.gv rfl rfl rfl rfl rfl (OpVal.fP (.inl rfl) rfl) rfl rfl ?_;refine TL.gv rfl rfl rfl rfl rfl (OpVal.gtr rfl rfl rfl) rfl rfl ?_;refine TL.gv rfl rfl rfl rfl rfl (OpVal.moveB (.inl rfl) rfl) rfl rfl ?_;refine Γ 21 rfl (λh3=> ?_) (λh3=> ?_)
    · try simp only [dA,decide_eq_false_iff_not,Bool.not_eq_true',Bool.not_eq_false',Bool.not_eq_eq_eq_not,Bool.not_true,Bool.not_false,Int.not_lt,Int.not_le,Decidable.not_not]at h3
      refine TL.gv rfl rfl rfl rfl rfl (OpVal.fP (.inl rfl) rfl) rfl rfl ?_;refine TL.gv rfl rfl rfl rfl rfl (OpVal.EY (.inl rfl) rfl) rfl rfl ?_;refine TL.gv rfl rfl rfl rfl rfl (OpVal.fP (.inl rfl) rfl) rfl rfl ?_;refine TL.gv rfl rfl rfl rfl rfl (OpVal.sub rfl rfl rfl (by omega) (by omega)) rfl rfl ?_;refine TL.gv rfl rfl rfl rfl rfl (OpVal.index rfl Tryz.underlying31 lG rfl rfl (by first|assumption|exact (RS.rv (by assumption)).sl) (by omega) (by omega)) rfl rfl ?_;refine TL.gv rfl rfl rfl rfl rfl (OpVal.Uc (0:Int) rfl vS rfl (by assumption) (by omega) rfl) rfl rfl ?_;refine TL.gv rfl rfl rfl rfl rfl (OpVal.leq rfl rfl rfl) rfl rfl ?_;refine TL.gv rfl rfl rfl rfl rfl (OpVal.lF rfl rfl rfl) rfl rfl ?_;refine Ξ rfl (OpVal.qN rfl rfl rfl) rfl rfl ?_;refine Ω ?_;refine S.n ?_;refine TC.ES rfl (λh4=> ?_) (λh4=> ?_)
      · try simp only [dA,decide_eq_false_iff_not,Bool.not_eq_true',Bool.not_eq_false',Bool.not_eq_eq_eq_not,Bool.not_true,Bool.not_false,Int.not_lt,Int.not_le,Decidable.not_not]at h4
        refine Ψ ?_;refine υ ?_;refine Ξ rfl (OpVal.moveB (.inr rfl) rfl) rfl rfl ?_;refine Ω ?_;refine S.n ?_;refine θ ?_;refine B.r ?_;refine S.r ?_;refine S.r ?_;refine B.r ?_;refine S.r ?_
        -- leaf 2 ret [h1: True; h2: su=False; h3: t21=True; h4: True] H=[]
        refine qB rfl (congrArg Value.bool ?_);exact (lq_ (k:=g1) (by omega) (by rw [show ((g1:Int) - 1).toNat=g1 - 1 from by omega]at h4;simp [C_,h2,h4];omega)).symm
      try simp only [dA,decide_eq_false_iff_not,Bool.not_eq_true',Bool.not_eq_false',Bool.not_eq_eq_eq_not,Bool.not_true,Bool.not_false,Int.not_lt,Int.not_le,Decidable.not_not]at h4
      refine TC.skip ?_;refine B.n ?_;refine S.n ?_;refine υ ?_;refine Ξ rfl (OpVal.succ rfl rfl rfl (by omega)) rfl rfl ?_;refine Ξ rfl (OpVal.fP (.inl rfl) rfl) rfl rfl ?_;refine Ω ?_;refine S.n ?_
      -- leaf 3 next [h1: True; h2: su=False; h3: t21=True; h4: False] H=[]
      refine ⟨by repeat (first|exact Agr.mask|refine Agr.upd rfl ?_ |refine Agr.EZ rfl ?_),g1+1,?_,?_,?_,?_,?_⟩
      · omega
      · exact ⟨by omega,ZG hi (by rw [show ((g1:Int) - 1).toNat=g1 - 1 from by omega]at h4;simp [C_,h2];omega)⟩
      · repeat (first|exact trivial|refine ⟨rfl,?_⟩)
      · rfl
      rfl
    try simp only [dA,decide_eq_false_iff_not,Bool.not_eq_true',Bool.not_eq_false',Bool.not_eq_eq_eq_not,Bool.not_true,Bool.not_false,Int.not_lt,Int.not_le,Decidable.not_not]at h3
    refine χ rfl rfl rfl rfl rfl rfl rfl rfl ?_;refine χ rfl rfl rfl rfl rfl rfl rfl rfl ?_;refine χ rfl rfl rfl rfl rfl rfl rfl rfl ?_;refine χ rfl rfl rfl rfl rfl rfl rfl rfl ?_;refine χ rfl rfl rfl rfl rfl rfl rfl rfl ?_;refine χ rfl rfl rfl rfl rfl rfl rfl rfl ?_;refine χ rfl rfl rfl rfl rfl rfl rfl rfl ?_;refine TL.gv rfl rfl rfl rfl rfl (OpVal.qN rfl rfl rfl) rfl rfl ?_;refine Ξ rfl (OpVal.qN rfl rfl rfl) rfl rfl ?_;refine Ω ?_;refine S.n ?_;refine TC.cond rfl (λh=>Bool.noConfusion h) (λ_=> ?_);refine TC.skip ?_;refine B.n ?_;refine S.n ?_;refine υ ?_;refine Ξ rfl (OpVal.succ rfl rfl rfl (by omega)) rfl rfl ?_;refine Ξ rfl (OpVal.fP (.inl rfl) rfl) rfl rfl ?_;refine Ω ?_;refine S.n ?_
    -- leaf 4 next [h1: True; h2: su=False; h3: t21=False] H=[]
    refine ⟨by repeat (first|exact Agr.mask|refine Agr.upd rfl ?_ |refine Agr.EZ rfl ?_),g1+1,?_,?_,?_,?_,?_⟩
    · omega
    · exact ⟨by omega,ZG hi (by simp [C_,h2];omega)⟩
    · repeat (first|exact trivial|refine ⟨rfl,?_⟩)
    · rfl
    rfl
  try simp only [dA,decide_eq_false_iff_not,Bool.not_eq_true',Bool.not_eq_false',Bool.not_eq_eq_eq_not,Bool.not_true,Bool.not_false,Int.not_lt,Int.not_le,Decidable.not_not]at h1
  refine TC.exit ?_;refine S.x ?_;refine S.x ?_;refine TC.LX ?_;refine S.n ?_;refine Ψ ?_;refine υ ?_;refine Ξ rfl (OpVal.moveB (.inr rfl) rfl) rfl rfl ?_;refine Ω ?_;refine S.n ?_;refine θ ?_
  -- leaf 5 ret [h1: False] H=[]
  refine qB rfl (congrArg Value.bool ?_);exact (sc_ (k:=g1) (by omega) hi).symm
theorem pf_ (σ : ak) (a : Option Addr) (c : Nat) (l : aj) (st : Int) (hl : RS σ 1 aB (.slice a l.length c) l) :
    Con Tryz.prog 169 #[.slice a l.length c,.int .i64 st] σ [] (iU (.bool (GY l st)) σ):=by
  have hb:=hl.rv.big;refine Con.mk (n:=41) Tryz.func169 rfl rfl rfl (λw0=> ?_);refine Ψ ?_;refine υ ?_;refine Ξ rfl (OpVal.moveB (.inr rfl) rfl) rfl rfl ?_;refine Ω ?_;refine S.n ?_;refine Ψ ?_;refine Ψ ?_;refine υ ?_;refine Ξ rfl (OpVal.fP (.inr rfl) rfl) rfl rfl ?_;refine Ω ?_;refine S.n ?_;refine TC.block ?_;refine TC.Pq (α:=Nat) [4,5,6,7,8,9,10,11,12,13,14,15,16,17,18,19,20,21,22,23,24,25,26,27,28,29,30,31,32,33,34,35,36,37,38,39,40] (λk=>[(5,.int .i64 (k:Nat))]) (λ_=>_) (λ_=>_) (λk=>k<=l.length/\ ∀i,i<k->C_ st l i=true) (λk=>l.length - k) (0) (by first|exact True.intro|omega|(dsimp only;omega)|(simp;done)|(simp;omega)) (by repeat (first|exact trivial|refine ⟨rfl,?_⟩)) (by rfl) (by rfl) (λg1 j1 hg1=> ?_);obtain ⟨hk,hi⟩:=hg1;refine Ψ ?_;refine Ψ ?_;refine υ ?_;refine Ξ rfl (OpVal.fP (.inl rfl) rfl) rfl rfl ?_;refine Ξ rfl (OpVal.EY (.inl rfl) rfl) rfl rfl ?_;refine Ξ rfl (OpVal.lenC rfl Tryz.underlying31 rfl) rfl rfl ?_;refine Ξ rfl (OpVal.lss rfl rfl rfl) rfl rfl ?_;refine Ω ?_;refine S.n ?_;refine TC.ES rfl (λh1=> ?_) (λh1=> ?_)
  · try simp only [dA, decide_eq_false_iff_not, Bool.not_eq_true', Bool.not_eq_false', Bool.not_eq_eq_eq_not, Bool.not_true, Bool.not_false, Int.not_lt, Int.not_le, Decidable.not_not] at h1
    refine TC.skip ?_;refine S.n ?_;refine Ψ ?_;refine TC.block ?_;refine Ψ ?_;refine TC.draw [] (by kernel_rfl) ?_;refine TA.qM 0 rfl (by kernel_rfl) (by kernel_rfl) (by kernel_rfl) rfl (OpVal.EY (.inl rfl) rfl) rfl rfl ?_;refine TA.qM 1 rfl (by kernel_rfl) (by kernel_rfl) (by kernel_rfl) rfl (OpVal.fP (.inl rfl) rfl) rfl rfl ?_;refine TA.qM 2 rfl (by kernel_rfl) (by kernel_rfl) (by kernel_rfl) rfl (OpVal.zk rfl Tryz.underlying31 lG rfl rfl (by first|assumption|exact (RS.rv (by assumption)).sl) (by omega)) rfl rfl ?_;refine TA.take 3 rfl (by kernel_rfl) (by kernel_rfl) (by kernel_rfl) (by kernel_rfl) rfl (OpVal.Uc (0:Int) rfl vS rfl (by assumption) (by omega) rfl) rfl rfl ?_;refine TA.qM 4 rfl (by kernel_rfl) (by kernel_rfl) (by kernel_rfl) rfl (OpVal.lss rfl rfl rfl) rfl rfl ?_;refine TA.qM 5 rfl (by kernel_rfl) (by kernel_rfl) (by kernel_rfl) rfl (OpVal.moveB (.inl rfl) rfl) rfl rfl ?_;refine TA.split 17 rfl (λh2=> ?_) (λh2=> ?_)
    · try simp only [dA,decide_eq_false_iff_not,Bool.not_eq_true',Bool.not_eq_false',Bool.not_eq_eq_eq_not,Bool.not_true,Bool.not_false,Int.not_lt,Int.not_le,Decidable.not_not]at h2
      refine TA.wV 6 rfl (by kernel_rfl) (by kernel_rfl) (by kernel_rfl) (by kernel_rfl) rfl rfl rfl rfl rfl rfl rfl rfl ?_;refine TA.wV 7 rfl (by kernel_rfl) (by kernel_rfl) (by kernel_rfl) (by kernel_rfl) rfl rfl rfl rfl rfl rfl rfl rfl ?_;refine TA.wV 8 rfl (by kernel_rfl) (by kernel_rfl) (by kernel_rfl) (by kernel_rfl) rfl rfl rfl rfl rfl rfl rfl rfl ?_;refine TA.wV 9 rfl (by kernel_rfl) (by kernel_rfl) (by kernel_rfl) (by kernel_rfl) rfl rfl rfl rfl rfl rfl rfl rfl ?_;refine TA.wV 10 rfl (by kernel_rfl) (by kernel_rfl) (by kernel_rfl) (by kernel_rfl) rfl rfl rfl rfl rfl rfl rfl rfl ?_;refine TA.wV 11 rfl (by kernel_rfl) (by kernel_rfl) (by kernel_rfl) (by kernel_rfl) rfl rfl rfl rfl rfl rfl rfl rfl ?_;refine TA.qM 12 rfl (by kernel_rfl) (by kernel_rfl) (by kernel_rfl) rfl (OpVal.lF rfl rfl rfl) rfl rfl ?_;refine TA.qM 13 rfl (by kernel_rfl) (by kernel_rfl) (by kernel_rfl) rfl (OpVal.moveB (.inl rfl) rfl) rfl rfl ?_;refine TA.wV 14 rfl (by kernel_rfl) (by kernel_rfl) (by kernel_rfl) (by kernel_rfl) rfl rfl rfl rfl rfl rfl rfl rfl ?_;refine TA.wV 15 rfl (by kernel_rfl) (by kernel_rfl) (by kernel_rfl) (by kernel_rfl) rfl rfl rfl rfl rfl rfl rfl rfl ?_;refine TA.wV 16 rfl (by kernel_rfl) (by kernel_rfl) (by kernel_rfl) (by kernel_rfl) rfl rfl rfl rfl rfl rfl rfl rfl ?_;refine TA.zS 17 rfl (by kernel_rfl) (by kernel_rfl) (by kernel_rfl) (by kernel_rfl) rfl rfl rfl rfl rfl rfl rfl ?_;refine TA.zS 18 rfl (by kernel_rfl) (by kernel_rfl) (by kernel_rfl) (by kernel_rfl) rfl rfl rfl rfl rfl rfl rfl ?_;refine TA.zS 19 rfl (by kernel_rfl) (by kernel_rfl) (by kernel_rfl) (by kernel_rfl) rfl rfl rfl rfl rfl rfl rfl ?_;refine TA.zS 20 rfl (by kernel_rfl) (by kernel_rfl) (by kernel_rfl) (by kernel_rfl) rfl rfl rfl rfl rfl rfl rfl ?_;refine TA.zS 21 rfl (by kernel_rfl) (by kernel_rfl) (by kernel_rfl) (by kernel_rfl) rfl rfl rfl rfl rfl rfl rfl ?_;refine TA.zS 22 rfl (by kernel_rfl) (by kernel_rfl) (by kernel_rfl) (by kernel_rfl) rfl rfl rfl rfl rfl rfl rfl ?_;refine TA.zS 23 rfl (by kernel_rfl) (by kernel_rfl) (by kernel_rfl) (by kernel_rfl) rfl rfl rfl rfl rfl rfl rfl ?_;refine TA.zS 24 rfl (by kernel_rfl) (by kernel_rfl) (by kernel_rfl) (by kernel_rfl) rfl rfl rfl rfl rfl rfl rfl ?_;refine TA.zS 25 rfl (by kernel_rfl) (by kernel_rfl) (by kernel_rfl) (by kernel_rfl) rfl rfl rfl rfl rfl rfl rfl ?_;refine TA.zS 26 rfl (by kernel_rfl) (by kernel_rfl) (by kernel_rfl) (by kernel_rfl) rfl rfl rfl rfl rfl rfl rfl ?_;refine TA.wV 27 rfl (by kernel_rfl) (by kernel_rfl) (by kernel_rfl) (by kernel_rfl) rfl rfl rfl rfl rfl rfl rfl rfl ?_;refine TA.qM 28 rfl (by kernel_rfl) (by kernel_rfl) (by kernel_rfl) rfl (OpVal.lF rfl rfl rfl) rfl rfl ?_;refine TA.done (by kernel_rfl) ?_;refine S.n ?_;refine TC.cond rfl (λ_=> ?_) (λh=>Bool.noConfusion h);refine Ψ ?_;refine υ ?_;refine Ξ rfl (OpVal.moveB (.inr rfl) rfl) rfl rfl ?_;refine Ω ?_;refine S.n ?_;refine θ ?_;refine B.r ?_;refine S.r ?_;refine S.r ?_;refine B.r ?_;refine S.r ?_
      -- leaf 1 ret [h1: True; h2: t17=True] H=[]
      refine qB rfl (congrArg Value.bool ?_);exact (lq_ (k:=g1) (by omega) (by simp [C_,zN];omega)).symm
    try simp only [dA,decide_eq_false_iff_not,Bool.not_eq_true',Bool.not_eq_false',Bool.not_eq_eq_eq_not,Bool.not_true,Bool.not_false,Int.not_lt,Int.not_le,Decidable.not_not]at h2
    refine TA.as_ 6 rfl (by kernel_rfl) (by kernel_rfl) (by kernel_rfl) (by kernel_rfl) rfl rfl rfl rfl rfl (OpVal.EY (.inl rfl) rfl) rfl rfl ?_;refine TA.as_ 7 rfl (by kernel_rfl) (by kernel_rfl) (by kernel_rfl) (by kernel_rfl) rfl rfl rfl rfl rfl (OpVal.fP (.inl rfl) rfl) rfl rfl ?_;refine TA.as_ 8 rfl (by kernel_rfl) (by kernel_rfl) (by kernel_rfl) (by kernel_rfl) rfl rfl rfl rfl rfl (OpVal.zk rfl Tryz.underlying31 lG rfl rfl (by first|assumption|exact (RS.rv (by assumption)).sl) (by omega)) rfl rfl ?_;refine TA.as_ 9 rfl (by kernel_rfl) (by kernel_rfl) (by kernel_rfl) (by kernel_rfl) rfl rfl rfl rfl rfl (OpVal.Uc (0:Int) rfl vS rfl (by assumption) (by omega) rfl) rfl rfl ?_;refine TA.as_ 10 rfl (by kernel_rfl) (by kernel_rfl) (by kernel_rfl) (by kernel_rfl) rfl rfl rfl rfl rfl (OpVal.fP (.inl rfl) rfl) rfl rfl ?_;refine TA.as_ 11 rfl (by kernel_rfl) (by kernel_rfl) (by kernel_rfl) (by kernel_rfl) rfl rfl rfl rfl rfl (OpVal.geq rfl rfl rfl) rfl rfl ?_;refine TA.qM 12 rfl (by kernel_rfl) (by kernel_rfl) (by kernel_rfl) rfl (OpVal.qN rfl rfl rfl) rfl rfl ?_;refine TA.qM 13 rfl (by kernel_rfl) (by kernel_rfl) (by kernel_rfl) rfl (OpVal.moveB (.inl rfl) rfl) rfl rfl ?_;refine TA.split 25 rfl (λh3=> ?_) (λh3=> ?_)
    · try simp only [dA,decide_eq_false_iff_not,Bool.not_eq_true',Bool.not_eq_false',Bool.not_eq_eq_eq_not,Bool.not_true,Bool.not_false,Int.not_lt,Int.not_le,Decidable.not_not]at h3
      refine TA.wV 14 rfl (by kernel_rfl) (by kernel_rfl) (by kernel_rfl) (by kernel_rfl) rfl rfl rfl rfl rfl rfl rfl rfl ?_;refine TA.wV 15 rfl (by kernel_rfl) (by kernel_rfl) (by kernel_rfl) (by kernel_rfl) rfl rfl rfl rfl rfl rfl rfl rfl ?_;refine TA.wV 16 rfl (by kernel_rfl) (by kernel_rfl) (by kernel_rfl) (by kernel_rfl) rfl rfl rfl rfl rfl rfl rfl rfl ?_;refine TA.zS 17 rfl (by kernel_rfl) (by kernel_rfl) (by kernel_rfl) (by kernel_rfl) rfl rfl rfl rfl rfl rfl rfl ?_;refine TA.zS 18 rfl (by kernel_rfl) (by kernel_rfl) (by kernel_rfl) (by kernel_rfl) rfl rfl rfl rfl rfl rfl rfl ?_;refine TA.zS 19 rfl (by kernel_rfl) (by kernel_rfl) (by kernel_rfl) (by kernel_rfl) rfl rfl rfl rfl rfl rfl rfl ?_;refine TA.zS 20 rfl (by kernel_rfl) (by kernel_rfl) (by kernel_rfl) (by kernel_rfl) rfl rfl rfl rfl rfl rfl rfl ?_;refine TA.zS 21 rfl (by kernel_rfl) (by kernel_rfl) (by kernel_rfl) (by kernel_rfl) rfl rfl rfl rfl rfl rfl rfl ?_;refine TA.zS 22 rfl (by kernel_rfl) (by kernel_rfl) (by kernel_rfl) (by kernel_rfl) rfl rfl rfl rfl rfl rfl rfl ?_;refine TA.zS 23 rfl (by kernel_rfl) (by kernel_rfl) (by kernel_rfl) (by kernel_rfl) rfl rfl rfl rfl rfl rfl rfl ?_;refine TA.zS 24 rfl (by kernel_rfl) (by kernel_rfl) (by kernel_rfl) (by kernel_rfl) rfl rfl rfl rfl rfl rfl rfl ?_;refine TA.zS 25 rfl (by kernel_rfl) (by kernel_rfl) (by kernel_rfl) (by kernel_rfl) rfl rfl rfl rfl rfl rfl rfl ?_;refine TA.zS 26 rfl (by kernel_rfl) (by kernel_rfl) (by kernel_rfl) (by kernel_rfl) rfl rfl rfl rfl rfl rfl rfl ?_;refine TA.wV 27 rfl (by kernel_rfl) (by kernel_rfl) (by kernel_rfl) (by kernel_rfl) rfl rfl rfl rfl rfl rfl rfl rfl ?_;refine TA.qM 28 rfl (by kernel_rfl) (by kernel_rfl) (by kernel_rfl) rfl (OpVal.lF rfl rfl rfl) rfl rfl ?_;refine TA.done (by kernel_rfl) ?_;refine S.n ?_;refine TC.cond rfl (λ_=> ?_) (λh=>Bool.noConfusion h);refine Ψ ?_;refine υ ?_;refine Ξ rfl (OpVal.moveB (.inr rfl) rfl) rfl rfl ?_;refine Ω ?_;refine S.n ?_;refine θ ?_;refine B.r ?_;refine S.r ?_;refine S.r ?_;refine B.r ?_;refine S.r ?_
      -- leaf 2 ret [h1: True; h2: t17=False; h3: t25=True] H=[]
      refine qB rfl (congrArg Value.bool ?_);exact (lq_ (k:=g1) (by omega) (by simp [C_,zN];omega)).symm
    try simp only [dA,decide_eq_false_iff_not,Bool.not_eq_true',Bool.not_eq_false',Bool.not_eq_eq_eq_not,Bool.not_true,Bool.not_false,Int.not_lt,Int.not_le,Decidable.not_not]at h3
    refine TA.as_ 14 rfl (by kernel_rfl) (by kernel_rfl) (by kernel_rfl) (by kernel_rfl) rfl rfl rfl rfl rfl (OpVal.fP (.inl rfl) rfl) rfl rfl ?_;refine TA.as_ 15 rfl (by kernel_rfl) (by kernel_rfl) (by kernel_rfl) (by kernel_rfl) rfl rfl rfl rfl rfl (OpVal.gtr rfl rfl rfl) rfl rfl ?_;refine TA.as_ 16 rfl (by kernel_rfl) (by kernel_rfl) (by kernel_rfl) (by kernel_rfl) rfl rfl rfl rfl rfl (OpVal.moveB (.inl rfl) rfl) rfl rfl ?_;refine TA.split 28 rfl (λh4=> ?_) (λh4=> ?_)
    · try simp only [dA,decide_eq_false_iff_not,Bool.not_eq_true',Bool.not_eq_false',Bool.not_eq_eq_eq_not,Bool.not_true,Bool.not_false,Int.not_lt,Int.not_le,Decidable.not_not]at h4
      refine TA.as_ 17 rfl (by kernel_rfl) (by kernel_rfl) (by kernel_rfl) (by kernel_rfl) rfl rfl rfl rfl rfl (OpVal.EY (.inl rfl) rfl) rfl rfl ?_;refine TA.as_ 18 rfl (by kernel_rfl) (by kernel_rfl) (by kernel_rfl) (by kernel_rfl) rfl rfl rfl rfl rfl (OpVal.fP (.inl rfl) rfl) rfl rfl ?_;refine TA.as_ 19 rfl (by kernel_rfl) (by kernel_rfl) (by kernel_rfl) (by kernel_rfl) rfl rfl rfl rfl rfl (OpVal.sub rfl rfl rfl (by omega) (by omega)) rfl rfl ?_;refine TA.as_ 20 rfl (by kernel_rfl) (by kernel_rfl) (by kernel_rfl) (by kernel_rfl) rfl rfl rfl rfl rfl (OpVal.index rfl Tryz.underlying31 lG rfl rfl (by first|assumption|exact (RS.rv (by assumption)).sl) (by omega) (by omega)) rfl rfl ?_;refine TA.as_ 21 rfl (by kernel_rfl) (by kernel_rfl) (by kernel_rfl) (by kernel_rfl) rfl rfl rfl rfl rfl (OpVal.Uc (0:Int) rfl vS rfl (by assumption) (by omega) rfl) rfl rfl ?_;refine TA.as_ 22 rfl (by kernel_rfl) (by kernel_rfl) (by kernel_rfl) (by kernel_rfl) rfl rfl rfl rfl rfl (OpVal.EY (.inl rfl) rfl) rfl rfl ?_;refine TA.as_ 23 rfl (by kernel_rfl) (by kernel_rfl) (by kernel_rfl) (by kernel_rfl) rfl rfl rfl rfl rfl (OpVal.fP (.inl rfl) rfl) rfl rfl ?_;refine TA.as_ 24 rfl (by kernel_rfl) (by kernel_rfl) (by kernel_rfl) (by kernel_rfl) rfl rfl rfl rfl rfl (OpVal.zk rfl Tryz.underlying31 lG rfl rfl (by first|assumption|exact (RS.rv (by assumption)).sl) (by omega)) rfl rfl ?_;refine TA.as_ 25 rfl (by kernel_rfl) (by kernel_rfl) (by kernel_rfl) (by kernel_rfl) rfl rfl rfl rfl rfl (OpVal.Uc (0:Int) rfl vS rfl (by assumption) (by omega) rfl) rfl rfl ?_;refine TA.as_ 26 rfl (by kernel_rfl) (by kernel_rfl) (by kernel_rfl) (by kernel_rfl) rfl rfl rfl rfl rfl (OpVal.geq rfl rfl rfl) rfl rfl ?_;refine TA.as_ 27 rfl (by kernel_rfl) (by kernel_rfl) (by kernel_rfl) (by kernel_rfl) rfl rfl rfl rfl rfl (OpVal.lF rfl rfl rfl) rfl rfl ?_;refine TA.qM 28 rfl (by kernel_rfl) (by kernel_rfl) (by kernel_rfl) rfl (OpVal.qN rfl rfl rfl) rfl rfl ?_;refine TA.done (by kernel_rfl) ?_;refine S.n ?_;refine TC.ES rfl (λh5=> ?_) (λh5=> ?_)
      · try simp only [dA,decide_eq_false_iff_not,Bool.not_eq_true',Bool.not_eq_false',Bool.not_eq_eq_eq_not,Bool.not_true,Bool.not_false,Int.not_lt,Int.not_le,Decidable.not_not]at h5
        refine Ψ ?_;refine υ ?_;refine Ξ rfl (OpVal.moveB (.inr rfl) rfl) rfl rfl ?_;refine Ω ?_;refine S.n ?_;refine θ ?_;refine B.r ?_;refine S.r ?_;refine S.r ?_;refine B.r ?_;refine S.r ?_
        -- leaf 3 ret [h1: True; h2: t17=False; h3: t25=False; h4: t28=True; h5: True] H=[]
        refine qB rfl (congrArg Value.bool ?_);exact (lq_ (k:=g1) (by omega) (by rw [show ((g1:Int) - 1).toNat=g1 - 1 from by omega]at h5;simp [C_,zN];omega)).symm
      try simp only [dA,decide_eq_false_iff_not,Bool.not_eq_true',Bool.not_eq_false',Bool.not_eq_eq_eq_not,Bool.not_true,Bool.not_false,Int.not_lt,Int.not_le,Decidable.not_not]at h5
      refine TC.skip ?_;refine B.n ?_;refine S.n ?_;refine υ ?_;refine Ξ rfl (OpVal.fP (.inl rfl) rfl) rfl rfl ?_;refine Ξ rfl (OpVal.succ rfl rfl rfl (by omega)) rfl rfl ?_;refine Ξ rfl (OpVal.fP (.inr rfl) rfl) rfl rfl ?_;refine Ω ?_;refine S.n ?_
      -- leaf 4 next [h1: True; h2: t17=False; h3: t25=False; h4: t28=True; h5: False] H=[]
      refine ⟨by repeat (first|exact Agr.mask|refine Agr.upd rfl ?_ |refine Agr.EZ rfl ?_),g1+1,?_,?_,?_,?_,?_⟩
      · omega
      · exact ⟨by omega,ZG hi (by rw [show ((g1:Int) - 1).toNat=g1 - 1 from by omega]at h5;simp [C_,zN];omega)⟩
      · repeat (first|exact trivial|refine ⟨rfl,?_⟩)
      · rfl
      rfl
    try simp only [dA,decide_eq_false_iff_not,Bool.not_eq_true',Bool.not_eq_false',Bool.not_eq_eq_eq_not,Bool.not_true,Bool.not_false,Int.not_lt,Int.not_le,Decidable.not_not]at h4
    refine TA.wV 17 rfl (by kernel_rfl) (by kernel_rfl) (by kernel_rfl) (by kernel_rfl) rfl rfl rfl rfl rfl rfl rfl rfl ?_;refine TA.wV 18 rfl (by kernel_rfl) (by kernel_rfl) (by kernel_rfl) (by kernel_rfl) rfl rfl rfl rfl rfl rfl rfl rfl ?_;refine TA.wV 19 rfl (by kernel_rfl) (by kernel_rfl) (by kernel_rfl) (by kernel_rfl) rfl rfl rfl rfl rfl rfl rfl rfl ?_;refine TA.wV 20 rfl (by kernel_rfl) (by kernel_rfl) (by kernel_rfl) (by kernel_rfl) rfl rfl rfl rfl rfl rfl rfl rfl ?_;refine TA.wV 21 rfl (by kernel_rfl) (by kernel_rfl) (by kernel_rfl) (by kernel_rfl) rfl rfl rfl rfl rfl rfl rfl rfl ?_;refine TA.wV 22 rfl (by kernel_rfl) (by kernel_rfl) (by kernel_rfl) (by kernel_rfl) rfl rfl rfl rfl rfl rfl rfl rfl ?_;refine TA.wV 23 rfl (by kernel_rfl) (by kernel_rfl) (by kernel_rfl) (by kernel_rfl) rfl rfl rfl rfl rfl rfl rfl rfl ?_;refine TA.wV 24 rfl (by kernel_rfl) (by kernel_rfl) (by kernel_rfl) (by kernel_rfl) rfl rfl rfl rfl rfl rfl rfl rfl ?_;refine TA.wV 25 rfl (by kernel_rfl) (by kernel_rfl) (by kernel_rfl) (by kernel_rfl) rfl rfl rfl rfl rfl rfl rfl rfl ?_;refine TA.wV 26 rfl (by kernel_rfl) (by kernel_rfl) (by kernel_rfl) (by kernel_rfl) rfl rfl rfl rfl rfl rfl rfl rfl ?_;refine TA.as_ 27 rfl (by kernel_rfl) (by kernel_rfl) (by kernel_rfl) (by kernel_rfl) rfl rfl rfl rfl rfl (OpVal.qN rfl rfl rfl) rfl rfl ?_;refine TA.qM 28 rfl (by kernel_rfl) (by kernel_rfl) (by kernel_rfl) rfl (OpVal.qN rfl rfl rfl) rfl rfl ?_;refine TA.done (by kernel_rfl) ?_;refine S.n ?_;refine TC.cond rfl (λh=>Bool.noConfusion h) (λ_=> ?_);refine TC.skip ?_;refine B.n ?_;refine S.n ?_;refine υ ?_;refine Ξ rfl (OpVal.fP (.inl rfl) rfl) rfl rfl ?_;refine Ξ rfl (OpVal.succ rfl rfl rfl (by omega)) rfl rfl ?_;refine Ξ rfl (OpVal.fP (.inr rfl) rfl) rfl rfl ?_;refine Ω ?_;refine S.n ?_
    -- leaf 5 next [h1: True; h2: t17=False; h3: t25=False; h4: t28=False] H=[]
    refine ⟨by repeat (first|exact Agr.mask|refine Agr.upd rfl ?_ |refine Agr.EZ rfl ?_),g1+1,?_,?_,?_,?_,?_⟩
    · omega
    · exact ⟨by omega,ZG hi (by simp [C_,zN];omega)⟩
    · repeat (first|exact trivial|refine ⟨rfl,?_⟩)
    · rfl
    rfl
  try simp only [dA,decide_eq_false_iff_not,Bool.not_eq_true',Bool.not_eq_false',Bool.not_eq_eq_eq_not,Bool.not_true,Bool.not_false,Int.not_lt,Int.not_le,Decidable.not_not]at h1
  refine TC.exit ?_;refine S.x ?_;refine S.x ?_;refine TC.LX ?_;refine S.n ?_;refine Ψ ?_;refine υ ?_;refine Ξ rfl (OpVal.moveB (.inr rfl) rfl) rfl rfl ?_;refine Ω ?_;refine S.n ?_;refine θ ?_
  -- leaf 6 ret [h1: False] H=[]
  refine qB rfl (congrArg Value.bool ?_);exact (sc_ (k:=g1) (by omega) hi).symm
theorem wz_(σ:ak)(n:Nfa)(p:NfaP)(hn:RNfa σ n p):Con Tryz.prog 82 #[nfaV n p] σ [] (iU (.int .i64 (A8 (kJ n))) σ):=by
  have hb:=hn.d.rv.big;have hd:=hn.d;refine Con.mk (n:=61) Tryz.func82 rfl rfl rfl (λw0=> ?_);refine Ψ ?_;refine υ ?_;refine κ rfl (OpOk.boxA rfl rfl rfl rfl (λb1=> ?_));refine Ξ rfl (OpVal.fP (.inr rfl) rfl) rfl rfl ?_;refine Ω ?_;refine S.n ?_;refine Ψ ?_;refine Ψ ?_;refine υ ?_;refine Ξ rfl (OpVal.r_ rfl G9 rfl) rfl rfl ?_;refine Ξ rfl (OpVal.qw rfl vS rfl (i:=0) rfl rfl) rfl rfl ?_;refine Ξ rfl (OpVal.lss rfl rfl rfl) rfl rfl ?_;refine Ξ rfl (OpVal.moveB (.inl rfl) rfl) rfl rfl ?_;refine Γ 8 rfl (λh3=> ?_) (λh3=> ?_)
  · try simp only [dA,decide_eq_false_iff_not,Bool.not_eq_true',Bool.not_eq_false',Bool.not_eq_eq_eq_not,Bool.not_true,Bool.not_false,Int.not_lt,Int.not_le,Decidable.not_not]at h3
    refine χ rfl rfl rfl rfl rfl rfl rfl rfl ?_;refine χ rfl rfl rfl rfl rfl rfl rfl rfl ?_;refine χ rfl rfl rfl rfl rfl rfl rfl rfl ?_;refine Ξ rfl (OpVal.lF rfl rfl rfl) rfl rfl ?_;refine Ξ rfl (OpVal.moveB (.inl rfl) rfl) rfl rfl ?_;refine χ rfl rfl rfl rfl rfl rfl rfl rfl ?_;refine χ rfl rfl rfl rfl rfl rfl rfl rfl ?_;refine χ rfl rfl rfl rfl rfl rfl rfl rfl ?_;refine χ rfl rfl rfl rfl rfl rfl rfl rfl ?_;refine Ξ rfl (OpVal.lF rfl rfl rfl) rfl rfl ?_;refine Ω ?_;refine S.n ?_;refine TC.cond rfl (λ_=> ?_) (λh=>Bool.noConfusion h);refine Ψ ?_;refine υ ?_;refine Ξ rfl (OpVal.fP (.inr rfl) rfl) rfl rfl ?_;refine Ω ?_;refine S.n ?_;refine θ ?_;refine S.r ?_
    -- leaf 1 ret [h3: t8=True] H=['q2']
    refine qB rfl (congrArg (Value.int _) ?_);exact (congrArg A8 (show kJ n=false from by simp only [kJ,Bool.and_eq_false_iff,decide_eq_false_iff_not];omega)).symm
  try simp only [dA,decide_eq_false_iff_not,Bool.not_eq_true',Bool.not_eq_false',Bool.not_eq_eq_eq_not,Bool.not_true,Bool.not_false,Int.not_lt,Int.not_le,Decidable.not_not]at h3
  refine TL.gv rfl rfl rfl rfl rfl (OpVal.r_ rfl G9 rfl) rfl rfl ?_;refine TL.gv rfl rfl rfl rfl rfl (OpVal.qw rfl vS rfl (i:=0) rfl rfl) rfl rfl ?_;refine TL.gv rfl rfl rfl rfl rfl (OpVal.gtr rfl rfl rfl) rfl rfl ?_;refine Ξ rfl (OpVal.qN rfl rfl rfl) rfl rfl ?_;refine Ξ rfl (OpVal.moveB (.inl rfl) rfl) rfl rfl ?_;refine Γ 13 rfl (λh4=> ?_) (λh4=> ?_)
  · try simp only [dA,decide_eq_false_iff_not,Bool.not_eq_true',Bool.not_eq_false',Bool.not_eq_eq_eq_not,Bool.not_true,Bool.not_false,Int.not_lt,Int.not_le,Decidable.not_not]at h4
    refine χ rfl rfl rfl rfl rfl rfl rfl rfl ?_;refine χ rfl rfl rfl rfl rfl rfl rfl rfl ?_;refine χ rfl rfl rfl rfl rfl rfl rfl rfl ?_;refine χ rfl rfl rfl rfl rfl rfl rfl rfl ?_;refine Ξ rfl (OpVal.lF rfl rfl rfl) rfl rfl ?_;refine Ω ?_;refine S.n ?_;refine TC.cond rfl (λ_=> ?_) (λh=>Bool.noConfusion h);refine Ψ ?_;refine υ ?_;refine Ξ rfl (OpVal.fP (.inr rfl) rfl) rfl rfl ?_;refine Ω ?_;refine S.n ?_;refine θ ?_;refine S.r ?_
    -- leaf 2 ret [h3: t8=False; h4: t13=True] H=['q2']
    refine qB rfl (congrArg (Value.int _) ?_);exact (congrArg A8 (show kJ n=false from by simp only [kJ,Bool.and_eq_false_iff,decide_eq_false_iff_not];omega)).symm
  try simp only [dA,decide_eq_false_iff_not,Bool.not_eq_true',Bool.not_eq_false',Bool.not_eq_eq_eq_not,Bool.not_true,Bool.not_false,Int.not_lt,Int.not_le,Decidable.not_not]at h4
  refine TL.gv rfl rfl rfl rfl rfl (OpVal.r_ rfl Zw rfl) rfl rfl ?_;refine TL.gv rfl rfl rfl rfl rfl (OpVal.qw rfl NH rfl (i:=0) rfl rfl) rfl rfl ?_;refine TL.gv rfl rfl rfl rfl rfl (OpVal.lenC rfl Tryz.underlying63 rfl) rfl rfl ?_;refine TL.gv rfl rfl rfl rfl rfl (OpVal.gtr rfl rfl rfl) rfl rfl ?_;refine Ξ rfl (OpVal.qN rfl rfl rfl) rfl rfl ?_;refine Ω ?_;refine S.n ?_;refine TC.ES rfl (λh5=> ?_) (λh5=> ?_)
  · try simp only [dA,decide_eq_false_iff_not,Bool.not_eq_true',Bool.not_eq_false',Bool.not_eq_eq_eq_not,Bool.not_true,Bool.not_false,Int.not_lt,Int.not_le,Decidable.not_not]at h5
    refine Ψ ?_;refine υ ?_;refine Ξ rfl (OpVal.fP (.inr rfl) rfl) rfl rfl ?_;refine Ω ?_;refine S.n ?_;refine θ ?_;refine S.r ?_
    -- leaf 3 ret [h3: t8=False; h4: t13=False; h5: True] H=['q2']
    refine qB rfl (congrArg (Value.int _) ?_);exact (congrArg A8 (show kJ n=false from by simp only [kJ,Bool.and_eq_false_iff,decide_eq_false_iff_not];omega)).symm
  try simp only [dA,decide_eq_false_iff_not,Bool.not_eq_true',Bool.not_eq_false',Bool.not_eq_eq_eq_not,Bool.not_true,Bool.not_false,Int.not_lt,Int.not_le,Decidable.not_not]at h5
  refine TC.skip ?_;refine S.n ?_;refine Ψ ?_;refine Ψ ?_;refine υ ?_;refine Ξ rfl (OpVal.r_ rfl yd_ rfl) rfl rfl ?_;refine Ξ rfl (OpVal.qw rfl oV rfl (i:=0) rfl rfl) rfl rfl ?_;refine Ξ rfl (OpVal.r_ rfl G9 rfl) rfl rfl ?_;refine Ξ rfl (OpVal.qw rfl vS rfl (i:=0) rfl rfl) rfl rfl ?_;refine κ rfl (OpOk.eG (tj_ _ _ _ _ _ hn.s) rfl rfl QM rfl rfl rfl ?_);refine Ξ rfl (OpVal.not rfl rfl) rfl rfl ?_;refine Ξ rfl (OpVal.moveB (.inl rfl) rfl) rfl rfl ?_;refine Γ 25 rfl (λh6=> ?_) (λh6=> ?_)
  · try simp only [dA,decide_eq_false_iff_not,Bool.not_eq_true',Bool.not_eq_false',Bool.not_eq_eq_eq_not,Bool.not_true,Bool.not_false,Int.not_lt,Int.not_le,Decidable.not_not]at h6
    refine χ rfl rfl rfl rfl rfl rfl rfl rfl ?_;refine χ rfl rfl rfl rfl rfl rfl rfl rfl ?_;refine χ rfl rfl rfl rfl rfl rfl rfl rfl ?_;refine χ rfl rfl rfl rfl rfl rfl rfl rfl ?_;refine χ rfl rfl rfl rfl rfl rfl rfl rfl ?_;refine χ rfl rfl rfl rfl rfl rfl rfl rfl ?_;refine Ξ rfl (OpVal.lF rfl rfl rfl) rfl rfl ?_;refine Ω ?_;refine S.n ?_;refine TC.cond rfl (λ_=> ?_) (λh=>Bool.noConfusion h);refine Ψ ?_;refine υ ?_;refine Ξ rfl (OpVal.fP (.inr rfl) rfl) rfl rfl ?_;refine Ω ?_;refine S.n ?_;refine θ ?_;refine S.r ?_
    -- leaf 4 ret [h3: t8=False; h4: t13=False; h5: False; h6: t25=True] H=['q2']
    refine qB rfl (congrArg (Value.int _) ?_);exact (congrArg A8 (show kJ n=false from by simp [kJ,h6])).symm
  try simp only [dA,decide_eq_false_iff_not,Bool.not_eq_true',Bool.not_eq_false',Bool.not_eq_eq_eq_not,Bool.not_true,Bool.not_false,Int.not_lt,Int.not_le,Decidable.not_not]at h6
  refine TL.gv rfl rfl rfl rfl rfl (OpVal.r_ rfl yz_ rfl) rfl rfl ?_;refine TL.gv rfl rfl rfl rfl rfl (OpVal.qw rfl oV rfl (i:=0) rfl rfl) rfl rfl ?_;refine TL.gv rfl rfl rfl rfl rfl (OpVal.r_ rfl G9 rfl) rfl rfl ?_;refine TL.gv rfl rfl rfl rfl rfl (OpVal.qw rfl vS rfl (i:=0) rfl rfl) rfl rfl ?_;refine TL.gon rfl rfl rfl rfl rfl (OpOk.eG (tj_ _ _ _ _ _ (by first|exact hn.s|exact hn.e)) rfl rfl QM rfl rfl rfl ?_);refine TL.gv rfl rfl rfl rfl rfl (OpVal.not rfl rfl) rfl rfl ?_;refine Ξ rfl (OpVal.qN rfl rfl rfl) rfl rfl ?_;refine Ω ?_;refine S.n ?_;refine TC.cond rfl (λh7=> ?_) (λh7=> ?_)
  · try simp only [dA,decide_eq_false_iff_not,Bool.not_eq_true',Bool.not_eq_false',Bool.not_eq_eq_eq_not,Bool.not_true,Bool.not_false,Int.not_lt,Int.not_le,Decidable.not_not]at h7
    refine Ψ ?_;refine υ ?_;refine Ξ rfl (OpVal.fP (.inr rfl) rfl) rfl rfl ?_;refine Ω ?_;refine S.n ?_;refine θ ?_;refine S.r ?_
    -- leaf 5 ret [h3: t8=False; h4: t13=False; h5: False; h6: t25=False; h7: True] H=['q2']
    refine qB rfl (congrArg (Value.int _) ?_);exact (congrArg A8 (show kJ n=false from by simp [kJ,h7])).symm
  try simp only [dA,decide_eq_false_iff_not,Bool.not_eq_true',Bool.not_eq_false',Bool.not_eq_eq_eq_not,Bool.not_true,Bool.not_false,Int.not_lt,Int.not_le,Decidable.not_not]at h7
  refine TC.skip ?_;refine S.n ?_;refine Ψ ?_;refine Ψ ?_;refine υ ?_;refine Ξ rfl (OpVal.r_ rfl Zw rfl) rfl rfl ?_;refine Ξ rfl (OpVal.qw rfl NH rfl (i:=0) rfl rfl) rfl rfl ?_;refine Ξ rfl (OpVal.lenC rfl Tryz.underlying63 rfl) rfl rfl ?_;refine Ξ rfl (OpVal.fP (.inl rfl) rfl) rfl rfl ?_;refine Ω ?_;refine S.n ?_;refine TC.block ?_;refine TC.Pq (α:=Nat) [2,4,36,37,38,39,40,41,42,43,44,45,46,47,48,49,50,51,52,53,54,55,56,57,58,59,60] (λk=>[(36,.int .i64 (k:Nat))]) (λ_=>_) (λ_=>_) (λk=>k<=n.edges.length/\ ∀i,i<k->if_ n.states (nth n.edges i Arrow.zero)=true) (λk=>n.edges.length - k) (0) (by first|exact True.intro|omega|(dsimp only;omega)|(simp;done)|(simp;omega)) (by repeat (first|exact trivial|refine ⟨rfl,?_⟩)) (by rfl) (by rfl) (λg1 j1 hg1=> ?_);obtain ⟨hk,hi⟩:=hg1;refine Ψ ?_;refine υ ?_;refine Ξ rfl (OpVal.lss rfl rfl rfl) rfl rfl ?_;refine Ω ?_;refine S.n ?_;refine Ψ ?_;refine TC.ES rfl (λh8=> ?_) (λh8=> ?_)
  · try simp only [dA,decide_eq_false_iff_not,Bool.not_eq_true',Bool.not_eq_false',Bool.not_eq_eq_eq_not,Bool.not_true,Bool.not_false,Int.not_lt,Int.not_le,Decidable.not_not]at h8
    refine TC.skip ?_;refine S.n ?_;refine Ψ ?_;refine TC.block ?_;refine Ψ ?_;refine υ ?_;refine Ξ rfl (OpVal.zk rfl Tryz.underlying63 Vk rfl rfl (by first|assumption|exact (RS.rv (by assumption)).sl) (by omega)) rfl rfl ?_;refine Ξ rfl (OpVal.cu_ Arrow.zero rfl LY Vk rfl (by assumption) (by omega) (by omega)) rfl rfl ?_;refine κ rfl (OpOk.alloc rfl I5 rfl rfl (λb9=> ?_));refine κ rfl (OpOk.storeAll rfl Vk rfl rfl rfl rfl rfl rfl ?_);refine Ω ?_;refine S.n ?_;refine Ψ ?_;refine υ ?_;refine Ξ rfl (OpVal.r_ rfl q4_ rfl) rfl rfl ?_;refine Ξ rfl (OpVal.qw rfl vS rfl (i:=0) rfl rfl) rfl rfl ?_;refine Ξ rfl (OpVal.r_ rfl G9 rfl) rfl rfl ?_;refine Ξ rfl (OpVal.qw rfl vS rfl (i:=1) rfl rfl) rfl rfl ?_;refine κ rfl (OpOk.eG (nr_ _ _ _) rfl rfl Jm rfl rfl rfl ?_);refine Ξ rfl (OpVal.not rfl rfl) rfl rfl ?_;refine Ξ rfl (OpVal.moveB (.inl rfl) rfl) rfl rfl ?_;refine Γ 46 rfl (λh11=> ?_) (λh11=> ?_)
    · try simp only [dA,decide_eq_false_iff_not,Bool.not_eq_true',Bool.not_eq_false',Bool.not_eq_eq_eq_not,Bool.not_true,Bool.not_false,Int.not_lt,Int.not_le,Decidable.not_not]at h11
      refine χ rfl rfl rfl rfl rfl rfl rfl rfl ?_;refine χ rfl rfl rfl rfl rfl rfl rfl rfl ?_;refine χ rfl rfl rfl rfl rfl rfl rfl rfl ?_;refine χ rfl rfl rfl rfl rfl rfl rfl rfl ?_;refine χ rfl rfl rfl rfl rfl rfl rfl rfl ?_;refine χ rfl rfl rfl rfl rfl rfl rfl rfl ?_;refine Ξ rfl (OpVal.lF rfl rfl rfl) rfl rfl ?_;refine Ξ rfl (OpVal.moveB (.inl rfl) rfl) rfl rfl ?_;refine χ rfl rfl rfl rfl rfl rfl rfl rfl ?_;refine χ rfl rfl rfl rfl rfl rfl rfl rfl ?_;refine χ rfl rfl rfl rfl rfl rfl rfl rfl ?_;refine χ rfl rfl rfl rfl rfl rfl rfl rfl ?_;refine Ξ rfl (OpVal.lF rfl rfl rfl) rfl rfl ?_;refine Ω ?_;refine S.n ?_;refine TC.cond rfl (λ_=> ?_) (λh=>Bool.noConfusion h);refine Ψ ?_;refine υ ?_;refine Ξ rfl (OpVal.fP (.inr rfl) rfl) rfl rfl ?_;refine Ω ?_;refine S.n ?_;refine θ ?_;refine B.r ?_;refine S.r ?_;refine S.r ?_;refine B.r ?_;refine S.r ?_
      -- leaf 6 ret [h3: t8=False; h4: t13=False; h5: False; h6: t25=False; h7: False; h8: True; h11: t46=True] H=['D9, 'q2']
      refine qB rfl (congrArg (Value.int _) ?_);exact (congrArg A8 (show kJ n=false from by rw [kJ,hs_ (n:=n) (k:=g1) (by omega) (by simp [if_,h11]),Bool.and_false])).symm
    try simp only [dA,decide_eq_false_iff_not,Bool.not_eq_true',Bool.not_eq_false',Bool.not_eq_eq_eq_not,Bool.not_true,Bool.not_false,Int.not_lt,Int.not_le,Decidable.not_not]at h11
    refine TL.gv rfl rfl rfl rfl rfl (OpVal.r_ rfl q8_ rfl) rfl rfl ?_;refine TL.gv rfl rfl rfl rfl rfl (OpVal.qw rfl vS rfl (i:=0) rfl rfl) rfl rfl ?_;refine TL.gv rfl rfl rfl rfl rfl (OpVal.r_ rfl G9 rfl) rfl rfl ?_;refine TL.gv rfl rfl rfl rfl rfl (OpVal.qw rfl vS rfl (i:=1) rfl rfl) rfl rfl ?_;refine TL.gon rfl rfl rfl rfl rfl (OpOk.eG (nr_ _ _ _) rfl rfl Jm rfl rfl rfl ?_);refine TL.gv rfl rfl rfl rfl rfl (OpVal.not rfl rfl) rfl rfl ?_;refine Ξ rfl (OpVal.qN rfl rfl rfl) rfl rfl ?_;refine Ξ rfl (OpVal.moveB (.inl rfl) rfl) rfl rfl ?_;refine Γ 54 rfl (λh12=> ?_) (λh12=> ?_)
    · try simp only [dA,decide_eq_false_iff_not,Bool.not_eq_true',Bool.not_eq_false',Bool.not_eq_eq_eq_not,Bool.not_true,Bool.not_false,Int.not_lt,Int.not_le,Decidable.not_not]at h12
      refine χ rfl rfl rfl rfl rfl rfl rfl rfl ?_;refine χ rfl rfl rfl rfl rfl rfl rfl rfl ?_;refine χ rfl rfl rfl rfl rfl rfl rfl rfl ?_;refine χ rfl rfl rfl rfl rfl rfl rfl rfl ?_;refine Ξ rfl (OpVal.lF rfl rfl rfl) rfl rfl ?_;refine Ω ?_;refine S.n ?_;refine TC.cond rfl (λ_=> ?_) (λh=>Bool.noConfusion h);refine Ψ ?_;refine υ ?_;refine Ξ rfl (OpVal.fP (.inr rfl) rfl) rfl rfl ?_;refine Ω ?_;refine S.n ?_;refine θ ?_;refine B.r ?_;refine S.r ?_;refine S.r ?_;refine B.r ?_;refine S.r ?_
      -- leaf 7 ret [h3: t8=False; h4: t13=False; h5: False; h6: t25=False; h7: False; h8: True; h11: t46=False; h12: t54=True] H=['D9, 'q2']
      refine qB rfl (congrArg (Value.int _) ?_);exact (congrArg A8 (show kJ n=false from by rw [kJ,hs_ (n:=n) (k:=g1) (by omega) (by simp [if_,h11,h12]),Bool.and_false])).symm
    try simp only [dA,decide_eq_false_iff_not,Bool.not_eq_true',Bool.not_eq_false',Bool.not_eq_eq_eq_not,Bool.not_true,Bool.not_false,Int.not_lt,Int.not_le,Decidable.not_not]at h12
    refine TL.gv rfl rfl rfl rfl rfl (OpVal.r_ rfl ss_ rfl) rfl rfl ?_;refine TL.gv rfl rfl rfl rfl rfl (OpVal.bp_ rfl MQ D6 rfl (i:=0) rfl rfl rfl) rfl rfl ?_;refine TL.gv rfl rfl rfl rfl rfl (OpVal.XQ rfl Tryz.underlying47 ug Fq rfl) rfl rfl ?_;refine TL.gv rfl rfl rfl rfl rfl (OpVal.cg_ rfl Tryz.underlying47 Tryz.underlying45 zF ug Ht rfl rfl rfl rfl) rfl rfl ?_;refine Ξ rfl (OpVal.qN rfl rfl rfl) rfl rfl ?_;refine Ω ?_;refine S.n ?_;refine TC.ES rfl (λh13=> ?_) (λh13=> ?_)
    · try simp only [dA,decide_eq_false_iff_not,Bool.not_eq_true',Bool.not_eq_false',Bool.not_eq_eq_eq_not,Bool.not_true,Bool.not_false,Int.not_lt,Int.not_le,Decidable.not_not]at h13
      refine Ψ ?_;refine υ ?_;refine Ξ rfl (OpVal.fP (.inr rfl) rfl) rfl rfl ?_;refine Ω ?_;refine S.n ?_;refine θ ?_;refine B.r ?_;refine S.r ?_;refine S.r ?_;refine B.r ?_;refine S.r ?_
      -- leaf 8 ret [h3: t8=False; h4: t13=False; h5: False; h6: t25=False; h7: False; h8: True; h11: t46=False; h12: t54=False; h13: True] H=['D9, 'q2']
      refine qB rfl (congrArg (Value.int _) ?_);exact (congrArg A8 (show kJ n=false from by rw [kJ,hs_ (n:=n) (k:=g1) (by omega) (by simp [if_,(BSet.bh_ _).1 h13]),Bool.and_false])).symm
    try simp only [dA,decide_eq_false_iff_not,Bool.not_eq_true',Bool.not_eq_false',Bool.not_eq_eq_eq_not,Bool.not_true,Bool.not_false,Int.not_lt,Int.not_le,Decidable.not_not]at h13
    refine TC.skip ?_;refine B.n ?_;refine S.n ?_;refine υ ?_;refine Ξ rfl (OpVal.succ rfl rfl rfl (by omega)) rfl rfl ?_;refine Ξ rfl (OpVal.fP (.inl rfl) rfl) rfl rfl ?_;refine TL.dropN 1 rfl ?_;refine Ω ?_;refine S.n ?_
    -- leaf 9 next [h3: t8=False; h4: t13=False; h5: False; h6: t25=False; h7: False; h8: True; h11: t46=False; h12: t54=False; h13: False] H=['q2']
    refine ⟨by repeat (first|exact Agr.mask|refine Agr.upd rfl ?_ |refine Agr.EZ rfl ?_),g1+1,?_,?_,?_,?_,?_⟩
    · omega
    · exact ⟨by omega,ZG (p:=λi=>if_ n.states (nth n.edges i Arrow.zero)) hi (by simp only [if_,h11,h12,Bool.true_and,Bool.not_eq_true',decide_eq_false_iff_not];exact λhx=>h13 ((BSet.bh_ _).2 hx))⟩
    · repeat (first|exact trivial|refine ⟨rfl,?_⟩)
    · rfl
    rfl
  try simp only [dA,decide_eq_false_iff_not,Bool.not_eq_true',Bool.not_eq_false',Bool.not_eq_eq_eq_not,Bool.not_true,Bool.not_false,Int.not_lt,Int.not_le,Decidable.not_not]at h8
  refine TC.exit ?_;refine S.x ?_;refine S.x ?_;refine TC.LX ?_;refine S.n ?_;refine Ψ ?_;refine υ ?_;refine Ξ rfl (OpVal.fP (.inr rfl) rfl) rfl rfl ?_;refine Ω ?_;refine S.n ?_;refine θ ?_
  -- leaf 10 ret [h3: t8=False; h4: t13=False; h5: False; h6: t25=False; h7: False; h8: False] H=['q2']
  refine qB rfl (congrArg (Value.int _) ?_);have he:=ry_ (n:=n) (λi h=>hi i (by omega));simp [A8,kJ,h3,h4,h5,h6,h7,he]
theorem w8_(σ:ak)(n:Nfa)(p:NfaP)(hn:RNfa σ n p):Con Tryz.prog 107 #[nfaV n p] σ [] (iU (.bool (kJ n)) σ):=by
  have hb:=hn.d.rv.big;have hd:=hn.d;refine Con.mk (n:=75) Tryz.func107 rfl rfl rfl (λw0=> ?_);refine Ψ ?_;refine υ ?_;refine κ rfl (OpOk.boxA rfl rfl rfl rfl (λb1=> ?_));refine Ξ rfl (OpVal.moveB (.inr rfl) rfl) rfl rfl ?_;refine Ω ?_;refine S.n ?_;refine Ψ ?_;refine Ψ ?_;refine υ ?_;refine Ξ rfl (OpVal.r_ rfl G9 rfl) rfl rfl ?_;refine Ξ rfl (OpVal.qw rfl vS rfl (i:=0) rfl rfl) rfl rfl ?_;refine Ξ rfl (OpVal.lss rfl rfl rfl) rfl rfl ?_;refine Ξ rfl (OpVal.moveB (.inl rfl) rfl) rfl rfl ?_;refine Γ 8 rfl (λh3=> ?_) (λh3=> ?_)
  · try simp only [dA,decide_eq_false_iff_not,Bool.not_eq_true',Bool.not_eq_false',Bool.not_eq_eq_eq_not,Bool.not_true,Bool.not_false,Int.not_lt,Int.not_le,Decidable.not_not]at h3
    refine χ rfl rfl rfl rfl rfl rfl rfl rfl ?_;refine χ rfl rfl rfl rfl rfl rfl rfl rfl ?_;refine χ rfl rfl rfl rfl rfl rfl rfl rfl ?_;refine Ξ rfl (OpVal.lF rfl rfl rfl) rfl rfl ?_;refine Ξ rfl (OpVal.moveB (.inl rfl) rfl) rfl rfl ?_;refine χ rfl rfl rfl rfl rfl rfl rfl rfl ?_;refine χ rfl rfl rfl rfl rfl rfl rfl rfl ?_;refine χ rfl rfl rfl rfl rfl rfl rfl rfl ?_;refine χ rfl rfl rfl rfl rfl rfl rfl rfl ?_;refine χ rfl rfl rfl rfl rfl rfl rfl rfl ?_;refine χ rfl rfl rfl rfl rfl rfl rfl rfl ?_;refine Ξ rfl (OpVal.lF rfl rfl rfl) rfl rfl ?_;refine Ξ rfl (OpVal.moveB (.inl rfl) rfl) rfl rfl ?_;refine χ rfl rfl rfl rfl rfl rfl rfl rfl ?_;refine χ rfl rfl rfl rfl rfl rfl rfl rfl ?_;refine χ rfl rfl rfl rfl rfl rfl rfl rfl ?_;refine χ rfl rfl rfl rfl rfl rfl rfl rfl ?_;refine χ rfl rfl rfl rfl rfl rfl rfl rfl ?_;refine χ rfl rfl rfl rfl rfl rfl rfl rfl ?_;refine Ξ rfl (OpVal.lF rfl rfl rfl) rfl rfl ?_;refine Ξ rfl (OpVal.moveB (.inl rfl) rfl) rfl rfl ?_;refine χ rfl rfl rfl rfl rfl rfl rfl rfl ?_;refine χ rfl rfl rfl rfl rfl rfl rfl rfl ?_;refine χ rfl rfl rfl rfl rfl rfl rfl rfl ?_;refine χ rfl rfl rfl rfl rfl rfl rfl rfl ?_;refine Ξ rfl (OpVal.lF rfl rfl rfl) rfl rfl ?_;refine Ω ?_;refine S.n ?_;refine TC.cond rfl (λ_=> ?_) (λh=>Bool.noConfusion h);refine Ψ ?_;refine υ ?_;refine Ξ rfl (OpVal.moveB (.inr rfl) rfl) rfl rfl ?_;refine Ω ?_;refine S.n ?_;refine θ ?_;refine S.r ?_
    -- leaf 1 ret [h3: t8=True] H=['q2']
    refine qB rfl (congrArg Value.bool ?_);exact (show kJ n=false from by simp only [kJ,Bool.and_eq_false_iff,decide_eq_false_iff_not];omega).symm
  try simp only [dA,decide_eq_false_iff_not,Bool.not_eq_true',Bool.not_eq_false',Bool.not_eq_eq_eq_not,Bool.not_true,Bool.not_false,Int.not_lt,Int.not_le,Decidable.not_not]at h3
  refine TL.gv rfl rfl rfl rfl rfl (OpVal.r_ rfl G9 rfl) rfl rfl ?_;refine TL.gv rfl rfl rfl rfl rfl (OpVal.qw rfl vS rfl (i:=0) rfl rfl) rfl rfl ?_;refine TL.gv rfl rfl rfl rfl rfl (OpVal.gtr rfl rfl rfl) rfl rfl ?_;refine Ξ rfl (OpVal.qN rfl rfl rfl) rfl rfl ?_;refine Ξ rfl (OpVal.moveB (.inl rfl) rfl) rfl rfl ?_;refine Γ 13 rfl (λh4=> ?_) (λh4=> ?_)
  · try simp only [dA,decide_eq_false_iff_not,Bool.not_eq_true',Bool.not_eq_false',Bool.not_eq_eq_eq_not,Bool.not_true,Bool.not_false,Int.not_lt,Int.not_le,Decidable.not_not]at h4
    refine χ rfl rfl rfl rfl rfl rfl rfl rfl ?_;refine χ rfl rfl rfl rfl rfl rfl rfl rfl ?_;refine χ rfl rfl rfl rfl rfl rfl rfl rfl ?_;refine χ rfl rfl rfl rfl rfl rfl rfl rfl ?_;refine χ rfl rfl rfl rfl rfl rfl rfl rfl ?_;refine χ rfl rfl rfl rfl rfl rfl rfl rfl ?_;refine Ξ rfl (OpVal.lF rfl rfl rfl) rfl rfl ?_;refine Ξ rfl (OpVal.moveB (.inl rfl) rfl) rfl rfl ?_;refine χ rfl rfl rfl rfl rfl rfl rfl rfl ?_;refine χ rfl rfl rfl rfl rfl rfl rfl rfl ?_;refine χ rfl rfl rfl rfl rfl rfl rfl rfl ?_;refine χ rfl rfl rfl rfl rfl rfl rfl rfl ?_;refine χ rfl rfl rfl rfl rfl rfl rfl rfl ?_;refine χ rfl rfl rfl rfl rfl rfl rfl rfl ?_;refine Ξ rfl (OpVal.lF rfl rfl rfl) rfl rfl ?_;refine Ξ rfl (OpVal.moveB (.inl rfl) rfl) rfl rfl ?_;refine χ rfl rfl rfl rfl rfl rfl rfl rfl ?_;refine χ rfl rfl rfl rfl rfl rfl rfl rfl ?_;refine χ rfl rfl rfl rfl rfl rfl rfl rfl ?_;refine χ rfl rfl rfl rfl rfl rfl rfl rfl ?_;refine Ξ rfl (OpVal.lF rfl rfl rfl) rfl rfl ?_;refine Ω ?_;refine S.n ?_;refine TC.cond rfl (λ_=> ?_) (λh=>Bool.noConfusion h);refine Ψ ?_;refine υ ?_;refine Ξ rfl (OpVal.moveB (.inr rfl) rfl) rfl rfl ?_;refine Ω ?_;refine S.n ?_;refine θ ?_;refine S.r ?_
    -- leaf 2 ret [h3: t8=False; h4: t13=True] H=['q2']
    refine qB rfl (congrArg Value.bool ?_);exact (show kJ n=false from by simp only [kJ,Bool.and_eq_false_iff,decide_eq_false_iff_not];omega).symm
  try simp only [dA,decide_eq_false_iff_not,Bool.not_eq_true',Bool.not_eq_false',Bool.not_eq_eq_eq_not,Bool.not_true,Bool.not_false,Int.not_lt,Int.not_le,Decidable.not_not]at h4
  refine TL.gv rfl rfl rfl rfl rfl (OpVal.r_ rfl yd_ rfl) rfl rfl ?_;refine TL.gv rfl rfl rfl rfl rfl (OpVal.qw rfl oV rfl (i:=0) rfl rfl) rfl rfl ?_;refine TL.gv rfl rfl rfl rfl rfl (OpVal.r_ rfl G9 rfl) rfl rfl ?_;refine TL.gv rfl rfl rfl rfl rfl (OpVal.qw rfl vS rfl (i:=0) rfl rfl) rfl rfl ?_;refine TL.gon rfl rfl rfl rfl rfl (OpOk.eG (pf_ _ _ _ _ _ hn.s) rfl rfl QB rfl rfl rfl ?_);refine TL.gv rfl rfl rfl rfl rfl (OpVal.not rfl rfl) rfl rfl ?_;refine Ξ rfl (OpVal.qN rfl rfl rfl) rfl rfl ?_;refine Ξ rfl (OpVal.moveB (.inl rfl) rfl) rfl rfl ?_;refine Γ 21 rfl (λh5=> ?_) (λh5=> ?_)
  · try simp only [dA,decide_eq_false_iff_not,Bool.not_eq_true',Bool.not_eq_false',Bool.not_eq_eq_eq_not,Bool.not_true,Bool.not_false,Int.not_lt,Int.not_le,Decidable.not_not]at h5
    refine χ rfl rfl rfl rfl rfl rfl rfl rfl ?_;refine χ rfl rfl rfl rfl rfl rfl rfl rfl ?_;refine χ rfl rfl rfl rfl rfl rfl rfl rfl ?_;refine χ rfl rfl rfl rfl rfl rfl rfl rfl ?_;refine χ rfl rfl rfl rfl rfl rfl rfl rfl ?_;refine χ rfl rfl rfl rfl rfl rfl rfl rfl ?_;refine Ξ rfl (OpVal.lF rfl rfl rfl) rfl rfl ?_;refine Ξ rfl (OpVal.moveB (.inl rfl) rfl) rfl rfl ?_;refine χ rfl rfl rfl rfl rfl rfl rfl rfl ?_;refine χ rfl rfl rfl rfl rfl rfl rfl rfl ?_;refine χ rfl rfl rfl rfl rfl rfl rfl rfl ?_;refine χ rfl rfl rfl rfl rfl rfl rfl rfl ?_;refine Ξ rfl (OpVal.lF rfl rfl rfl) rfl rfl ?_;refine Ω ?_;refine S.n ?_;refine TC.cond rfl (λ_=> ?_) (λh=>Bool.noConfusion h);refine Ψ ?_;refine υ ?_;refine Ξ rfl (OpVal.moveB (.inr rfl) rfl) rfl rfl ?_;refine Ω ?_;refine S.n ?_;refine θ ?_;refine S.r ?_
    -- leaf 3 ret [h3: t8=False; h4: t13=False; h5: t21=True] H=['q2']
    refine qB rfl (congrArg Value.bool ?_);exact (show kJ n=false from by simp [kJ,h5]).symm
  try simp only [dA,decide_eq_false_iff_not,Bool.not_eq_true',Bool.not_eq_false',Bool.not_eq_eq_eq_not,Bool.not_true,Bool.not_false,Int.not_lt,Int.not_le,Decidable.not_not]at h5
  refine TL.gv rfl rfl rfl rfl rfl (OpVal.r_ rfl yz_ rfl) rfl rfl ?_;refine TL.gv rfl rfl rfl rfl rfl (OpVal.qw rfl oV rfl (i:=0) rfl rfl) rfl rfl ?_;refine TL.gv rfl rfl rfl rfl rfl (OpVal.r_ rfl G9 rfl) rfl rfl ?_;refine TL.gv rfl rfl rfl rfl rfl (OpVal.qw rfl vS rfl (i:=0) rfl rfl) rfl rfl ?_;refine TL.gon rfl rfl rfl rfl rfl (OpOk.eG (pf_ _ _ _ _ _ hn.e) rfl rfl QB rfl rfl rfl ?_);refine TL.gv rfl rfl rfl rfl rfl (OpVal.not rfl rfl) rfl rfl ?_;refine Ξ rfl (OpVal.qN rfl rfl rfl) rfl rfl ?_;refine Ξ rfl (OpVal.moveB (.inl rfl) rfl) rfl rfl ?_;refine Γ 29 rfl (λh6=> ?_) (λh6=> ?_)
  · try simp only [dA,decide_eq_false_iff_not,Bool.not_eq_true',Bool.not_eq_false',Bool.not_eq_eq_eq_not,Bool.not_true,Bool.not_false,Int.not_lt,Int.not_le,Decidable.not_not]at h6
    refine χ rfl rfl rfl rfl rfl rfl rfl rfl ?_;refine χ rfl rfl rfl rfl rfl rfl rfl rfl ?_;refine χ rfl rfl rfl rfl rfl rfl rfl rfl ?_;refine χ rfl rfl rfl rfl rfl rfl rfl rfl ?_;refine Ξ rfl (OpVal.lF rfl rfl rfl) rfl rfl ?_;refine Ω ?_;refine S.n ?_;refine TC.cond rfl (λ_=> ?_) (λh=>Bool.noConfusion h);refine Ψ ?_;refine υ ?_;refine Ξ rfl (OpVal.moveB (.inr rfl) rfl) rfl rfl ?_;refine Ω ?_;refine S.n ?_;refine θ ?_;refine S.r ?_
    -- leaf 4 ret [h3: t8=False; h4: t13=False; h5: t21=False; h6: t29=True] H=['q2']
    refine qB rfl (congrArg Value.bool ?_);exact (show kJ n=false from by simp [kJ,h6]).symm
  try simp only [dA,decide_eq_false_iff_not,Bool.not_eq_true',Bool.not_eq_false',Bool.not_eq_eq_eq_not,Bool.not_true,Bool.not_false,Int.not_lt,Int.not_le,Decidable.not_not]at h6
  refine TL.gv rfl rfl rfl rfl rfl (OpVal.r_ rfl Zw rfl) rfl rfl ?_;refine TL.gv rfl rfl rfl rfl rfl (OpVal.qw rfl NH rfl (i:=0) rfl rfl) rfl rfl ?_;refine TL.gv rfl rfl rfl rfl rfl (OpVal.lenC rfl Tryz.underlying63 rfl) rfl rfl ?_;refine TL.gv rfl rfl rfl rfl rfl (OpVal.gtr rfl rfl rfl) rfl rfl ?_;refine Ξ rfl (OpVal.qN rfl rfl rfl) rfl rfl ?_;refine Ω ?_;refine S.n ?_;refine TC.ES rfl (λh7=> ?_) (λh7=> ?_)
  · try simp only [dA,decide_eq_false_iff_not,Bool.not_eq_true',Bool.not_eq_false',Bool.not_eq_eq_eq_not,Bool.not_true,Bool.not_false,Int.not_lt,Int.not_le,Decidable.not_not]at h7
    refine Ψ ?_;refine υ ?_;refine Ξ rfl (OpVal.moveB (.inr rfl) rfl) rfl rfl ?_;refine Ω ?_;refine S.n ?_;refine θ ?_;refine S.r ?_
    -- leaf 5 ret [h3: t8=False; h4: t13=False; h5: t21=False; h6: t29=False; h7: True] H=['q2']
    refine qB rfl (congrArg Value.bool ?_);exact (show kJ n=false from by simp only [kJ,Bool.and_eq_false_iff,decide_eq_false_iff_not];omega).symm
  try simp only [dA,decide_eq_false_iff_not,Bool.not_eq_true',Bool.not_eq_false',Bool.not_eq_eq_eq_not,Bool.not_true,Bool.not_false,Int.not_lt,Int.not_le,Decidable.not_not]at h7
  refine TC.skip ?_;refine S.n ?_;refine Ψ ?_;refine Ψ ?_;refine υ ?_;refine Ξ rfl (OpVal.fP (.inr rfl) rfl) rfl rfl ?_;refine Ω ?_;refine S.n ?_;refine TC.block ?_;refine TC.Pq (α:=Nat) [2,3,4,35,36,37,38,39,40,41,42,43,44,45,46,47,48,49,50,51,52,53,54,55,56,57,58,59,60,61,62,63,64,65,66,67,68,69,70,71,72,73,74] (λk=>[(3,.int .i64 (k:Nat))]) (λ_=>_) (λ_=>_) (λk=>k<=n.edges.length/\ ∀i,i<k->if_ n.states (nth n.edges i Arrow.zero)=true) (λk=>n.edges.length - k) (0) (by first|exact True.intro|omega|(dsimp only;omega)|(simp;done)|(simp;omega)) (by repeat (first|exact trivial|refine ⟨rfl,?_⟩)) (by rfl) (by rfl) (λg1 j1 hg1=> ?_);obtain ⟨hk,hi⟩:=hg1;refine Ψ ?_;refine Ψ ?_;refine υ ?_;refine Ξ rfl (OpVal.fP (.inl rfl) rfl) rfl rfl ?_;refine Ξ rfl (OpVal.r_ rfl Zw rfl) rfl rfl ?_;refine Ξ rfl (OpVal.qw rfl NH rfl (i:=0) rfl rfl) rfl rfl ?_;refine Ξ rfl (OpVal.lenC rfl Tryz.underlying63 rfl) rfl rfl ?_;refine Ξ rfl (OpVal.lss rfl rfl rfl) rfl rfl ?_;refine Ω ?_;refine S.n ?_;refine TC.ES rfl (λh8=> ?_) (λh8=> ?_)
  · try simp only [dA,decide_eq_false_iff_not,Bool.not_eq_true',Bool.not_eq_false',Bool.not_eq_eq_eq_not,Bool.not_true,Bool.not_false,Int.not_lt,Int.not_le,Decidable.not_not]at h8
    refine TC.skip ?_;refine S.n ?_;refine Ψ ?_;refine TC.block ?_;refine Ψ ?_;refine υ ?_;refine Ξ rfl (OpVal.r_ rfl Zw rfl) rfl rfl ?_;refine Ξ rfl (OpVal.qw rfl NH rfl (i:=0) rfl rfl) rfl rfl ?_;refine Ξ rfl (OpVal.fP (.inl rfl) rfl) rfl rfl ?_;refine Ξ rfl (OpVal.zk rfl Tryz.underlying63 Vk rfl rfl (by first|assumption|exact (RS.rv (by assumption)).sl) (by omega)) rfl rfl ?_;refine Ξ rfl (OpVal.cu_ Arrow.zero rfl LY Vk rfl (by assumption) (by omega) (by omega)) rfl rfl ?_;refine κ rfl (OpOk.alloc rfl I5 rfl rfl (λb9=> ?_));refine κ rfl (OpOk.storeAll rfl Vk rfl rfl rfl rfl rfl rfl ?_);refine Ω ?_;refine S.n ?_;refine Ψ ?_;refine υ ?_;refine Ξ rfl (OpVal.r_ rfl q4_ rfl) rfl rfl ?_;refine Ξ rfl (OpVal.qw rfl vS rfl (i:=0) rfl rfl) rfl rfl ?_;refine Ξ rfl (OpVal.lss rfl rfl rfl) rfl rfl ?_;refine Ξ rfl (OpVal.moveB (.inl rfl) rfl) rfl rfl ?_;refine Γ 50 rfl (λh11=> ?_) (λh11=> ?_)
    · try simp only [dA,decide_eq_false_iff_not,Bool.not_eq_true',Bool.not_eq_false',Bool.not_eq_eq_eq_not,Bool.not_true,Bool.not_false,Int.not_lt,Int.not_le,Decidable.not_not]at h11
      refine χ rfl rfl rfl rfl rfl rfl rfl rfl ?_;refine χ rfl rfl rfl rfl rfl rfl rfl rfl ?_;refine χ rfl rfl rfl rfl rfl rfl rfl rfl ?_;refine χ rfl rfl rfl rfl rfl rfl rfl rfl ?_;refine χ rfl rfl rfl rfl rfl rfl rfl rfl ?_;refine Ξ rfl (OpVal.lF rfl rfl rfl) rfl rfl ?_;refine Ξ rfl (OpVal.moveB (.inl rfl) rfl) rfl rfl ?_;refine χ rfl rfl rfl rfl rfl rfl rfl rfl ?_;refine χ rfl rfl rfl rfl rfl rfl rfl rfl ?_;refine χ rfl rfl rfl rfl rfl rfl rfl rfl ?_;refine Ξ rfl (OpVal.lF rfl rfl rfl) rfl rfl ?_;refine Ξ rfl (OpVal.moveB (.inl rfl) rfl) rfl rfl ?_;refine χ rfl rfl rfl rfl rfl rfl rfl rfl ?_;refine χ rfl rfl rfl rfl rfl rfl rfl rfl ?_;refine χ rfl rfl rfl rfl rfl rfl rfl rfl ?_;refine χ rfl rfl rfl rfl rfl rfl rfl rfl ?_;refine χ rfl rfl rfl rfl rfl rfl rfl rfl ?_;refine Ξ rfl (OpVal.lF rfl rfl rfl) rfl rfl ?_;refine Ξ rfl (OpVal.moveB (.inl rfl) rfl) rfl rfl ?_;refine χ rfl rfl rfl rfl rfl rfl rfl rfl ?_;refine χ rfl rfl rfl rfl rfl rfl rfl rfl ?_;refine χ rfl rfl rfl rfl rfl rfl rfl rfl ?_;refine χ rfl rfl rfl rfl rfl rfl rfl rfl ?_;refine Ξ rfl (OpVal.lF rfl rfl rfl) rfl rfl ?_;refine Ω ?_;refine S.n ?_;refine TC.cond rfl (λ_=> ?_) (λh=>Bool.noConfusion h);refine Ψ ?_;refine υ ?_;refine Ξ rfl (OpVal.moveB (.inr rfl) rfl) rfl rfl ?_;refine Ω ?_;refine S.n ?_;refine θ ?_;refine B.r ?_;refine S.r ?_;refine S.r ?_;refine B.r ?_;refine S.r ?_
      -- leaf 6 ret [h3: t8=False; h4: t13=False; h5: t21=False; h6: t29=False; h7: False; h8: True; h11: t50=True] H=['D9, 'q2']
      refine qB rfl (congrArg Value.bool ?_);exact (show kJ n=false from by rw [kJ,hs_ (n:=n) (k:=g1) (by omega) (by simp [if_,zN];omega),Bool.and_false]).symm
    try simp only [dA,decide_eq_false_iff_not,Bool.not_eq_true',Bool.not_eq_false',Bool.not_eq_eq_eq_not,Bool.not_true,Bool.not_false,Int.not_lt,Int.not_le,Decidable.not_not]at h11
    refine TL.gv rfl rfl rfl rfl rfl (OpVal.r_ rfl q4_ rfl) rfl rfl ?_;refine TL.gv rfl rfl rfl rfl rfl (OpVal.qw rfl vS rfl (i:=0) rfl rfl) rfl rfl ?_;refine TL.gv rfl rfl rfl rfl rfl (OpVal.r_ rfl G9 rfl) rfl rfl ?_;refine TL.gv rfl rfl rfl rfl rfl (OpVal.qw rfl vS rfl (i:=1) rfl rfl) rfl rfl ?_;refine TL.gv rfl rfl rfl rfl rfl (OpVal.geq rfl rfl rfl) rfl rfl ?_;refine Ξ rfl (OpVal.qN rfl rfl rfl) rfl rfl ?_;refine Ξ rfl (OpVal.moveB (.inl rfl) rfl) rfl rfl ?_;refine Γ 57 rfl (λh12=> ?_) (λh12=> ?_)
    · try simp only [dA,decide_eq_false_iff_not,Bool.not_eq_true',Bool.not_eq_false',Bool.not_eq_eq_eq_not,Bool.not_true,Bool.not_false,Int.not_lt,Int.not_le,Decidable.not_not]at h12
      refine χ rfl rfl rfl rfl rfl rfl rfl rfl ?_;refine χ rfl rfl rfl rfl rfl rfl rfl rfl ?_;refine χ rfl rfl rfl rfl rfl rfl rfl rfl ?_;refine Ξ rfl (OpVal.lF rfl rfl rfl) rfl rfl ?_;refine Ξ rfl (OpVal.moveB (.inl rfl) rfl) rfl rfl ?_;refine χ rfl rfl rfl rfl rfl rfl rfl rfl ?_;refine χ rfl rfl rfl rfl rfl rfl rfl rfl ?_;refine χ rfl rfl rfl rfl rfl rfl rfl rfl ?_;refine χ rfl rfl rfl rfl rfl rfl rfl rfl ?_;refine χ rfl rfl rfl rfl rfl rfl rfl rfl ?_;refine Ξ rfl (OpVal.lF rfl rfl rfl) rfl rfl ?_;refine Ξ rfl (OpVal.moveB (.inl rfl) rfl) rfl rfl ?_;refine χ rfl rfl rfl rfl rfl rfl rfl rfl ?_;refine χ rfl rfl rfl rfl rfl rfl rfl rfl ?_;refine χ rfl rfl rfl rfl rfl rfl rfl rfl ?_;refine χ rfl rfl rfl rfl rfl rfl rfl rfl ?_;refine Ξ rfl (OpVal.lF rfl rfl rfl) rfl rfl ?_;refine Ω ?_;refine S.n ?_;refine TC.cond rfl (λ_=> ?_) (λh=>Bool.noConfusion h);refine Ψ ?_;refine υ ?_;refine Ξ rfl (OpVal.moveB (.inr rfl) rfl) rfl rfl ?_;refine Ω ?_;refine S.n ?_;refine θ ?_;refine B.r ?_;refine S.r ?_;refine S.r ?_;refine B.r ?_;refine S.r ?_
      -- leaf 7 ret [h3: t8=False; h4: t13=False; h5: t21=False; h6: t29=False; h7: False; h8: True; h11: t50=False; h12: t57=True] H=['D9, 'q2']
      refine qB rfl (congrArg Value.bool ?_);exact (show kJ n=false from by rw [kJ,hs_ (n:=n) (k:=g1) (by omega) (by simp [if_,zN];omega),Bool.and_false]).symm
    try simp only [dA,decide_eq_false_iff_not,Bool.not_eq_true',Bool.not_eq_false',Bool.not_eq_eq_eq_not,Bool.not_true,Bool.not_false,Int.not_lt,Int.not_le,Decidable.not_not]at h12
    refine TL.gv rfl rfl rfl rfl rfl (OpVal.r_ rfl q8_ rfl) rfl rfl ?_;refine TL.gv rfl rfl rfl rfl rfl (OpVal.qw rfl vS rfl (i:=0) rfl rfl) rfl rfl ?_;refine TL.gv rfl rfl rfl rfl rfl (OpVal.lss rfl rfl rfl) rfl rfl ?_;refine Ξ rfl (OpVal.qN rfl rfl rfl) rfl rfl ?_;refine Ξ rfl (OpVal.moveB (.inl rfl) rfl) rfl rfl ?_;refine Γ 62 rfl (λh13=> ?_) (λh13=> ?_)
    · try simp only [dA,decide_eq_false_iff_not,Bool.not_eq_true',Bool.not_eq_false',Bool.not_eq_eq_eq_not,Bool.not_true,Bool.not_false,Int.not_lt,Int.not_le,Decidable.not_not]at h13
      refine χ rfl rfl rfl rfl rfl rfl rfl rfl ?_;refine χ rfl rfl rfl rfl rfl rfl rfl rfl ?_;refine χ rfl rfl rfl rfl rfl rfl rfl rfl ?_;refine χ rfl rfl rfl rfl rfl rfl rfl rfl ?_;refine χ rfl rfl rfl rfl rfl rfl rfl rfl ?_;refine Ξ rfl (OpVal.lF rfl rfl rfl) rfl rfl ?_;refine Ξ rfl (OpVal.moveB (.inl rfl) rfl) rfl rfl ?_;refine χ rfl rfl rfl rfl rfl rfl rfl rfl ?_;refine χ rfl rfl rfl rfl rfl rfl rfl rfl ?_;refine χ rfl rfl rfl rfl rfl rfl rfl rfl ?_;refine χ rfl rfl rfl rfl rfl rfl rfl rfl ?_;refine Ξ rfl (OpVal.lF rfl rfl rfl) rfl rfl ?_;refine Ω ?_;refine S.n ?_;refine TC.cond rfl (λ_=> ?_) (λh=>Bool.noConfusion h);refine Ψ ?_;refine υ ?_;refine Ξ rfl (OpVal.moveB (.inr rfl) rfl) rfl rfl ?_;refine Ω ?_;refine S.n ?_;refine θ ?_;refine B.r ?_;refine S.r ?_;refine S.r ?_;refine B.r ?_;refine S.r ?_
      -- leaf 8 ret [h3: t8=False; h4: t13=False; h5: t21=False; h6: t29=False; h7: False; h8: True; h11: t50=False; h12: t57=False; h13: t62=True] H=['D9, 'q2']
      refine qB rfl (congrArg Value.bool ?_);exact (show kJ n=false from by rw [kJ,hs_ (n:=n) (k:=g1) (by omega) (by simp [if_,zN];omega),Bool.and_false]).symm
    try simp only [dA,decide_eq_false_iff_not,Bool.not_eq_true',Bool.not_eq_false',Bool.not_eq_eq_eq_not,Bool.not_true,Bool.not_false,Int.not_lt,Int.not_le,Decidable.not_not]at h13
    refine TL.gv rfl rfl rfl rfl rfl (OpVal.r_ rfl q8_ rfl) rfl rfl ?_;refine TL.gv rfl rfl rfl rfl rfl (OpVal.qw rfl vS rfl (i:=0) rfl rfl) rfl rfl ?_;refine TL.gv rfl rfl rfl rfl rfl (OpVal.r_ rfl G9 rfl) rfl rfl ?_;refine TL.gv rfl rfl rfl rfl rfl (OpVal.qw rfl vS rfl (i:=1) rfl rfl) rfl rfl ?_;refine TL.gv rfl rfl rfl rfl rfl (OpVal.geq rfl rfl rfl) rfl rfl ?_;refine Ξ rfl (OpVal.qN rfl rfl rfl) rfl rfl ?_;refine Ξ rfl (OpVal.moveB (.inl rfl) rfl) rfl rfl ?_;refine Γ 69 rfl (λZV=> ?_) (λZV=> ?_)
    · try simp only [dA,decide_eq_false_iff_not,Bool.not_eq_true',Bool.not_eq_false',Bool.not_eq_eq_eq_not,Bool.not_true,Bool.not_false,Int.not_lt,Int.not_le,Decidable.not_not]at ZV
      refine χ rfl rfl rfl rfl rfl rfl rfl rfl ?_;refine χ rfl rfl rfl rfl rfl rfl rfl rfl ?_;refine χ rfl rfl rfl rfl rfl rfl rfl rfl ?_;refine χ rfl rfl rfl rfl rfl rfl rfl rfl ?_;refine Ξ rfl (OpVal.lF rfl rfl rfl) rfl rfl ?_;refine Ω ?_;refine S.n ?_;refine TC.cond rfl (λ_=> ?_) (λh=>Bool.noConfusion h);refine Ψ ?_;refine υ ?_;refine Ξ rfl (OpVal.moveB (.inr rfl) rfl) rfl rfl ?_;refine Ω ?_;refine S.n ?_;refine θ ?_;refine B.r ?_;refine S.r ?_;refine S.r ?_;refine B.r ?_;refine S.r ?_
      -- leaf 9 ret [h3: t8=False; h4: t13=False; h5: t21=False; h6: t29=False; h7: False; h8: True; h11: t50=False; h12: t57=False; h13: t62=False; ZV: t69=True] H=['D9, 'q2']
      refine qB rfl (congrArg Value.bool ?_);exact (show kJ n=false from by rw [kJ,hs_ (n:=n) (k:=g1) (by omega) (by simp [if_,zN];omega),Bool.and_false]).symm
    try simp only [dA,decide_eq_false_iff_not,Bool.not_eq_true',Bool.not_eq_false',Bool.not_eq_eq_eq_not,Bool.not_true,Bool.not_false,Int.not_lt,Int.not_le,Decidable.not_not]at ZV
    refine TL.gv rfl rfl rfl rfl rfl (OpVal.r_ rfl ss_ rfl) rfl rfl ?_;refine TL.gv rfl rfl rfl rfl rfl (OpVal.bp_ rfl MQ D6 rfl (i:=0) rfl rfl rfl) rfl rfl ?_;refine TL.gv rfl rfl rfl rfl rfl (OpVal.XQ rfl Tryz.underlying47 ug Fq rfl) rfl rfl ?_;refine TL.gv rfl rfl rfl rfl rfl (OpVal.cg_ rfl Tryz.underlying47 Tryz.underlying45 zF ug Ht rfl rfl rfl rfl) rfl rfl ?_;refine Ξ rfl (OpVal.qN rfl rfl rfl) rfl rfl ?_;refine Ω ?_;refine S.n ?_;refine TC.ES rfl (λh15=> ?_) (λh15=> ?_)
    · try simp only [dA,decide_eq_false_iff_not,Bool.not_eq_true',Bool.not_eq_false',Bool.not_eq_eq_eq_not,Bool.not_true,Bool.not_false,Int.not_lt,Int.not_le,Decidable.not_not]at h15
      refine Ψ ?_;refine υ ?_;refine Ξ rfl (OpVal.moveB (.inr rfl) rfl) rfl rfl ?_;refine Ω ?_;refine S.n ?_;refine θ ?_;refine B.r ?_;refine S.r ?_;refine S.r ?_;refine B.r ?_;refine S.r ?_
      -- leaf 10 ret [h3: t8=False; h4: t13=False; h5: t21=False; h6: t29=False; h7: False; h8: True; h11: t50=False; h12: t57=False; h13: t62=False; ZV: t69=False; h15: True] H=['D9, 'q2']
      refine qB rfl (congrArg Value.bool ?_);exact (show kJ n=false from by rw [kJ,hs_ (n:=n) (k:=g1) (by omega) (by simp [if_,(BSet.bh_ _).1 h15]),Bool.and_false]).symm
    try simp only [dA,decide_eq_false_iff_not,Bool.not_eq_true',Bool.not_eq_false',Bool.not_eq_eq_eq_not,Bool.not_true,Bool.not_false,Int.not_lt,Int.not_le,Decidable.not_not]at h15
    refine TC.skip ?_;refine B.n ?_;refine S.n ?_;refine υ ?_;refine Ξ rfl (OpVal.fP (.inl rfl) rfl) rfl rfl ?_;refine Ξ rfl (OpVal.succ rfl rfl rfl (by omega)) rfl rfl ?_;refine Ξ rfl (OpVal.fP (.inr rfl) rfl) rfl rfl ?_;refine TL.dropN 1 rfl ?_;refine Ω ?_;refine S.n ?_
    -- leaf 11 next [h3: t8=False; h4: t13=False; h5: t21=False; h6: t29=False; h7: False; h8: True; h11: t50=False; h12: t57=False; h13: t62=False; ZV: t69=False; h15: False] H=['q2']
    refine ⟨by repeat (first|exact Agr.mask|refine Agr.upd rfl ?_ |refine Agr.EZ rfl ?_),g1+1,?_,?_,?_,?_,?_⟩
    · omega
    · refine ⟨by omega,ZG (p:=λi=>if_ n.states (nth n.edges i Arrow.zero)) hi ?_⟩
      have hz: ¬ (nth n.edges g1 Arrow.zero).set=BSet.zero:=λhx=>h15 ((BSet.bh_ _).2 hx);simp [if_,zN,hz];omega
    · repeat (first|exact trivial|refine ⟨rfl,?_⟩)
    · rfl
    rfl
  try simp only [dA,decide_eq_false_iff_not,Bool.not_eq_true',Bool.not_eq_false',Bool.not_eq_eq_eq_not,Bool.not_true,Bool.not_false,Int.not_lt,Int.not_le,Decidable.not_not]at h8
  refine TC.exit ?_;refine S.x ?_;refine S.x ?_;refine TC.LX ?_;refine S.n ?_;refine Ψ ?_;refine υ ?_;refine Ξ rfl (OpVal.moveB (.inr rfl) rfl) rfl rfl ?_;refine Ω ?_;refine S.n ?_;refine θ ?_
  -- leaf 12 ret [h3: t8=False; h4: t13=False; h5: t21=False; h6: t29=False; h7: False; h8: False] H=['q2']
  refine qB rfl (congrArg Value.bool ?_);have he:=ry_ (n:=n) (λi h=>hi i (by omega));simp [kJ,h3,h4,h5,h6,h7,he]
def MW(l:T_1)(k:Nat):Nat->Bool:=λi=>(l.take k).any λu=>decide (i=u.toNat)
theorem wn_(l:T_1):BSet.make (MW l 0)=BSet.zero:=by
  rw [show MW l 0=λ_=>false from by funext i;simp [MW]];exact BSet.Uh
theorem w2_{l:T_1}{k:Nat}(h:k<l.length):(λi=>MW l k i || decide (i=(nth l k 0).toNat))=MW l (k+1):=by
  funext i;simp [MW,p6_ l h 0]
theorem aaa_(l:T_1):BSet.make (MW l l.length)=BSet.ofL l:=by
  unfold MW BSet.ofL;rw [List.take_length]
theorem pa_{a:Nat}(h:a<64):2 ^ a<18446744073709551616:=Nat.lt_of_le_of_lt (Nat.pow_le_pow_right (by omega) (show a<=63 by omega)) (by decide)
theorem rv_(σ:ak)(a:Option Addr)(c:Nat)(l:T_1)(hsz:l.length<=1000000000000):
    Con Tryz.prog 50 #[.slice a l.length c] σ [ε 5 1 qC (.slice a l.length c) l] (iU (sK (BSet.ofL l)) σ):=by
  refine Con.mk (n:=23) Tryz.func50 rfl rfl rfl (λw0=> ?_);refine Ψ ?_;refine υ ?_;refine κ rfl (OpOk.alloc rfl Fq rfl rfl (λb1=> ?_));refine Ω ?_;refine S.n ?_;refine Ψ ?_;refine υ ?_;refine κ rfl (OpOk.alloc rfl Fq rfl rfl (λb3=> ?_));refine Ω ?_;refine S.n ?_;refine Ψ ?_;refine Ψ ?_;refine υ ?_;refine Ξ rfl (OpVal.EY (.inl rfl) rfl) rfl rfl ?_;refine Ξ rfl (OpVal.lenC rfl Tryz.underlying84 rfl) rfl rfl ?_;refine Ξ rfl (OpVal.fP (.inl rfl) rfl) rfl rfl ?_;refine Ω ?_;refine S.n ?_;refine TC.block ?_;refine TC.Pq (α:=Nat) [5,8,9,10,11,12,13,14,15,16,17,18,19,20,21] (λk=>[(8,.int .i64 (k:Nat))]) (λk=>[ω b3 (setA (BSet.make (MW l k))) 47,ω b1 (setA BSet.zero) 47,ε 5 1 qC (.slice a l.length c) l]) (λ_=>_) (λk=>k<=l.length) (λk=>l.length - k) (0) (by first|exact True.intro|omega|(dsimp only;omega)|(simp;done)|(simp;omega)) (by repeat (first|exact trivial|refine ⟨rfl,?_⟩)) (by rw [wn_];rfl) (by rfl) (λg1 j1 hg1=> ?_);have hu:(nth l g1 (0:UInt8)).toNat<256:=UInt8.toNat_lt _;have hp:=pa_ (Nat.mod_lt (nth l g1 (0:UInt8)).toNat (show 0<64 by omega));have hw:=BSet.word_lt (BSet.dn_ (MW l g1)) ((nth l g1 (0:UInt8)).toNat / 64);refine Ψ ?_;refine υ ?_;refine Ξ rfl (OpVal.lss rfl rfl rfl) rfl rfl ?_;refine Ω ?_;refine S.n ?_;refine Ψ ?_;refine TC.ES rfl (λh5=> ?_) (λh5=> ?_)
  · try simp only [dA,decide_eq_false_iff_not,Bool.not_eq_true',Bool.not_eq_false',Bool.not_eq_eq_eq_not,Bool.not_true,Bool.not_false,Int.not_lt,Int.not_le,Decidable.not_not]at h5
    refine TC.skip ?_;refine S.n ?_;refine Ψ ?_;refine TC.block ?_;refine Ψ ?_;refine υ ?_;refine TL.isSl (i:=2) rfl (λhs6 _ _=> ?_);refine Ξ rfl (OpVal.zk rfl Tryz.underlying84 sz5 rfl rfl (by first|assumption|exact (RS.rv (by assumption)).sl) (by omega)) rfl rfl ?_;refine Ξ rfl (OpVal.cl_ (0:UInt8) rfl ag5 rfl (q:=2) rfl oc_ (by omega) rfl) rfl rfl ?_;refine Ξ rfl (OpVal.fP (.inr rfl) rfl) rfl rfl ?_;refine Ω ?_;refine S.n ?_;refine υ ?_;refine Ξ rfl (OpVal.fP (.inl rfl) rfl) rfl rfl ?_;refine Ξ rfl (OpVal.quoN (b:=64) rfl rfl rfl (by omega) (by simp only [zG];omega)) rfl rfl ?_;refine Ξ rfl (OpVal.XP rfl Tryz.underlying47 ug rfl rfl (by omega)) rfl rfl ?_;refine Ξ rfl (OpVal.bo_ rfl zF rfl (j:=0) rfl (by omega)) rfl rfl ?_;refine Ξ rfl (OpVal.fP (.inl rfl) rfl) rfl rfl ?_;refine Ξ rfl (OpVal.remN (b:=64) rfl rfl rfl (by omega)) rfl rfl ?_;refine Ξ rfl (OpVal.shlN (a:=1) rfl rfl rfl (by show _<64;omega) (by simp only [zG];omega)) rfl rfl ?_;refine Ξ rfl (OpVal.orN rfl rfl rfl (by omega) (by omega)) rfl rfl ?_;refine Ξ rfl (OpVal.XP rfl Tryz.underlying47 ug rfl rfl (by omega)) rfl rfl ?_;refine κ rfl (OpOk.bq_ rfl ug rfl rfl rfl (by omega) (Nat.or_lt_two_pow (n:=64) hw (by omega)) ?_);refine Ω ?_;refine B.n ?_;refine S.n ?_;refine υ ?_;refine Ξ rfl (OpVal.succ rfl rfl rfl (by omega)) rfl rfl ?_;refine Ξ rfl (OpVal.fP (.inl rfl) rfl) rfl rfl ?_;refine Ω ?_;refine S.n ?_
    -- leaf 1 next [h5: True] H=['q4', 'q2', 'r0']
    refine ⟨by repeat (first|exact Agr.mask|refine Agr.upd rfl ?_ |refine Agr.EZ rfl ?_),g1+1,?_,?_,?_,?_,?_⟩
    · omega
    · first|exact True.intro|omega|(dsimp only;omega)|(simp;done)|(simp;omega)
    · repeat (first|exact trivial|refine ⟨rfl,?_⟩)
    · rw [BSet.ds_ _ hu,w2_ (by omega)]
    rfl
  try simp only [dA,decide_eq_false_iff_not,Bool.not_eq_true',Bool.not_eq_false',Bool.not_eq_eq_eq_not,Bool.not_true,Bool.not_false,Int.not_lt,Int.not_le,Decidable.not_not]at h5
  refine TC.exit ?_;refine S.x ?_;refine S.x ?_;refine TC.LX ?_;refine S.n ?_;refine Ψ ?_;refine υ ?_;refine Ξ rfl (OpVal.Ue rfl MQ D6 rfl (i:=0) rfl rfl) rfl rfl ?_;refine φ 1 rfl rfl ?_;refine κ rfl (OpOk.storeAll rfl D6 rfl rfl rfl rfl rfl rfl ?_);refine Ω ?_;refine S.n ?_;refine θ ?_
  -- leaf 2 ret [h5: False] H=['q2', 'q4', 'r0']
  obtain rfl:g1=l.length:=by omega
  rw [aaa_];exact uu_ 0 rfl MQ D6 rfl rfl rfl rfl
def BN(f:Nat->Bool)(b:Nat):BSet:=BSet.make λi=>f i && decide (i<b)
theorem vj_(f:Nat->Bool):BN f 0=BSet.zero:=by
  rw [show BN f 0=BSet.make (λ_=>false)from by unfold BN;congr 1;funext i;simp];exact BSet.Uh
theorem ws_(f:Nat->Bool):BN f 256=BSet.make f:=BSet.Pv λi hi=>by simp [hi]
theorem zl_{f:Nat->Bool}{b:Nat}(h:f b=false):BN f (b+1)=BN f b:=by
  unfold BN;congr 1;funext i
  by_cases hi:i=b
  · subst hi;simp [h]
  have:decide (i<b+1)=decide (i<b):=by rw [decide_eq_decide];omega
  rw [this]
theorem ZP(f:Nat->Bool){b i j:Nat}(hi:i<4):((BN f b).word i).testBit j=(decide (j<64) && (f (64 * i+j) && decide (64 * i+j<b))):=by
  unfold BN;rw [BSet.PL _ hi,Nc]
theorem t3_(f:Nat->Bool){b:Nat}(hb:b<256):(BN f b).word (b / 64)<2 ^ (b % 64):=by
  apply Nat.lt_pow_two_of_testBit;intro j hj;rw [ZP f (by omega)];have: ¬ 64 * (b / 64)+j<b:=by omega
  simp [this]
theorem wt_{f:Nat->Bool}{b:Nat}(hb:b<256)(h:f b=true):(BN f b).H9 (b / 64) ((BN f b).word (b / 64)+2 ^ (b % 64))=BN f (b+1):=by
  refine BSet.bi_ λi hi=> ?_;have hlt:=t3_ f hb;have hw:(BN f b).word (b / 64)+2 ^ (b % 64)<18446744073709551616:=by
    have h2:2 ^ (b % 64)<=2 ^ 63:=Nat.pow_le_pow_right (by omega) (by omega);have h3:(2:Nat) ^ 63=9223372036854775808:=by decide
    omega
  rw [BSet.b1_ _ (by omega) _ _ hw hi]
  split
  · subst_vars
    refine Nat.eq_of_testBit_eq λj=> ?_;rw [ZP f (by omega),Nat.add_comm];rcases Nat.lt_trichotomy j (b % 64)with hj|hj|hj
    · rw [Nat.testBit_two_pow_add_gt hj,ZP f (by omega)]
      have h1:64 * (b / 64)+j<b:=by omega
      have h2:64 * (b / 64)+j<b+1:=by omega
      simp [h1,h2]
    · subst hj
      rw [Nat.testBit_two_pow_add_eq,ZP f (by omega)];have h1:64 * (b / 64)+b % 64=b:=by omega
      have h2:b % 64<64:=by omega
      rw [h1];simp [h,h2]
    rw [Nat.testBit_lt_two_pow (Nat.lt_of_lt_of_le (show 2 ^ (b % 64)+(BN f b).word (b / 64)<2 ^ (b % 64+1)from by rw [Nat.pow_succ];omega) (Nat.pow_le_pow_right (by omega) hj))]
    by_cases hj2:j<64
    · have: ¬ 64 * (b / 64)+j<b+1:=by omega
      simp [this]
    simp [hj2]
  refine Nat.eq_of_testBit_eq λj=> ?_;rw [ZP f hi,ZP f hi]
  by_cases hj:j<64
  · have:decide (64 * i+j<b)=decide (64 * i+j<b+1):=by rw [decide_eq_decide];omega
    rw [this]
  simp [hj]
theorem aai_(σ:ak)(a:Option Addr)(c:Nat)(l:B_1)(h256:l.length=256):
    Con Tryz.prog 117 #[.slice a 256 c] σ [ε 4 1 dL (.slice a 256 c) l] (iU (sK (BSet.make λi=>nth l i false)) σ):=by
  refine Con.mk (n:=25) Tryz.func117 rfl rfl rfl (λw0=> ?_);refine Ψ ?_;refine υ ?_;refine κ rfl (OpOk.alloc rfl Fq rfl rfl (λb1=> ?_));refine Ω ?_;refine S.n ?_;refine Ψ ?_;refine υ ?_;refine κ rfl (OpOk.alloc rfl Fq rfl rfl (λb3=> ?_));refine Ω ?_;refine S.n ?_;refine Ψ ?_;refine Ψ ?_;refine υ ?_;refine Ξ rfl (OpVal.fP (.inr rfl) rfl) rfl rfl ?_;refine Ω ?_;refine S.n ?_;refine TC.block ?_;refine TC.Pq (α:=Nat) [4,5,6,7,8,9,10,11,12,13,14,15,16,17,18,19,20,21,22,23] (λk=>[(4,.int .i64 (k:Nat))]) (λk=>[ω b3 (setA (BN (λi=>nth l i false) k)) 47,ω b1 (setA BSet.zero) 47,ε 4 1 dL (.slice a 256 c) l]) (λ_=>_) (λk=>k<=256) (λk=>256 - k) (0) (by first|exact True.intro|omega|(dsimp only;omega)|(simp;done)|(simp;omega)) (by repeat (first|exact trivial|refine ⟨rfl,?_⟩)) (by rw [vj_];rfl) (by rfl) (λg1 j1 hg1=> ?_);have hp:=pa_ (Nat.mod_lt g1 (show 0<64 by omega));have hw:g1<256->(BN (λi=>nth l i false) g1).word (g1 / 64)+2 ^ (g1 % 64)<18446744073709551616:=λh=>by
    have h1:=t3_ (λi=>nth l i false) h;have h2:2 ^ (g1 % 64)<=2 ^ 63:=Nat.pow_le_pow_right (by omega) (by omega);have h3:(2:Nat) ^ 63=9223372036854775808:=by decide
    omega
  refine Ψ ?_;refine Ψ ?_;refine υ ?_;refine Ξ rfl (OpVal.fP (.inl rfl) rfl) rfl rfl ?_;refine Ξ rfl (OpVal.lss rfl rfl rfl) rfl rfl ?_;refine Ω ?_;refine S.n ?_;refine TC.ES rfl (λh5=> ?_) (λh5=> ?_)
  · try simp only [dA,decide_eq_false_iff_not,Bool.not_eq_true',Bool.not_eq_false',Bool.not_eq_eq_eq_not,Bool.not_true,Bool.not_false,Int.not_lt,Int.not_le,Decidable.not_not]at h5
    refine TC.skip ?_;refine S.n ?_;refine Ψ ?_;refine TC.block ?_;refine Ψ ?_;refine υ ?_;refine Ξ rfl (OpVal.EY (.inl rfl) rfl) rfl rfl ?_;refine Ξ rfl (OpVal.fP (.inl rfl) rfl) rfl rfl ?_;refine TL.isSl (i:=2) rfl (λhs6 _ _=> ?_);refine Ξ rfl (OpVal.zk rfl Tryz.underlying33 AZ rfl rfl (by first|assumption|exact (RS.rv (by assumption)).sl) (by omega)) rfl rfl ?_;refine Ξ rfl (OpVal.cl_ false rfl ag4 rfl (q:=2) rfl wJ (by omega) rfl) rfl rfl ?_;refine Ω ?_;refine S.n ?_;refine TC.cond rfl (λh7=> ?_) (λh7=> ?_)
    · try simp only [dA,decide_eq_false_iff_not,Bool.not_eq_true',Bool.not_eq_false',Bool.not_eq_eq_eq_not,Bool.not_true,Bool.not_false,Int.not_lt,Int.not_le,Decidable.not_not]at h7
      refine TC.draw [11] (by kernel_rfl) ?_;refine TA.qM 0 rfl (by kernel_rfl) (by kernel_rfl) (by kernel_rfl) rfl (OpVal.fP (.inl rfl) rfl) rfl rfl ?_;refine TA.qM 1 rfl (by kernel_rfl) (by kernel_rfl) (by kernel_rfl) rfl (OpVal.quoN (b:=64) rfl rfl rfl (by omega) (by simp only [zG];omega)) rfl rfl ?_;refine TA.qM 2 rfl (by kernel_rfl) (by kernel_rfl) (by kernel_rfl) rfl (OpVal.fP (.inl rfl) rfl) rfl rfl ?_;refine TA.qM 3 rfl (by kernel_rfl) (by kernel_rfl) (by kernel_rfl) rfl (OpVal.quoN (b:=64) rfl rfl rfl (by omega) (by simp only [zG];omega)) rfl rfl ?_;refine TA.qM 4 rfl (by kernel_rfl) (by kernel_rfl) (by kernel_rfl) rfl (OpVal.XP rfl Tryz.underlying47 ug rfl rfl (by omega)) rfl rfl ?_;refine TA.take 5 rfl (by kernel_rfl) (by kernel_rfl) (by kernel_rfl) (by kernel_rfl) rfl (OpVal.bo_ rfl zF rfl (j:=0) rfl (by omega)) rfl rfl ?_;refine TA.qM 6 rfl (by kernel_rfl) (by kernel_rfl) (by kernel_rfl) rfl (OpVal.fP (.inl rfl) rfl) rfl rfl ?_;refine TA.qM 7 rfl (by kernel_rfl) (by kernel_rfl) (by kernel_rfl) rfl (OpVal.remN (b:=64) rfl rfl rfl (by omega)) rfl rfl ?_;refine TA.act 8 (by kernel_rfl) rfl rfl (OpOk.eG (ro_ _ (g1 % 64) (by omega)) rfl rfl Qy rfl rfl rfl ⟨(λw h=>um (by first|exact ak.le.refl _|assumption) (λr hr=>hr) w h),?_⟩);refine TA.qM 9 rfl (by kernel_rfl) (by kernel_rfl) (by kernel_rfl) rfl (OpVal.addN rfl rfl rfl (by simp only [zG];omega)) rfl rfl ?_;refine TA.qM 10 rfl (by kernel_rfl) (by kernel_rfl) (by kernel_rfl) rfl (OpVal.XP rfl Tryz.underlying47 ug rfl rfl (by omega)) rfl rfl ?_;refine TA.last 11 (by kernel_rfl) rfl rfl rfl (OpOk.bq_ rfl ug rfl rfl rfl (by omega) (hw (by omega)) ?_);refine TZ.done (by kernel_rfl) ?_;refine B.n ?_;refine S.n ?_;refine υ ?_;refine Ξ rfl (OpVal.fP (.inl rfl) rfl) rfl rfl ?_;refine Ξ rfl (OpVal.succ rfl rfl rfl (by omega)) rfl rfl ?_;refine Ξ rfl (OpVal.fP (.inr rfl) rfl) rfl rfl ?_;refine Ω ?_;refine S.n ?_
      -- leaf 1 next [h5: True; h7: True] H=['q4', 'q2', 'r0']
      refine ⟨by repeat (first|exact Agr.mask|refine Agr.upd rfl ?_ |refine Agr.EZ rfl ?_),g1+1,?_,?_,?_,?_,?_⟩
      · omega
      · first|exact True.intro|omega|(dsimp only;omega)|(simp;done)|(simp;omega)
      · repeat (first|exact trivial|refine ⟨rfl,?_⟩)
      · rw [wt_ (by omega) h7]
      rfl
    try simp only [dA,decide_eq_false_iff_not,Bool.not_eq_true',Bool.not_eq_false',Bool.not_eq_eq_eq_not,Bool.not_true,Bool.not_false,Int.not_lt,Int.not_le,Decidable.not_not]at h7
    refine TC.skip ?_;refine B.n ?_;refine S.n ?_;refine υ ?_;refine Ξ rfl (OpVal.fP (.inl rfl) rfl) rfl rfl ?_;refine Ξ rfl (OpVal.succ rfl rfl rfl (by omega)) rfl rfl ?_;refine Ξ rfl (OpVal.fP (.inr rfl) rfl) rfl rfl ?_;refine Ω ?_;refine S.n ?_
    -- leaf 2 next [h5: True; h7: False] H=['q4', 'q2', 'r0']
    refine ⟨by repeat (first|exact Agr.mask|refine Agr.upd rfl ?_ |refine Agr.EZ rfl ?_),g1+1,?_,?_,?_,?_,?_⟩
    · omega
    · first|exact True.intro|omega|(dsimp only;omega)|(simp;done)|(simp;omega)
    · repeat (first|exact trivial|refine ⟨rfl,?_⟩)
    · rw [zl_ h7]
    rfl
  try simp only [dA,decide_eq_false_iff_not,Bool.not_eq_true',Bool.not_eq_false',Bool.not_eq_eq_eq_not,Bool.not_true,Bool.not_false,Int.not_lt,Int.not_le,Decidable.not_not]at h5
  refine TC.exit ?_;refine S.x ?_;refine S.x ?_;refine TC.LX ?_;refine S.n ?_;refine Ψ ?_;refine υ ?_;refine Ξ rfl (OpVal.Ue rfl MQ D6 rfl (i:=0) rfl rfl) rfl rfl ?_;refine φ 1 rfl rfl ?_;refine κ rfl (OpOk.storeAll rfl D6 rfl rfl rfl rfl rfl rfl ?_);refine Ω ?_;refine S.n ?_;refine θ ?_
  -- leaf 3 ret [h5: False] H=['q2', 'q4', 'r0']
  obtain rfl:g1=256:=by omega
  rw [ws_];exact uu_ 0 rfl MQ D6 rfl rfl rfl rfl
end Go.Proofs.YtcfgkcfcddfccaaGreatDoor
end

noncomputable section
namespace Go.E
open Go
structure IStore where
  rows:List (List Int)
  places:FM (List UInt8) Int
structure ITable where
  of:IStore
structure RTable where
  l:List (List Int)
def ITable.zero:ITable:=⟨⟨[],FM.emp⟩⟩
def RTable.zero:RTable:=⟨[]⟩
section
variable {β:Type} {E' E size:Nat} {enc:β->List Value} {v:Value}
theorem vz_{σ:ak}{H:List Res}{q i:Nat}{z:List (NP β)}(hq:H[q]? =some (Res.cn_ E' E size enc v z i))(w:World)(h:jR σ H w):jR σ [ε E' 1 pz v z] w:=
  ⟨h.1,λr hr=>by
    simp at hr;subst hr;exact h.2 _ (List.mem_of_getElem? hq) _ (iZ ..)⟩
theorem ZT{σ:ak}{H:List Res}{q i:Nat}{z:List (NP β)}{l:List (List β)}(hq:H[q]? =some (Res.cn_ E' E size enc v z i))(hZ:Zn z l)(w:World)(h:jR σ H w):vg v l.length/\l.length<=281474976710656:=by
  have:=nt_ (H:=H) (vz_ hq w h);rw [hZ.len]at this;exact this
end
theorem TC.cw_{X:Ctx}{Q:QP}{id:Nat}{ops:Array Oper}{e:Env}{σ:ak}{H Hr:List Res}(hs: ∀r∈Hr,r∈H)(late:List Nat)(hm:X.P.follows .mixedOrders=true)(h:TA X ops Q σ Hr late ops.size (Array.replicate ops.size false) e σ H)(hnd:q3_ ops=true:=by kernel_rfl):TC X Q (.region id ops true) e σ H:=λw a hw ha=>
  Go.wpIn_mono (wpIn_region_any hm (iz_ _ _ _ _ (h (pn_ hnd) w.drew a hw.drew (um (ak.le.refl _) hs _ hw.drew.sees) (mi_ _ _) ha))) λex a w h=>by
    cases ex<;>first|exact h|exact h.elim
section
variable {P:Program} {n:Nat} {e:Env} {σ:ak} {H:List Res} {o:Oper} {x y:Operand} {T T':TypeId} {k:IntKind} {a b:Int}
theorem OpVal.quoW(ho:o.op= .binOp .quo T x y T')(hx:ev e x= .int k a)(hy:ev e y= .int k b)(h:b≠0):OpVal P n o e σ H (.int k (k.wrap (a.tdiv b))):= .bin ho hx hy λw=>by simp [binOp,Op.intDiv,h]
end
theorem mk_: ∀l m:List UInt8,Op.bytesLess l m=decide (Lib.compareBytes l m<0)
  |[],[]=>by simp [Op.bytesLess,Lib.compareBytes]
  |_::_,[]=>by simp [Op.bytesLess,Lib.compareBytes]
  |[],_::_=>by simp [Op.bytesLess,Lib.compareBytes]
  | a :: x, b :: y => by
    simp only [Op.bytesLess,Lib.compareBytes,mk_ x y]
    by_cases h:a<b
    · simp [h]
    by_cases h':b<a
    · have: ¬ a=b:=λe=>by subst e;exact h h'
      simp [h,h',this]
    have:a=b:=UInt8.le_antisymm (UInt8.not_lt.1 h') (UInt8.not_lt.1 h);subst this;simp [h]
theorem OpVal.lssBs{P:Program}{n:Nat}{e:Env}{σ:ak}{H:List Res}{o:Oper}{x y:Operand}{l m:List UInt8}{T T':TypeId}(ho:o.op= .binOp .lss T x y T')(hx:ev e x= .string (bs l))(hy:ev e y= .string (bs m)):OpVal P n o e σ H (.bool (decide (Lib.compareBytes l m<0))):=λw _=>by
  simp only [execOp,ho,hx,hy,Sem.run_bind,jl_,Result.andThen_ok,binOp,Op.stringOp,ByteArray.toList_eq,nu_,mk_,Sem.run_pure]
theorem OpVal.a3_{P:Program}{n:Nat}{e:Env}{σ:ak}{H:List Res}{o:Oper}{x:Operand}{T b E i j off:Nat}{cs:Array Value}(s:BSet)(ho:o.op= .load T x)(hA:aggOf P T=some false)(hx:ev e x=loc b (off+i * 1))(hi:H[j]? =some (ω b cs E))(hk:i<4)
    (hc:(cs.toList.drop off).take 4=s.vals):OpVal P n o e σ H (.int .u64 ((s.word i:Nat):Int)):=by
  refine OpVal.qw ho hA hx hi ?_;have h1:((cs.toList.drop off).take 4)[i]? =some (.int .u64 ((s.word i:Nat):Int)):=by
    rw [hc]
    match i,hk with
    |0,_=>rfl
    |1,_=>rfl
    |2,_=>rfl
    |3,_=>rfl
  rw [List.getElem?_take,if_pos hk,List.getElem?_drop]at h1;rw [Nat.mul_one];simpa using h1
end Go.E
end

noncomputable section
namespace Go.Proofs.YtcfgkcfcddfccaaGreatDoor
open Go Go.E Go.E.OpVal Go.E.OpOk Go.Proofs.Tryz
open List (replicate)
theorem yT:prog.underlying 31=some (.slice 3):=underlying31
theorem zV:prog.underlying 3=some (.int IntKind.i64):=underlying3
theorem NI:prog.underlying 45=some (.int IntKind.u64):=underlying45
theorem DC:prog.underlying 5=some (.int IntKind.u8):=underlying5
theorem vU:prog.underlying 9=some .string:=underlying9
theorem Ir:prog.underlying 106=some (.map 9 3):=underlying106
theorem jH:prog.underlying 32=some (.slice 31):=underlying32
theorem D8:prog.underlying 47=some (.array 4 45):=underlying47
theorem Ic:prog.underlying 22=some (.slice 79):=underlying22
theorem Ih:prog.underlying 23=some (.slice 49):=underlying23
theorem ag106:aggOf Tryz.prog 106=some false:=by kernel_rfl
theorem v9_:aggOf Tryz.prog 32=some false:=by kernel_rfl
theorem kY:byOf Tryz.prog 31=some 24:=by kernel_rfl
theorem by5:byOf Tryz.prog 5=some 1:=by kernel_rfl
theorem fo210_0:foOf Tryz.prog 210 0=some 0:=by kernel_rfl
theorem fo210_1:foOf Tryz.prog 210 1=some 1:=by kernel_rfl
theorem fo212_0:foOf Tryz.prog 212 0=some 0:=by kernel_rfl
theorem pf128:plainF Tryz.prog 128=true:=by kernel_rfl
theorem QL:plainF Tryz.prog 147=true:=by kernel_rfl
theorem QK:plainF Tryz.prog 148=true:=by kernel_rfl
theorem QJ:plainF Tryz.prog 149=true:=by kernel_rfl
theorem QI:plainF Tryz.prog 150=true:=by kernel_rfl
theorem Qx:plainF Tryz.prog 189=true:=by kernel_rfl
theorem Qw:plainF Tryz.prog 190=true:=by kernel_rfl
theorem Jk:plainF Tryz.prog 60=true:=by kernel_rfl
theorem pl210:plOf Tryz.prog 210=some #[(0,1),(1,1)]:=by kernel_rfl
theorem pl212:plOf Tryz.prog 212=some #[(0,2)]:=by kernel_rfl
theorem ji:szOf Tryz.prog 31=some 1:=by kernel_rfl
theorem jc:szOf Tryz.prog 32=some 1:=by kernel_rfl
theorem ze210:zeroOf Tryz.prog 210=some (.agg #[aT,.map none]):=by kernel_rfl
theorem ze212:zeroOf Tryz.prog 212=some (.agg #[aT,.map none]):=by kernel_rfl
theorem jI:zeroOf Tryz.prog 31=some (aT):=by kernel_rfl
theorem ze5:zeroOf Tryz.prog 5=some (.int .u8 0):=by kernel_rfl
def Iw_(x0:Int):Option (Bool):=
 some (decide (x0≠x0))
theorem Kg_{σ:ak}{x0:Int}{r:Bool}(hh:Iw_ x0=some r):
  Con prog 190 #[.int .i64 x0] σ [] (iU (.bool r) σ):=by
 dsimp only [Iw_]at hh;refine cM 6 Tryz.func190 (λw0=> ?_);refine R11 ?_;refine θ ?_;obtain rfl:=so hh;exact rq [2] ⟨z,z,z⟩
def Uk(x0:Int)(x1:Int):Option (Int):=
 bnd (Iw_ x0) (λv3=>bnd (Iw_ x1) (λv6=>aI v3 (aI v6 (some 0) (some (-1))) (aI v6 (some 1) (aI (decide (x0<x1)) (some (-1)) (aI (decide (x1<x0)) (some 1) (some 0))))))
theorem Gf_{σ:ak}{x0:Int}{x1:Int}{r:Int}(hh:Uk x0 x1=some r):
  Con prog 143 #[.int .i64 x0,.int .i64 x1] σ [] (iU (.int .i64 r) σ):=by
 dsimp only [Uk]at hh;refine cM 20 Tryz.func143 (λw0=> ?_);refine R7 ?_;obtain ⟨v3,u3,hh⟩:=bQ hh;refine κ z (eG (Kg_ u3) z z Qw z z z ?_);refine R5 ?_;obtain ⟨v6,u6,hh⟩:=bQ hh;refine κ z (eG (Kg_ u6) z z Qw z z z ?_);refine R7 ?_;refine TC.cB z hh (λiR hh=> ?_) (λiR hh=> ?_)
 ·refine R5 ?_;refine TC.cB z hh (λAA hh=> ?_) (λAA hh=> ?_)
  ·refine R4 ?_;refine θ ?_;obtain rfl:=so hh;exact rq [4] ⟨z,z,z⟩
  refine R5 ?_;refine θ ?_;obtain rfl:=so hh;exact rq [4] ⟨z,z,z⟩
 refine R6 ?_;refine TC.cB z hh (λjM hh=> ?_) (λjM hh=> ?_)
 ·refine R4 ?_;refine θ ?_;obtain rfl:=so hh;exact rq [4] ⟨z,z,z⟩
 refine R8 ?_;refine ι z hh (λdS hh=> ?_) (λdS hh=> ?_)
 ·refine R4 ?_;refine θ ?_;obtain rfl:=so hh;exact rq [4] ⟨z,z,z⟩
 refine R8 ?_;refine ι z hh (λbM hh=> ?_) (λbM hh=> ?_)
 ·refine R4 ?_;refine θ ?_;obtain rfl:=so hh;exact rq [4] ⟨z,z,z⟩
 refine R5 ?_;refine θ ?_;obtain rfl:=so hh;exact rq [4] ⟨z,z,z⟩
def C8_(aP:Nat)(kQ:aj):Option ((aj×Nat)⊕(aj)):=
 nxt (kQ,(aP+1))
def UN(bC:Nat)(bI:aj)(x0:aj)(aP:Nat):Option ((aj×Nat)⊕(aj)):=
 grd (0<=bC/\bC<=bI.length) (grd ((([]:aj).length+(bI.take bC).length) * 8<=140737488355328) (grd (((([]:aj)++(bI.take bC)).length+[(nth x0 aP 0)].length) * 8<=140737488355328) (grd (bC<=bI.length/\bI.length<=bI.length) (grd ((((([]:aj)++(bI.take bC))++[(nth x0 aP 0)]).length+(bI.drop bC).length) * 8<=140737488355328) (C8_ aP (((([]:aj)++(bI.take bC))++[(nth x0 aP 0)])++(bI.drop bC)))))))
def ND(bI:aj)(x0:aj)(aP:Nat)(bC:Nat):Option ((aj×Nat)⊕(aj)):=
 aI (decide ((bC:Int)<(bI.length:Int))) (aI (decide ((nth bI bC 0)=(nth x0 aP 0))) (C8_ aP bI) (UN bC bI x0 aP)) (UN bC bI x0 aP)
def IJ(bI:aj)(x0:aj)(aP:Nat)(dI:Nat):Option ((Nat)⊕((aj×Nat)⊕(aj))):=
 aI (decide ((dI:Int)<(bI.length:Int))) (aI (decide ((nth bI dI 0)<(nth x0 aP 0))) (nxt (dI+1)) (fin (ND bI x0 aP dI))) (fin (ND bI x0 aP dI))
def Nz(x0:aj)(bI:aj)(aP:Nat):Option ((aj×Nat)⊕(aj)):=
 aI (decide ((aP:Int)<(x0.length:Int))) (aV (λq:Nat=>IJ bI x0 aP q) 0) (fin (some bI))
def UE(x0:aj):Option (aj):=
 aV (λq:aj×Nat=>Nz x0 q.1 q.2) (([]:aj),0)
def G9_(σ:ak)(r:aj):Value->ak->List Res->Prop:=λv σ' H'=>
 ∃a1 c1,v= .slice a1 r.length c1/\dV σ' aB a1 c1 r/\H'=[]
theorem H8_{σ:ak}{x0:aj}(aA:dV σ aB ay au x0){r:aj}(hh:UE x0=some r):
  Con prog 168 #[.slice ay x0.length au] σ [] (G9_ σ r):=by
 dsimp only [UE]at hh;have f0_0b:=aA.rv.big;refine cM 64 Tryz.func168 (λw0=> ?_);refine R14 ?_;refine TC.zl (α:=(aj×Nat)×((Option Addr)×Nat×ak)) (rgs [(3,60)]) (λg=>[(3,.slice g.2.1 g.1.1.length g.2.2.1),(4,.int .i64 (g.1.2:Int))]) (λg=>[]) (λg=>g.2.2.2) (λg=>aV (λq:aj×Nat=>Nz x0 q.1 q.2) g.1=some r/\RS g.2.2.2 1 aB (.slice g.2.1 g.1.1.length g.2.2.1) g.1.1/\ak.le σ g.2.2.2) (λg=>qI (λq:aj×Nat=>Nz x0 q.1 q.2) g.1) ((([]:aj),0),(none,0,σ)) (ζ 0 z) z (by repeat (first|exact trivial|refine ⟨z,?_⟩)) ⟨hh,(RS.nilF _ aB aW),(ak.le.refl _)⟩ (λg1 j1 hg1=> ?_);obtain ⟨⟨bI,aP⟩,⟨Dz,yA,τ116⟩⟩:=g1;obtain ⟨hh,dF,dR⟩:=hg1
 try dsimp only at dF
 dsimp only at dR;replace aA:=aA.mono dR
 try dsimp only
 obtain ⟨z1,hh,hR1⟩:=yO hh;dsimp only [Nz]at hh;have hr114b:=dF.rv.big;refine R8 ?_;refine ι z hh (λiG hh=> ?_) (λiG hh=> ?_)
 ·refine R1 ?_;refine TC.cutG (α:=(aj)×((Option Addr)×Nat×ak)) (rgs [(3,1),(5,2),(13,50)]) (λg=>[(3,.slice g.2.1 g.1.length g.2.2.1)]) (λg=>[]) (λg=>g.2.2.2) (λg=>C8_ aP g.1=some z1/\RS g.2.2.2 1 aB (.slice g.2.1 g.1.length g.2.2.1) g.1/\ak.le τ116 g.2.2.2) ?_ (λg j hg=> ?_)
  ·refine R5 ?_;refine TC.cutG (α:=(Nat)×(Unit)) (rgs [(5,1),(13,17)]) (λg=>[(5,.int .i64 (g.1:Int))]) (λg=>[]) (λg=>τ116) (λg=>ND bI x0 aP g.1=some z1) ?_ (λg j hg=> ?_)
   ·refine TC.block (TC.lp hh () (rgs [(5,1),(13,17)]) (λdI _=>([(5,.int .i64 (dI:Int))],[])) (ζ 0 z) ?_);rintro dI _ _ z2 hh hR2;dsimp only [IJ]at hh ⊢;refine R2 ?_;refine TC.draw [] (by kernel_rfl) (ν 0 z mI z (ν 1 z mS z (Δ 2 z lC z (ν 3 z (OpVal.lss z z z) z (ν 4 z mB z (TA.split 17 z (λh127=> ?_) (λh127=> ?_)))))))
    ·obtain ⟨h127,hh⟩:=iT h127 hh;refine TA.oN 5 z z mS (TA.oN 6 z z mI (TA.oN 7 z z iN (TA.oN 8 z z l1 (TA.oN 9 z z mS (TA.oN 10 z z mI (TA.oN 11 z z iN (TA.oN 12 z z l1 (TA.oN 13 z z (OpVal.lss z z z) (ν 14 z (lF z z z) z (R1 ?_))))))))));refine ι z hh (λh128 hh=> ?_) (λh128 hh=> ?_)
     ·refine R7 ?_;exact nx hR2 hh () (ζ 0 z)
     refine R1 ?_;replace hh:=bF hR2 hh;refine R1 ?_;exact cf (dI,()) hh (ζ 0 z)
    obtain ⟨h127,hh⟩:=iF h127 hh;refine TA.of 5 z z (TA.of 6 z z (TA.of 7 z z (TA.of 8 z z (TA.of 9 z z (TA.of 10 z z (TA.of 11 z z (TA.of 12 z z (TA.of 13 z z (ν 14 z (qN z z z) z (R3 ?_))))))))));replace hh:=bF hR2 hh;refine R1 ?_;exact cf (dI,()) hh (ζ 0 z)
   obtain ⟨bC,_⟩:=g;have hh:=hg;clear hg
   try dsimp only
   dsimp only [ND]at hh;refine TC.cutG (α:=(Unit)×(Unit)) (rgs [(30,15)]) (λg=>[]) (λg=>[]) (λg=>τ116) (λg=>UN bC bI x0 aP=some z1) ?_ (λg j hg=> ?_)
   ·refine Ψ (TC.draw [] (by kernel_rfl) (ν 0 z mI z (ν 1 z mS z (Δ 2 z lC z (ν 3 z (OpVal.lss z z z) z (ν 4 z mB z (TA.split 34 z (λiQ=> ?_) (λiQ=> ?_))))))))
    ·obtain ⟨iQ,hh⟩:=iT iQ hh;refine TA.oN 5 z z mS (TA.oN 6 z z mI (TA.oN 7 z z iN (TA.oN 8 z z l1 (TA.oN 9 z z mS (TA.oN 10 z z mI (TA.oN 11 z z iN (TA.oN 12 z z l1 (TA.oN 13 z z (OpVal.eql z z z) (ν 14 z (lF z z z) z (R1 ?_))))))))));refine ι z hh (λmG hh=> ?_) (λmG hh=> ?_)
     ·refine R2 ?_;exact cf (bI,(Dz,yA,τ116)) ⟨hh,dF,(ak.le.refl _)⟩ (ζ 0 z)
     refine R1 ?_;exact cf ((),()) hh (ζ 0 z)
    obtain ⟨iQ,hh⟩:=iF iQ hh;refine TA.of 5 z z (TA.of 6 z z (TA.of 7 z z (TA.of 8 z z (TA.of 9 z z (TA.of 10 z z (TA.of 11 z z (TA.of 12 z z (TA.of 13 z z (ν 14 z (qN z z z) z (R3 ?_))))))))));exact cf ((),()) hh (ζ 0 z)
   obtain ⟨_,_⟩:=g;have hh:=hg;clear hg
   try dsimp only
   dsimp only [UN]at hh;refine R9 ?_;obtain ⟨u46,hh⟩:=gd hh;obtain ⟨X7,uT,vC,BU⟩:=dF.subH bC (by omega);have hr132b:=vC.rv.big;refine TL.w z (BU z yT lG z z) (TL.nilS 3 1 aB ?_);obtain ⟨DX,hh⟩:=gd hh;refine κ z (apF (.inl vC) DX (λDy Dk=> ?_));refine R9 ?_;refine κ z (gX (enc:=aB) [(nth x0 aP 0)] (λH_ XB=> ?_));refine φ 1 z z ?_;obtain ⟨u55,hh⟩:=gd hh;refine κ z (apF (.inr ⟨_,0,z⟩) u55 (λa139 nM=> ?_));refine R7 ?_;obtain ⟨u60,hh⟩:=gd hh;obtain ⟨a141,c141,Cm,BQ⟩:=dF.subL bC (by omega);refine TL.w z (BQ z yT lG z z) ?_;obtain ⟨u61,hh⟩:=gd hh;refine κ z (apF (.inl Cm) u61 (λDx c143=> ?_));refine R5 ?_;refine TL.iw aW (λτ146 oz Cj=> ?_);replace dF:=dF.mono oz;refine R1 ?_;exact cf ((((([]:aj)++(bI.take bC))++[(nth x0 aP 0)])++(bI.drop bC)),(Dx,c143,τ146)) ⟨hh,Cj,oz⟩ (ζ 0 z)
  obtain ⟨kQ,⟨o_,o7,τ147⟩⟩:=g;obtain ⟨hh,pR,iE⟩:=hg
  try dsimp only at pR
  dsimp only at iE;replace dF:=dF.mono iE
  try dsimp only
  dsimp only [C8_]at hh;have hr122b:=pR.rv.big;refine R5 ?_;obtain ⟨hh,xK⟩:=wG hR1 hh;exact lf ((kQ,(aP+1)),(o_,o7,τ147)) xK ⟨hh,pR,(dR.trans iE)⟩ (ζ 0 z)
 refine R1 ?_;replace hh:=bF hR1 hh;refine R6 ?_;refine θ ?_;obtain rfl:=so hh;exact rq [2] ⟨Dz,yA,z,dF,z⟩
theorem Ij_{σ:ak}{a:Option Addr}{c:Nat}{l:aj}(hl:dV σ aB a c l)(hsz:l.length * 8<=140737488355328):
  Con prog 60 #[.slice a l.length c] σ [] (RowP 3 1 aB l σ):=by
 have hb:=hl.rv.big;refine cM 8 Tryz.func60 (λw0=> ?_);refine R3 ?_;refine TL.nilS 3 1 aB (R5 ?_);refine TL.w z (b3_ z yT z z) (R1 ?_);refine TC.cond z (λh2=> ?_) (λh2=> ?_)
 ·refine R3 ?_;refine TL.nilS 3 1 aB (R1 ?_);refine θ ?_;cases a with
  |some _=>simp at h2
  |none=>
   obtain rfl:=hl.bz_;exact Zq z z
 refine R3 ?_;refine κ z (Vy (enc:=aB) z z yT lG z z (λa4 c5=> ?_));refine TL.s z z (κ z (Z_ z z yT lG T_ Fh z z (by decide) z z z (.inl hl) (by simpa using hsz) (by decide) (λa7 c8=> ?_)));refine R2 ?_;exact θ (Zq z z)
def Ip_(bP:Nat)(yX:aj)(jK:Nat):Option ((aj×Nat×Nat)⊕((Nat)⊕(aj))):=
 nxt (yX,jK,(bP+1))
def Ky_(x0:aj)(aZ:Nat)(bG:aj)(aU:Nat)(bP:Nat):Option ((aj×Nat×Nat)⊕((Nat)⊕(aj))):=
 aI (decide ((bP:Int)<(((x0.length - aZ):Nat):Int))) (grd (bP<(x0.length - aZ)) (grd (0<=(IntKind.i64.wrap ((bP:Int) - 1))/\(IntKind.i64.wrap ((bP:Int) - 1))<((x0.length - aZ):Nat)) (aI (decide ((nth bG (aZ+bP) 0)≠(nth bG (aZ+(IntKind.i64.wrap ((bP:Int) - 1)).toNat) 0))) (grd (bP<(x0.length - aZ)) (grd (aU<bG.length) (Ip_ bP (bG.set aU (nth bG (aZ+bP) 0)) (aU+1)))) (Ip_ bP bG aU)))) (fin (grd (aU<=x0.length) (grd (aU<=(bG.take aU++replicate (bG.length - aU) (0:Int)).length) (fin (some ((bG.take aU++replicate (bG.length - aU) (0:Int)).take aU))))))
def Kv_(x0:aj)(aZ:Nat):Option ((Nat)⊕(aj)):=
 aI (decide ((aZ:Int)<(x0.length:Int))) (grd (0<=(IntKind.i64.wrap ((aZ:Int) - 1))/\(IntKind.i64.wrap ((aZ:Int) - 1))<(x0.length:Int)) (aI (decide ((nth x0 aZ 0)=(nth x0 ((IntKind.i64.wrap ((aZ:Int) - 1)).toNat) 0))) (grd (aZ<=x0.length) (aV (λq:aj×Nat×Nat=>Ky_ x0 aZ q.1 q.2.1 q.2.2) (x0,aZ,1))) (nxt (aZ+1)))) (fin (some x0))
def ZH(x0:aj):Option (aj):=
 aI (decide ((x0.length:Int)<2)) (some x0) (aV (λq:Nat=>Kv_ x0 q) 1)
theorem Ko_{σ:ak}{x0:aj}{r:aj}(hh:ZH x0=some r):
  Con prog 189 #[.slice aC x0.length aF] σ [dW 3 aB aC aF x0] (λv σ' H'=> ∃a1 c1,v= .slice a1 r.length c1/\σ=σ'/\H'=[dW 3 aB a1 c1 r]):=by
 dsimp only [ZH]at hh;refine cM 61 Tryz.func189 (λw0=> ?_);refine R11 ?_;refine ι z hh (λAA hh=> ?_) (λAA hh=> ?_)
 ·refine R5 ?_;refine θ ?_;obtain rfl:=so hh;exact rz
 refine R7 ?_;refine TC.lp hh () (rgs [(2,4),(10,50)]) (λaZ _=>([(3,.int .i64 (aZ:Int))],[dW 3 aB aC aF x0])) (ζ 1 z) ?_;rintro aZ _ _ z1 hh hR1;dsimp only [Kv_]at hh ⊢;refine ξ 0 z (λTP=> ?_);refine R8 ?_;refine ι z hh (λfB hh=> ?_) (λfB hh=> ?_)
 ·refine R4 ?_;obtain ⟨DY,hh⟩:=gd hh;refine TC.draw [] (by kernel_rfl) (ν 0 z mS z (ν 1 z mI z (TA.isSl (i:=0) z (λRq _ _=> ?_))));refine Δ 2 z iN z (Δ 3 z o1 z (ν 4 z mS z (ν 5 z mI z (ν 6 z (subW z z z) z (TA.isSl (i:=0) z (λRo _ _=> ?_))))));refine Δ 7 z iX z (Δ 8 z o1 z (ν 9 z (OpVal.eql z z z) z (R1 ?_)));refine ι z hh (λh112 hh=> ?_) (λh112 hh=> ?_)
  ·refine R4 ?_;obtain ⟨u24,hh⟩:=gd hh;refine TL.iS 0 z (λBX=> ?_);obtain ⟨dD,yA,hv113,CJ⟩:=Zp (k:=aZ) (size:=1) BX (by omega);refine TL.w z (CJ z yT lG z z) (R8 ?_);refine TC.lk hh () (rgs [(3,1),(5,1),(29,25)]) (λ⟨bG,aU,bP⟩ _=>([(3,.int .i64 (aU:Int)),(5,.int .i64 (bP:Int))],[ε 3 1 aB (.slice aC x0.length aF) bG])) (λ⟨bG,_,_⟩ _=>bG.length=x0.length) z (ζ 1 z) ?_;rintro ⟨bG,aU,bP⟩ _ _ z2 hh hR2 jG;dsimp only [Ky_]at hh jG ⊢;refine ξ 0 z (λGt=> ?_);refine R8 ?_;refine ι z hh (λh127 hh=> ?_) (λh127 hh=> ?_)
   ·refine R1 ?_;refine TC.cutG (α:=(aj×Nat)×(Unit)) (rgs [(3,1),(35,19)]) (λg=>[(3,.int .i64 (g.1.2:Int))]) (λg=>[ε 3 1 aB (.slice aC x0.length aF) g.1.1]) (λg=>σ) (λg=>Ip_ bP g.1.1 g.1.2=some z2/\g.1.1.length=x0.length) ?_ (λg j hg=> ?_)
    ·refine R2 ?_;obtain ⟨u33,hh⟩:=gd hh;obtain ⟨u38,hh⟩:=gd hh;refine TC.draw [] (by kernel_rfl) (ν 0 z mS z (ν 1 z mI z (Δ 2 z (elVw hv113 (by omega) (zk z yT lG z z hv113.sl (by omega))) z (Δ 3 z o1 z (ν 4 z mS z (ν 5 z mI z (ν 6 z (subW z z z) z (Δ 7 z (elVw hv113 (by omega) (OpVal.index z yT lG z z hv113.sl u38.1 u38.2)) z (Δ 8 z o1 z (ν 9 z (OpVal.neq z z z) z (R1 ?_)))))))))));refine ι z hh (λmG hh=> ?_) (λmG hh=> ?_)
     ·refine R6 ?_;obtain ⟨u45,hh⟩:=gd hh;refine TL.w z (elVw hv113 (by omega) (zk z yT lG z z hv113.sl (by omega))) (TL.w z o1 ?_);obtain ⟨DX,hh⟩:=gd hh;refine TL.iS 0 z (λJy=> ?_);refine TL.w z iN ?_;have CX:(bG.set aU (nth bG (aZ+bP) 0)).length=x0.length:=by rw [eX];exact jG
      refine κ z (qp (nth bG (aZ+bP) 0) z lG z z z z aW vX (by omega) (by omega) ?_);refine R6 ?_;exact cf (((bG.set aU (nth bG (aZ+bP) 0)),(aU+1)),()) ⟨hh,CX⟩ (ζ 1 z)
     refine R1 ?_;exact cf ((bG,aU),()) ⟨hh,jG⟩ (ζ 1 z)
    obtain ⟨⟨yX,jK⟩,_⟩:=g;obtain ⟨hh,vK⟩:=hg
    try dsimp only at vK ⊢
    dsimp only [Ip_]at hh;refine ξ 0 z (λKZ=> ?_);refine R5 ?_;exact nk hR2 hh () (ζ 1 z) vK
   refine R1 ?_;replace hh:=bF hR2 hh;refine R5 ?_;obtain ⟨NM,hh⟩:=gd hh;refine TL.iS 0 z (λvw=> ?_);rw [jG]at vw;obtain ⟨H_,rZ,BR,CG⟩:=Zp (k:=aU) (size:=1) vw (by omega);refine TL.w z (CG z yT lG z z) ?_;have vI:(bG.take aU++replicate (bG.length - aU) (0:Int)).length=x0.length:=by simp only [gu,List.length_take,lq];(try simp only [lq]at *);omega
   refine κ z (cy_ (k:=aU) (0:Int) z yT Fh z z BR (by omega) (by omega) aW (by decide) z vX ?_);refine R5 ?_;rw [<-vI];obtain ⟨u61,hh⟩:=gd hh;refine κ z (cutS z yT lG z z z z z (by omega) aW ?_);refine R2 ?_;refine θ ?_;replace hh:=bF hR1 hh;obtain rfl:=so hh;exact rz
  refine R6 ?_;exact nx hR1 hh () (ζ 1 z)
 refine R1 ?_;replace hh:=bF hR1 hh;refine R6 ?_;refine θ ?_;obtain rfl:=so hh;exact rz
def ZW(x0:aj):Option (aj):=
 grd (x0.length * 8<=140737488355328) (bnd (ZH (List.mergeSort x0 λx y=>decide (x<=y))) (λv8=>some v8))
def TV(σ:ak)(r:aj):Value->ak->List Res->Prop:=λv σ' H'=>
 ∃a1 c1,v= .slice a1 r.length c1/\σ=σ'/\H'=[dW 3 aB a1 c1 r]
theorem ji_{σ:ak}{x0:aj}(aA:dV σ aB ay au x0){r:aj}(hh:ZW x0=some r):
  Con prog 147 #[.slice ay x0.length au] σ [] (TV σ r):=by
 dsimp only [ZW]at hh;refine cM 10 Tryz.func147 (λw0=> ?_);refine R7 ?_;obtain ⟨u3,hh⟩:=gd hh;refine κ z (OpOk.call (Ij_ aA u3) z z Jk z z z z ?_);rintro _ _ _ _ ⟨⟨lg,kZ,rfl⟩,rfl,rfl⟩;refine R5 ?_;have xJ:(List.mergeSort x0 λx y=>decide (x<=y)).length=x0.length:=List.length_mergeSort _;refine κ z (OpOk.call (s9_ (l:=x0)) z z pf128 z z z z ?_);rintro _ _ _ _ ⟨rfl,rfl,rfl⟩;refine R4 ?_;rw [<-xJ];obtain ⟨v8,u8,hh⟩:=bQ hh;refine κ z (OpOk.call (Ko_ u8) z z Qx z z z z ?_);rintro _ _ _ qh ⟨a105_1,c105_2,rfl,rfl,rfl⟩;refine R2 ?_;refine θ ?_;obtain rfl:=so hh;exact rz
def Z7(x0:aj)(aP:Nat)(fG:T_1)(eH:Nat):Option ((T_1×Nat)⊕((T_1×Nat)⊕(T_1))):=
 aI (decide ((eH:Int)<8)) (grd (0<=IntKind.i64.wrap (8 * (eH:Int))) (grd ((fG.length+[(kH (((G8 (zI (nth x0 aP 0)) ((IntKind.i64.wrap (8 * (eH:Int))).toNat)):Nat):Int))].length) * 1<=140737488355328) (nxt ((fG++[(kH (((G8 (zI (nth x0 aP 0)) ((IntKind.i64.wrap (8 * (eH:Int))).toNat)):Nat):Int))]),(eH+1))))) (fin (nxt (fG,(aP+1))))
def gm_(x0:aj)(bf:T_1)(aP:Nat):Option ((T_1×Nat)⊕(T_1)):=
 aI (decide ((aP:Int)<(x0.length:Int))) (aV (λq:T_1×Nat=>Z7 x0 aP q.1 q.2) (bf,0)) (fin (some bf))
def ZQ(x0:aj):Option (T_1):=
 grd (0<=IntKind.i64.wrap (8 * (x0.length:Int))/\1 * (IntKind.i64.wrap (8 * (x0.length:Int))).toNat<=281474976710656) (aV (λq:T_1×Nat=>gm_ x0 q.1 q.2) (([]:T_1),0))
theorem kd_{σ:ak}{x0:aj}(aA:dV σ aB ay au x0){r:T_1}(hh:ZQ x0=some r):
  Con prog 148 #[.slice ay x0.length au] σ [] (iU (.string (bs r)) σ):=by
 dsimp only [ZQ]at hh;have f0_0b:=aA.rv.big;refine cM 33 Tryz.func148 (λw0=> ?_);refine R9 ?_;obtain ⟨u5,hh⟩:=gd hh;refine κ rfl (db_ (enc:=qC) (m:=(IntKind.i64.wrap (8 * (x0.length:Int))).toNat) rfl underlying84 sz5 by5 ze5 rfl rfl rfl (vN u5.1) (by omega) (by decide) (λlg kZ=> ?_));refine R10 ?_;refine TC.lp hh (lg,kZ) (rgs [(3,1),(5,2),(13,18)]) (λ⟨bf,aP⟩ ⟨dD,dM⟩=>([(3,.slice dD bf.length dM),(13,.int .i64 (aP:Int))],[dW 5 qC dD dM bf])) (ζ 1 z) ?_;rintro ⟨bf,aP⟩ ⟨dD,dM⟩ _ z1 hh hR1;dsimp only [gm_]at hh ⊢;refine ξ 0 z (λhb116=> ?_);refine R5 ?_;refine ι z hh (λoG hh=> ?_) (λoG hh=> ?_)
 ·refine R14 ?_;refine TC.lp hh (dD,dM) (rgs [(3,1),(6,1),(17,13)]) (λ⟨fG,eH⟩ ⟨a127,uU⟩=>([(3,.slice a127 fG.length uU),(17,.int .i64 (eH:Int))],[dW 5 qC a127 uU fG])) (ζ 1 z) ?_;rintro ⟨fG,eH⟩ ⟨a127,uU⟩ _ z2 hh hR2;dsimp only [Z7]at hh ⊢;refine ξ 0 z (λTM=> ?_);refine R5 ?_;refine ι z hh (λmG hh=> ?_) (λmG hh=> ?_)
  ·refine R11 ?_;refine TL.w z (convU z zV NI z) (R2 ?_);obtain ⟨u23,hh⟩:=gd hh;refine TL.w rfl (shrU (b:=(IntKind.i64.wrap (8 * (eH:Int))).toNat) rfl rfl (vN u23)) (TL.w z (Nk z NI DC z) (κ z (gX (enc:=qC) [(kH (((G8 (zI (nth x0 aP 0)) ((IntKind.i64.wrap (8 * (eH:Int))).toNat)):Nat):Int))] (λX7 c133=> ?_))));refine φ 1 z z ?_;obtain ⟨u26,hh⟩:=gd hh;refine κ z (apF (.inr ⟨_,0,z⟩) u26 (λwS rZ=> ?_));refine R6 ?_;exact nx hR2 hh (wS,rZ) (ζ 1 z)
  refine R1 ?_;replace hh:=bF hR2 hh;refine R5 ?_;exact nx hR1 hh (a127,uU) (ζ 1 z)
 refine R1 ?_;replace hh:=bF hR1 hh;refine R4 ?_;refine TL.iS 0 z (λRn=> ?_);refine TL.w z (bx_ (l:=bf) z underlying84 DC vU z Rn (λw hw=>rdb_row (q:=0) z hw)) (R2 ?_);refine TC.rt 0 ?_;obtain rfl:=so hh;exact rq [2] ⟨z,z,z⟩
def ev_(x0:IStore)(x1:T_1):Option (Int×Bool):=
 grd (x1.length<=281474976710656) (some ((x0.places.get x1 0),(x0.places.has x1)))
theorem fs_{σ:ak}{x0:IStore}{lY:List (aj×(bH 1 aB aW).P)}{x1:T_1}(zf0_4:ZOk σ (bH 1 aB aW) lY x0.rows){r:Int×Bool}(hh:ev_ x0 x1=some r):
  Con prog 149 #[loc fM 0,.string (bs x1)] σ [ω fM #[.slice aC x0.rows.length aF,.map (some o9)] t_,ε 31 1 (bH 1 aB aW).en (.slice aC x0.rows.length aF) lY,Res.mapB pq lN (some o9) x0.places] (λv σ' H'=>v= .tuple #[.int .i64 r.1,.bool r.2]/\σ=σ'/\H'=[ω fM #[.slice aC x0.rows.length aF,.map (some o9)] t_,ε 31 1 (bH 1 aB aW).en (.slice aC x0.rows.length aF) lY,Res.mapB pq lN (some o9) x0.places]):=by
 dsimp only [ev_]at hh;have zf0_4b:=zf0_4.length;refine cM 19 Tryz.func149 (λw0=> ?_);obtain ⟨x1b,hh⟩:=gd hh;refine R12 ?_;refine TL.w z (OpVal.of (cx_ 0 (q:=x1) z Ir Fh z (i:=2) z z (Rk vU)) (v':= .tuple #[.int .i64 (x0.places.get x1 0),.bool (x0.places.has x1)]) z) (R13 ?_);refine θ ?_;obtain rfl:=so hh;exact rz
def ey_(x0:IStore)(x1:T_1)(x2:aj):Option (Int×IStore):=
 grd (x1.length<=281474976710656) (grd ((x0.rows.length+[x2].length) * 24<=140737488355328) (some ((x0.rows.length:Int),(⟨(x0.rows++[x2]),(x0.places.put x1 (x0.rows.length:Int))⟩:IStore))))
theorem fv_{σ:ak}{x0:IStore}{lY:List (aj×(bH 1 aB aW).P)}{x1:T_1}{x2:aj}(zf0_4:ZOk σ (bH 1 aB aW) lY x0.rows)(f2_0:dV σ aB XW Xq x2){r:Int×IStore}(hh:ey_ x0 x1 x2=some r):
  Con prog 150 #[loc fM 0,.string (bs x1),.slice XW x2.length Xq] σ [ω fM #[.slice aC x0.rows.length aF,.map (some o9)] t_,ε 31 1 (bH 1 aB aW).en (.slice aC x0.rows.length aF) lY,Res.mapB pq lN (some o9) x0.places] (λv σ' H'=> ∃oL oK, ∃(P_:List (aj×(bH 1 aB aW).P)), ∃Ua,v= .int .i64 r.1/\ZOk σ' (bH 1 aB aW) P_ r.2.rows/\H'=[ω fM #[.slice oL r.2.rows.length oK,.map (some Ua)] t_,ε 31 1 (bH 1 aB aW).en (.slice oL r.2.rows.length oK) P_,Res.mapB pq lN (some Ua) r.2.places]):=by
 dsimp only [ey_]at hh;have zf0_4b:=zf0_4.length;refine cM 30 Tryz.func150 (λw0=> ?_);obtain ⟨x1b,hh⟩:=gd hh;refine R21 ?_;have I4:ZOk _ (bH 1 aB aW) ([(x2,(XW,Xq))]:List (aj×(bH 1 aB aW).P)) [x2]:=ZOk.cons (f2_0) (ZOk.nil _ _);refine κ z (litZ I4 z jH ji z jI z z z (by decide) (by decide) z (by decide) z (by decide) (λkK c107=> ?_));refine φ 2 z z ?_;obtain ⟨u15,hh⟩:=gd hh;refine κ z (Ud (k:=(bH 1 aB aW)) zf0_4 I4 z z jH ji kY jI z z (by decide) z z z (.inr ⟨_,0,z⟩) (by simpa using u15) (by decide) (λIa Hy zf112=> ?_));refine R2 ?_;refine φ 2 z z (R10 ?_);refine φ 3 z z (κ z (updB x1 (x0.rows.length:Int) z Ir z z z z (Rk vU) ?_));refine R6 ?_;refine TC.iH (ψ [2,2] 3) (θ ?_);obtain rfl:=so hh;exact ry
def jr_:Option (ITable):=
 some (⟨(⟨([]:aY),(FM.emp:FM T_1 Int)⟩:IStore)⟩:ITable)
theorem oz_{σ:ak}{r:ITable}(hh:jr_=some r):
  Con prog 86 #[] σ [] (λv σ' H'=> ∃br6 Ug TY, ∃(zr3:List (aj×(bH 1 aB aW).P)), ∃br5,v=loc br6 0/\ZOk σ' (bH 1 aB aW) zr3 r.of.rows/\H'=[ω br6 #[.slice Ug r.of.rows.length TY,.map (some br5)] 212,ε 31 1 (bH 1 aB aW).en (.slice Ug r.of.rows.length TY) zr3,Res.mapB pq lN (some br5) r.of.places]):=by
 dsimp only [jr_]at hh;refine cM 5 Tryz.func86 (λw0=> ?_);refine R2 ?_;refine TL.w z (du_ (.inr z) z) (R3 ?_);refine κ z (bd_ (enc:=pq) (encV:=lN) z z z (λXM=> ?_));refine R2 ?_;refine TL.bx (λyC=> ?_);refine R2 ?_;refine TC.nilS 31 1 (bH 1 aB aW).en ?_;have I4:=ZOk.nil σ (bH 1 aB aW);refine TC.iH (ψ [2,1,2] 3) (θ ?_);obtain rfl:=so hh;exact ry
def TW(x0:ITable)(x1:aj):Option (Int×Bool×Int×ITable):=
 bnd (ZW x1) (λv10=>bnd (ZQ v10) (λv13=>bnd (ev_ (⟨x0.of.rows,x0.of.places⟩:IStore) v13) (λv19=>aI v19.2 (some (v19.1,false,0,(⟨(⟨x0.of.rows,x0.of.places⟩:IStore)⟩:ITable))) (aI (decide (4096<=(x0.of.rows.length:Int))) (some (0,false,2,(⟨(⟨x0.of.rows,x0.of.places⟩:IStore)⟩:ITable))) (bnd (ey_ (⟨x0.of.rows,x0.of.places⟩:IStore) v13 v10) (λv45=>some (v45.1,true,0,(⟨(⟨v45.2.rows,v45.2.places⟩:IStore)⟩:ITable))))))))
theorem j6_{σ:ak}{x0:ITable}{lY:List (aj×(bH 1 aB aW).P)}{x1:aj}(zf0_4:ZOk σ (bH 1 aB aW) lY x0.of.rows)(bU:dV σ aB bW bV x1){r:Int×Bool×Int×ITable}(hh:TW x0 x1=some r):
  Con prog 87 #[loc fM 0,.slice bW x1.length bV] σ [ω fM #[.slice aC x0.of.rows.length aF,.map (some o9)] t_,ε 31 1 (bH 1 aB aW).en (.slice aC x0.of.rows.length aF) lY,Res.mapB pq lN (some o9) x0.of.places] (λv σ' H'=> ∃oL oK, ∃(P_:List (aj×(bH 1 aB aW).P)), ∃Ua,v= .tuple #[.int .i64 r.1,.bool r.2.1,.int .i64 r.2.2.1]/\ZOk σ' (bH 1 aB aW) P_ r.2.2.2.of.rows/\H'=[ω fM #[.slice oL r.2.2.2.of.rows.length oK,.map (some Ua)] t_,ε 31 1 (bH 1 aB aW).en (.slice oL r.2.2.2.of.rows.length oK) P_,Res.mapB pq lN (some Ua) r.2.2.2.of.places]):=by
 dsimp only [TW]at hh;have zf0_4b:=zf0_4.length;refine cM 40 Tryz.func87 (λw0=> ?_);refine R10 ?_;refine TL.w z (eqlNil z underlying138 z z) (R6 ?_);obtain ⟨v10,u10,hh⟩:=bQ hh;refine κ z (OpOk.call (ji_ bU u10) z z QL z z z z ?_);rintro _ _ _ oD ⟨a106_1,c106_1,rfl,rfl,rfl⟩;refine R5 ?_;obtain ⟨v13,u13,hh⟩:=bQ hh;refine κ z (XE (Con.lend aW (λ_ dh JH=>kd_ JH u13)) z z QK z z z z ?_);refine R9 ?_;refine φ 3 z z (φ 3 z z (φ 3 z z ?_));obtain ⟨v19,DY,hh⟩:=bQ hh;refine κ z (OpOk.call (fs_ zf0_4 DY) z z QJ z z z z ?_);rintro _ _ _ g_ ⟨rfl,rfl,rfl⟩;refine R10 ?_;refine TC.cB z hh (λgI hh=> ?_) (λgI hh=> ?_)
 ·refine R7 ?_;refine TC.iH (ψ [2,2,2] 3) (θ ?_);obtain rfl:=so hh;exact ry
 refine R12 ?_;refine ι z hh (λh112 hh=> ?_) (λh112 hh=> ?_)
 ·refine R6 ?_;refine TC.iH (ψ [2,2,2] 3) (θ ?_);obtain rfl:=so hh;exact ry
 refine R8 ?_;refine φ 3 z z (TL.iw aW (λτ115 EH JF=> ?_));replace zf0_4:=zf0_4.mono EH;refine φ 2 z z (φ 2 z z (φ 2 z z ?_));obtain ⟨v45,u45,hh⟩:=bQ hh;refine κ z (OpOk.call (fv_ zf0_4 JF u45) z z QI z z z z ?_);rintro _ τ116 _ dw ⟨a116_1,c116_2,z116_3,b116_5,rfl,zf116_4,rfl⟩;have zf116_4b:=zf116_4.length;refine R4 ?_;refine θ ?_;obtain rfl:=so hh;exact ry
def fp_(x0:ITable)(x1:Int):Option (aj×Int):=
 aI (decide (x1<0)) (some (([]:aj),1)) (aI (decide ((x0.of.rows.length:Int)<=x1)) (some (([]:aj),1)) (grd (0<=x1/\x1<(x0.of.rows.length:Int)) (grd ((nth x0.of.rows x1.toNat []).length * 8<=140737488355328) (some ((nth x0.of.rows x1.toNat []),0)))))
theorem j3_{σ:ak}{x0:ITable}{lY:List (aj×(bH 1 aB aW).P)}{x1:Int}(zf0_4:ZOk σ (bH 1 aB aW) lY x0.of.rows){r:aj×Int}(hh:fp_ x0 x1=some r):
  Con prog 89 #[loc fM 0,.int .i64 x1] σ [ω fM #[.slice aC x0.of.rows.length aF,.map (some o9)] t_,ε 31 1 (bH 1 aB aW).en (.slice aC x0.of.rows.length aF) lY,Res.mapB pq lN (some o9) x0.of.places] (λv σ' H'=> ∃a1 c1,v= .tuple #[.slice a1 r.1.length c1,.int .i64 r.2]/\σ=σ'/\H'=[dW 3 aB a1 c1 r.1,ω fM #[.slice aC x0.of.rows.length aF,.map (some o9)] t_,ε 31 1 (bH 1 aB aW).en (.slice aC x0.of.rows.length aF) lY,Res.mapB pq lN (some o9) x0.of.places]):=by
 dsimp only [fp_]at hh;have zf0_4b:=zf0_4.length;refine cM 29 Tryz.func89 (λw0=> ?_);refine R9 ?_;refine TL.w z (eqlNil z underlying138 z z) (R9 ?_);refine Γ 10 z (λdS=> ?_) (λdS=> ?_)
 ·obtain ⟨dS,hh⟩:=iT dS hh;refine R16 ?_;refine TC.nilS 3 1 aB (θ ?_);obtain rfl:=so hh;exact rz
 obtain ⟨dS,hh⟩:=iF dS hh;refine R10 ?_;refine ι z hh (λdH hh=> ?_) (λdH hh=> ?_)
 ·refine R5 ?_;refine TC.nilS 3 1 aB (θ ?_);obtain rfl:=so hh;exact rz
 refine R9 ?_;obtain ⟨u27,hh⟩:=gd hh;refine TL.iS 1 z (λhs108=> ?_);refine TL.w z iX ?_;obtain ⟨Oz,RY⟩: ∃p,p=(nth lY x1.toNat ((bH 1 aB aW).d,(bH 1 aB aW).dp)).2:=⟨_,rfl⟩;have hk109:dV σ aB Oz.1 Oz.2 (nth x0.of.rows x1.toNat []):=by rw [RY];exact (zf0_4.at (by omega)).2
 refine TL.w z (OpVal.of (RY▸br_ zf0_4 z oV z (q:=1) z (by omega) z) (v':= .slice Oz.1 ((nth x0.of.rows x1.toNat []).length) Oz.2) z) ?_;obtain ⟨u29,hh⟩:=gd hh;refine κ z (OpOk.call (Ij_ hk109 u29) z z Jk z z z z ?_);rintro _ _ _ _ ⟨⟨Ia,Hy,rfl⟩,rfl,rfl⟩;refine R3 ?_;refine θ ?_;obtain rfl:=so hh;exact rz
def qo_(x0:ITable)(x1:aj):Option (Int×Bool×Int×ITable):=
 bnd (ZW x1) (λv10=>bnd (ZQ v10) (λv13=>bnd (ev_ (⟨x0.of.rows,x0.of.places⟩:IStore) v13) (λv19=>aI v19.2 (some (v19.1,false,0,(⟨(⟨x0.of.rows,x0.of.places⟩:IStore)⟩:ITable))) (aI (decide (4096<=(x0.of.rows.length:Int))) (some (0,false,2,(⟨(⟨x0.of.rows,x0.of.places⟩:IStore)⟩:ITable))) (bnd (ey_ (⟨x0.of.rows,x0.of.places⟩:IStore) v13 v10) (λv45=>some (v45.1,true,0,(⟨(⟨v45.2.rows,v45.2.places⟩:IStore)⟩:ITable))))))))
theorem su_{σ:ak}{x0:ITable}{lY:List (aj×(bH 1 aB aW).P)}{x1:aj}(zf0_4:ZOk σ (bH 1 aB aW) lY x0.of.rows){r:Int×Bool×Int×ITable}(hh:qo_ x0 x1=some r):
  Con prog 87 #[loc fM 0,.slice cu x1.length b_] σ [ω fM #[.slice aC x0.of.rows.length aF,.map (some o9)] t_,ε 31 1 (bH 1 aB aW).en (.slice aC x0.of.rows.length aF) lY,Res.mapB pq lN (some o9) x0.of.places,dW 3 aB cu b_ x1] (λv σ' H'=> ∃oL oK, ∃(P_:List (aj×(bH 1 aB aW).P)), ∃Ua,v= .tuple #[.int .i64 r.1,.bool r.2.1,.int .i64 r.2.2.1]/\ZOk σ' (bH 1 aB aW) P_ r.2.2.2.of.rows/\H'=[ω fM #[.slice oL r.2.2.2.of.rows.length oK,.map (some Ua)] t_,ε 31 1 (bH 1 aB aW).en (.slice oL r.2.2.2.of.rows.length oK) P_,Res.mapB pq lN (some Ua) r.2.2.2.of.places,dW 3 aB cu b_ x1]):=by
 dsimp only [qo_]at hh;have zf0_4b:=zf0_4.length;refine cM 40 Tryz.func87 (λw0=> ?_);refine R10 ?_;refine TL.w z (eqlNil z underlying138 z z) (R6 ?_);refine φ 3 z z ?_;obtain ⟨v10,u10,hh⟩:=bQ hh;refine κ rfl (OpOk.call (Con.lendG (Post:=λτ=>TV τ v10) aW (by rintro τ τ' r σ' H' ⟨g0,g1,rfl,rfl,rfl⟩;exact ⟨rfl,g0,g1,rfl,rfl,rfl⟩) (λ_ hle_ hr_=>ji_ hr_ u10)) rfl rfl QL rfl rfl rfl rfl ?_);rintro _ _ _ jy ⟨_,⟨a107_1,c107_1,rfl,rfl,rfl⟩,rfl⟩;refine R5 ?_;obtain ⟨v13,u13,hh⟩:=bQ hh;refine κ z (XE (Con.lend aW (λ_ g_ hr109=>kd_ hr109 u13)) z z QK z z z z ?_);refine R9 ?_;refine φ 4 z z (φ 4 z z (φ 4 z z ?_));obtain ⟨v19,DY,hh⟩:=bQ hh;refine κ z (OpOk.call (fs_ zf0_4 DY) z z QJ z z z z ?_);rintro _ _ _ jw ⟨rfl,rfl,rfl⟩;refine R10 ?_;refine TC.cB z hh (λh112 hh=> ?_) (λh112 hh=> ?_)
 ·refine R7 ?_;refine TC.iH (ψ [4,3,3,3] 4) (θ ?_);obtain rfl:=so hh;exact ry
 refine R12 ?_;refine ι z hh (λuP hh=> ?_) (λuP hh=> ?_)
 ·refine R6 ?_;refine TC.iH (ψ [4,3,3,3] 4) (θ ?_);obtain rfl:=so hh;exact ry
 refine R8 ?_;refine φ 3 z z (TL.iw aW (λτ116 kC dF=> ?_));replace zf0_4:=zf0_4.mono kC;refine φ 2 z z (φ 2 z z (φ 2 z z ?_));obtain ⟨v45,u45,hh⟩:=bQ hh;refine κ z (OpOk.call (fv_ zf0_4 dF u45) z z QI z z z z ?_);rintro _ τ117 _ dR ⟨a117_1,c117_2,z117_3,b117_5,rfl,zf117_4,rfl⟩;have zf117_4b:=zf117_4.length;refine R4 ?_;refine θ ?_;obtain rfl:=so hh;exact ry
def fi_(x0:ITable):Option (Int):=
 some (x0.of.rows.length:Int)
theorem jc_{σ:ak}{x0:ITable}{lY:List (aj×(bH 1 aB aW).P)}(zf0_4:ZOk σ (bH 1 aB aW) lY x0.of.rows){r:Int}(hh:fi_ x0=some r):
  Con prog 88 #[loc fM 0] σ [ω fM #[.slice aC x0.of.rows.length aF,.map (some o9)] t_,ε 31 1 (bH 1 aB aW).en (.slice aC x0.of.rows.length aF) lY,Res.mapB pq lN (some o9) x0.of.places] (λv σ' H'=>v= .int .i64 r/\σ=σ'/\H'=[ω fM #[.slice aC x0.of.rows.length aF,.map (some o9)] t_,ε 31 1 (bH 1 aB aW).en (.slice aC x0.of.rows.length aF) lY,Res.mapB pq lN (some o9) x0.of.places]):=by
 dsimp only [fi_]at hh;have zf0_4b:=zf0_4.length;refine cM 11 Tryz.func88 (λw0=> ?_);refine R8 ?_;refine TL.w z (eqlNil z underlying138 z z) (R13 ?_);refine θ ?_;obtain rfl:=so hh;exact rz
def C9_(x0:aj)(x1:aj)(gB:Nat):Option ((Nat)⊕(Bool)):=
 aI (decide ((gB:Int)<(x0.length:Int))) (grd (gB<x1.length) (aI (decide ((nth x0 gB 0)≠(nth x1 gB 0))) (fin (some false)) (nxt (gB+1)))) (fin (some true))
def YE(x0:aj)(x1:aj):Option (Bool):=
 aI (decide ((x0.length:Int)≠(x1.length:Int))) (some false) (aV (λq:Nat=>C9_ x0 x1 q) 0)
theorem Gx_{σ:ak}{x0:aj}{x1:aj}(aA:dV σ aB ay au x0)(bU:dV σ aB bW bV x1){r:Bool}(hh:YE x0 x1=some r):
  Con prog 53 #[.slice ay x0.length au,.slice bW x1.length bV] σ [] (iU (.bool r) σ):=by
 dsimp only [YE]at hh;have f1_0b:=bU.rv.big;refine cM 26 Tryz.func53 (λw0=> ?_);refine R13 ?_;refine ι z hh (λiR hh=> ?_) (λiR hh=> ?_)
 ·refine R4 ?_;refine θ ?_;obtain rfl:=so hh;exact rq [4] ⟨z,z,z⟩
 refine R7 ?_;refine TC.lp hh () (rgs [(4,2),(11,15)]) (λgB _=>([(5,.int .i64 (gB:Int))],[])) (ζ 0 z) ?_;rintro gB _ _ z1 hh hR1;dsimp only [C9_]at hh ⊢;refine R8 ?_;refine ι z hh (λbM hh=> ?_) (λbM hh=> ?_)
 ·refine R4 ?_;obtain ⟨DY,hh⟩:=gd hh;refine TC.draw [] (by kernel_rfl) (ν 0 z mS z (ν 1 z mI z (Δ 2 z iN z (Δ 3 z l1 z (ν 4 z mS z (ν 5 z mI z (Δ 6 z iN z (Δ 7 z l1 z (ν 8 z (OpVal.neq z z z) z (R1 ?_))))))))));refine ι z hh (λdH hh=> ?_) (λdH hh=> ?_)
  ·refine R4 ?_;refine θ ?_;replace hh:=bF hR1 hh;obtain rfl:=so hh;exact rq [4] ⟨z,z,z⟩
  refine R6 ?_;exact nx hR1 hh () (ζ 0 z)
 refine R1 ?_;replace hh:=bF hR1 hh;refine R5 ?_;refine θ ?_;obtain rfl:=so hh;exact rq [4] ⟨z,z,z⟩
end Go.Proofs.YtcfgkcfcddfccaaGreatDoor
end

noncomputable section
namespace Go.E
open Go
structure Dfa where
  cls:List Int
  next:List (List Int)
  fin:List Bool
def Dfa.zero:Dfa:=⟨[],[],[]⟩
structure DfaP where
  a1:Option Addr
  c1:Nat
  a2:Option Addr
  c2:Nat
  a3:Option Addr
  c3:Nat
def DfaP.zero:DfaP:=⟨none,0,none,0,none,0⟩
structure RDfa (σ:ak) (x:Dfa) (p:DfaP):Prop where
  c:RS σ 1 aB (.slice p.a1 x.cls.length p.c1) x.cls
  n:RZ σ (bH 1 aB aW) (.slice p.a2 x.next.length p.c2) x.next
  e:RS σ 1 dL (.slice p.a3 x.fin.length p.c3) x.fin
def GT{α:Type}(σ:ak)(g:Nat)(enc:α->List Value)(l:List α):Prop:= ∃E,σ g=some (.cells (l.flatMap enc).toArray E)
theorem GT.mono{α:Type}{σ τ:ak}{g:Nat}{enc:α->List Value}{l:List α}(h:GT σ g enc l)(hle:σ.le τ):GT τ g enc l:=let ⟨E,h⟩:=h;⟨E,hle _ _ h⟩
theorem qt_{α:Type}{enc:α->List Value}(hl: ∀x,(enc x).length=1)(d:α): ∀(l:List α) (i:Nat),i<l.length->(l.flatMap enc)[i]? =(enc (nth l i d))[0]?
  |[],i,h=>by simp at h
  |x::l,0,_=>by
    have:=hl x;rw [List.flatMap_cons,List.getElem?_append_left (by omega)];simp [nth]
  |x::l,i+1,h=>by
    have h1:=hl x;rw [List.flatMap_cons,List.getElem?_append_right (by omega),h1,Nat.add_sub_cancel,qt_ hl d l i (by simpa using h)];simp [nth]
theorem OpVal.loadG1{P:Program}{n:Nat}{e:Env}{σ:ak}{H:List Res}{o:Oper}{x:Operand}{α:Type}{T g i:Nat}{enc:α->List Value}{l:List α}{v:Value}(d:α)(ho:o.op= .load T x)(hA:aggOf P T=some false)(hx:ev e x=loc g (0+i * 1))(hG:GT σ g enc l)(hi:i<l.length)(hl: ∀x,(enc x).length=1)(hv:enc (nth l i d)=[v]):OpVal P n o e σ H v:=λw hw=>by
  obtain ⟨E,hE⟩:=hG;have h1:=hw.1 _ _ hE;have hc:w.cell? ⟨g,0+i * 1,none⟩=some v:=by
    have h2:=qt_ hl d l i hi;rw [hv]at h2;simp only [World.cell?,h1,Option.isSome_none,Bool.false_eq_true,if_false,Nat.zero_add,Nat.mul_one,List.getElem?_toArray];rw [h2];rfl
  rw [Nat.zero_add,Nat.mul_one]at hc hx;simp [execOp,ho,hx,Instr.loadAt,Instr.sureAddr,loc,Z5 hA hc]
theorem OpVal.negW{P:Program}{n:Nat}{e:Env}{σ:ak}{H:List Res}{o:Oper}{x:Operand}{T:TypeId}{k:IntKind}{a:Int}(ho:o.op= .unOp .neg T x)(hx:ev e x= .int k a):OpVal P n o e σ H (.int k (k.wrap (-a))):=λw _=>by
  simp [execOp,ho,hx,Op.unary,Op.intArith]
theorem OpVal.negU{P:Program}{n:Nat}{e:Env}{σ:ak}{H:List Res}{o:Oper}{x:Operand}{T:TypeId}{a:Nat}(ho:o.op= .unOp .neg T x)(hx:ev e x= .int .u64 (a:Nat)):OpVal P n o e σ H (.int .u64 ((zI (-(a:Int)):Nat):Int)):=by
  rw [sg_];exact OpVal.negW ho hx
theorem OpVal.c0_{P:Program}{n:Nat}{e:Env}{σ:ak}{H:List Res}{o:Oper}{x y:Operand}{T E i:Nat}{k:IntKind}{s:BSet}(ho:o.op= .index T x y)(ht:P.underlying T=some (.array 4 E))(hz:szOf P E=some 1)(hA:aggOf P E=some false)(hx:ev e x=sK s)(hy:ev e y= .int k (i:Nat))(hi:i<4):
    OpVal P n o e σ H (.int .u64 ((s.word i:Nat):Int)):=λw _=>by
  have h1:=p4_ s hi;simp [execOp,ho,hx,hy,sK,Instr.index,asIntOf,run_underlying ht,zO hz,part,jp_ hA,h1];omega
def deB:List UInt8:=[0,1,56,2,57,49,28,3,61,58,42,50,38,29,17,4,62,47,59,36,45,43,51,22,53,39,33,30,24,18,12,5,63,55,48,27,60,41,37,16,46,35,44,21,52,32,23,11,54,26,40,15,34,20,31,10,25,14,19,9,13,8,7,6]
structure YSpec (S:Type) where
  R:S->ak->Res->Prop
  mono: ∀{s σ σ' r},R s σ r->σ.le σ'->R s σ' r
def YR{S:Type}(Z:YSpec S)(s:S)(σ:ak)(r:Res):Prop:=Z.R s σ r
theorem YR.mono{S:Type}{Z:YSpec S}{s:S}{σ σ':ak}{r:Res}(h:YR Z s σ r)(hle:σ.le σ'):YR Z s σ' r:=Z.mono h hle
def YOk (P : Program) (l : Nat) {S α : Type} (A : α -> ak -> List Value -> Prop) (Z : YSpec S) (Y : S -> α -> Option (S × Bool)) : Prop :=
  ∀s x σ r args w s' b,Y s x=some (s',b)->A x σ args->YR Z s σ r->Reach w r.bl σ σ w [r]->
    YieldAt (fence none) 0 P l args.toArray w λe w'=>e= .returned (.bool b)/\ ∃σ' r',YR Z s' σ' r'/\Reach w r.bl σ σ' w' [r']
def t2_ (P : Program) (f : FuncId) (lb : List Value) {S α : Type} (A : α -> ak -> List Value -> Prop) (Y : S -> α -> Option (S × Bool)) (σ : ak) (Hc : List Res) (s s' : S) (Post : ak -> List Res -> Prop) : Prop :=
  ∀(l:Nat) (Z:YSpec S) (r:Res),YOk P l A Z Y->YR Z s σ r->
    Con P f (.func (.yield l) #[] #[]::lb).toArray σ (r::Hc) λ_ σ' H'=> ∃r' Hc',H'=r'::Hc'/\YR Z s' σ' r'/\Post σ' Hc'
theorem OpOk.callY{X:Ctx}{e:Env}{σ:ak}{H F:List Res}{o:Oper}{x:Operand}{K:Env->ak->List Res->Prop}{l d:Nat}{opds:Array Operand}{ts:Array TypeId}{S α:Type}{A:α->ak->List Value->Prop}{Z:YSpec S}{Y:S->α->Option (S×Bool)}{s:S}{q:S×Bool}{v:α}{r:Res}
    (hY:YOk X.P l A Z Y) (hs:YR Z s σ r) (he:Y s v=some q) (ho:o.op= .call {callee:= .value x,args:=opds,argTypes:=ts})
    (hx:ev e x= .func (.yield l) #[] #[]) (hA:A v σ (opds.toList.map (ev e))) (hd:o.dst=some d) (hn:Nat.blt d X.n=true) (hH:r::F=H)
    (k: ∀σ' r',σ.le σ'->YR Z q.1 σ' r'->K (upd e d (.bool q.2)) σ' (r'::F)):OpOk X o e σ H K:=by
  subst hH;obtain ⟨s',b⟩:=q;intro u0 C0 τ0 w a hw ha K' Q hK;have hbl:fV [r]=r.bl:=by simp [fV]
  have hself:Reach w r.bl σ σ w [r]:=by
    have:=(hw.sub (H':=[r]) (by simp)).self
    rwa [hbl]at this
  obtain ⟨fn,tmps,assign,body,hrun,hround⟩:=hY s v σ r _ w s' b he hA hs hself;have hr:(execOp a.eval o).run X.P w= .ok (.round l fn tmps assign body) w:=by
    rw [ha.eval'];have hl:(opds.toList.map (ev e)).toArray=opds.map (ev e):=by apply Array.ext';simp
    rw [hl]at hrun;simp [execOp,ho,resolve,hx,Deferred.ofValue,invoke,hrun]
  refine Oper.cm_ hr (λ_=>by simp) ?_;rw [Oper.uponIn_round];refine ⟨λh=>(by cases h),RoundIn.mono (R:=λe w'=>e= .returned (.bool b)/\ ∃σ' r',YR Z s' σ' r'/\Reach w r.bl σ σ' w' [r']) hround ?_⟩;rintro ex w' ⟨rfl,σ',r',h1,h2⟩;refine hK _ _ _ _ _ (k σ' r' h2.le h1) (Reach.call (H1:=[r]) (PN:=[r']) hw (by rw [hbl];exact h2)) (Iz ha hd hn _)
def Res.lrec(b:Nat)(o:Obj):Res:=⟨[b],λw=>w.heap[b]? =some o,λw k hk h=>by simp at hk;subst hk;exact (Array.getElem?_eq_some_iff.1 h).1,λw w' hb h=>by rw [hb b (by simp)];exact h⟩
theorem Reach.ca_{w0:World}{C:List Nat}{σ0 σ:ak}{w:World}{l:Nat}{o o':Obj}{F:List Res}(h:Reach w0 C σ0 σ w (Res.lrec l o::F)):Reach w0 C σ0 σ (w.putObj l o') (Res.lrec l o'::F):=by
  have hl:w.heap[l]? =some o:=h.holds _ (iZ ..);refine h.turn rfl rfl rfl (by simp [World.putObj]) (Nat.le_refl _) (λk _ hk=>World.putObj_heap_other (λe=>hk (by simp [Res.lrec,e]))) (World.putObj_heap_same (Array.getElem?_eq_some_iff.1 hl).1) (λb hb=> .inl hb) (by simp [Res.lrec])
theorem Reach.tail{w0:World}{C:List Nat}{σ0 σ:ak}{w:World}{r:Res}{F:List Res}(h:Reach w0 C σ0 σ w (r::F)):Reach w (fV F) σ σ w F:=(h.sub (List.sublist_cons_self ..)).self
theorem Reach.Nj{w0:World}{C:List Nat}{σ0 σ σ':ak}{w w':World}{r:Res}{F F':List Res}(h:Reach w0 C σ0 σ w (r::F))(k:Reach w (fV F) σ σ' w' F'):Reach w0 C σ0 σ' w' (r::F'):=by
  have h1:Reach w0 C σ0 σ w (F++[r]):=h.perm (List.perm_append_singleton r F);exact (h1.call k).perm (List.perm_append_singleton r F').symm
def xi_(e:Env)(ps:List Tmp)(vs:List Value):Env:=(ps.zip vs).foldl (λe p=>upd e p.1 p.2) e
theorem St.binds{n:Nat}: ∀(ps:List Tmp) (vs:List Value) {e:Env} {t:Array Value},(∀p∈ps,p<n)->St n e {tmps:=t,defers:=[]}->St n (xi_ e ps vs) {tmps:=(ps.zip vs).foldl (λt p=>t.setIfInBounds p.1 p.2) t,defers:=[]}
  |[],_,_,_,_,h=>h
  |_::_,[],_,_,_,h=>h
  |p::ps,v::vs,e,t,hp,h=>by
    have h1:=h.put (hp p (iZ ..)) v;exact St.binds ps vs (λq hq=>hp q (qE _ hq)) h1
@[reducible]def asgQ(K:Env->ak->List Res->Prop):QP:=λex=>match ex with
  | .normal=>K
  |_=>λ_ _ _=>False
@[reducible]def rndQ(J:List Code)(K:Nat->ak->List Res->Prop):QP:=λex _ σ H=>match ex with
  | .normal=>K 0 σ H
  | .ret=> ∃j,J[j]? =some .ret/\K (j+1) σ H
  | .exit i=> ∃j,J[j]? =some (.exit i)/\K (j+1) σ H
  | .goto i=> ∃j,J[j]? =some (.goto i)/\K (j+1) σ H
  |_=>False
def yN{S α:Type}(B:S->α->Option (Nat×S))(p:Nat×S)(x:α):Option ((Nat×S)×Bool):=
  if p.1=0 then (B p.2 x).bind λq=>some (q,q.1 == 0) else none
theorem v3_{S α:Type}{B:S->α->Option (Nat×S)}{p p':Nat×S}{x:α}{b:Bool}(h:yN B p x=some (p',b)):p.1=0/\B p.2 x=some p'/\b=(p'.1 == 0):=by
  unfold yN at h
  split at h
  · rename_i h0
    cases hb:B p.2 x with
    |none=>simp [hb]at h
    |some q=>simp [hb]at h;exact ⟨h0,by rw [h.1],by rw [<-h.2,h.1]⟩
  cases h
abbrev uj(fn:FuncId)(tmps:Array Value)(ps:Array Tmp)(assign body:Code)(D:Nat)(st:LoopState)(pe:Option Code):Loop:={state:=st,pending:=pe,fn,tmps,params:=ps,assign,body,defers:=D}
def GX(rec:LoopState->Option Code->Loop)(J:List Code)(j:Nat):Obj:= .loop (if j=0 then rec .ready none else rec .done (J[j - 1]?))
def rndZ{S:Type}(l:Nat)(rec:LoopState->Option Code->Loop)(J:List Code)(σs:ak)(G:S->ak->List Res->Prop)(hG: ∀{s σ σ' H},G s σ H->σ.le σ'->G s σ' H):YSpec (Nat×S) where
  R p σ r:= ∃Hs,r=Res.star (Res.lrec l (GX rec J p.1)::Hs)/\G p.2 σ Hs/\σs.le σ/\(p.1≠0-> ∃c,J[p.1 - 1]? =some c)
  mono:=λ⟨Hs,h1,h2,h3,h4⟩ hle=>⟨Hs,h1,hG h2 hle,h3.trans hle,h4⟩
theorem qh_{w0:World}{C:List Nat}{σ0 σ:ak}{w:World}{l:Nat}{o:Obj}{F:List Res}(h:Reach w0 C σ0 σ w (Res.lrec l o::F)):l∉fV F/\σ l=none:=by
  have hn:=h.nodup;simp only [fV,List.flatMap_cons,Res.lrec,List.cons_append,List.nil_append,List.nodup_cons]at hn;exact ⟨hn.1,h.apart _ (iZ ..) l (by simp [Res.lrec])⟩
theorem yOk_of {P : Program} {n l : Nat} {S α : Type} {A : α -> ak -> List Value -> Prop} {J : List Code} {B : S -> α -> Option (Nat × S)} {σs : ak} {G : S -> ak -> List Res -> Prop} {hG : ∀ {s σ σ' H}, G s σ H -> σ.le σ' -> G s σ' H} {fn : FuncId} {ps : Array Tmp} {assign body : Code} {e : Env} {tmps : Array Value} {D : Nat}
    (hst:St n e {tmps:=tmps,defers:=[]}) (hps: ∀p∈ps.toList,p<n) (hA: ∀x σ vs,A x σ vs->vs.length=ps.size)
    (hbody: ∀(w0:World) (C:List Nat) (τ σ:ak) (s:S) (x:α) (q:Nat×S) (vs:List Value) (Hs:List Res),B s x=some q->σs.le σ->A x σ vs->G s σ Hs->
      TC ⟨P,w0,C,τ,n,some l,none⟩ (asgQ λe σ H=> ∀w0 C τ,TC ⟨P,w0,C,τ,n,some l,none⟩ (rndQ J λj σ H=>q.1=j/\G q.2 σ H) body e σ H) assign (xi_ e ps.toList vs) σ Hs):
    YOk P l A (rndZ l (uj fn tmps ps assign body D) J σs G hG) (yN B):=by
  rintro p x σ r args w p' b hy hax ⟨Hs,rfl,hg,hle, -⟩ hw;obtain ⟨hp0,hB,rfl⟩:=v3_ hy;rw [hp0]at hw;have hw1:Reach w (Res.star (Res.lrec l (GX (uj fn tmps ps assign body D) J 0)::Hs)).bl σ σ w (Res.lrec l (.loop (uj fn tmps ps assign body D .ready none))::Hs):=by
    have:=hw.Ub;rw [List.append_nil]at this;exact this
  have hlen:=hA x σ args hax;have hl1:w.heap[l]? =some (.loop (uj fn tmps ps assign body D .ready none)):=hw1.holds _ (iZ ..);have hy:=run_yield (P:=P) (args:=args.toArray) hl1 (by simpa using hlen);refine ⟨fn,_,assign,body,hy,roundIn_of_wpIn trivial ?_⟩;have hz:(ps.zip args.toArray).foldl (λt (p,v)=>t.setIfInBounds p v) tmps=(ps.toList.zip args).foldl (λt p=>t.setIfInBounds p.1 p.2) tmps:=by
    rw [<-Array.foldl_toList,Array.toList_zip]
  have hS:St n (xi_ e ps.toList args) {tmps:=(ps.zip args.toArray).foldl (λt (p,v)=>t.setIfInBounds p v) tmps,defers:=[]}:=by
    rw [hz];exact St.binds _ _ hps hst
  refine wpIn_mono (hbody w (fV Hs) σ σ p.2 x p' args Hs hB hle hax hg w _ ⟨hw1.tail,⟨λ_=>⟨[],rfl,List.nodup_nil,by simp⟩,(λ_ h=>by cases h),λl' hl'=> ?_⟩⟩ hS) ?_
  · cases hl';exact ⟨rfl,⟨_,hl1⟩,(qh_ hw1).1,(qh_ hw1).2⟩
  rintro ex a2 w2 ⟨e2,σ2,H2,hS2,hw2,hq2⟩;cases ex with
  |normal=>
    have hw2':=hw1.Nj hw2.toReach;have hl2:w2.heap[l]? =some (.loop (uj fn tmps ps assign body D .ready none)):=hw2'.holds _ (iZ ..);have hw3:=hw2'.ca_ (o':= .loop (uj fn tmps ps assign body D .busy none));have hl3:(w2.putObj l (.loop (uj fn tmps ps assign body D .busy none))).heap[l]? =some (.loop (uj fn tmps ps assign body D .busy none)):=hw3.holds _ (iZ ..);have hd2:a2.defers=[]:=(hw2.marks.rc l rfl).1;refine ⟨_,run_beginRound hl2 rfl,?_⟩;refine wpIn_mono (hq2 _ (fV H2) σ2 _ a2 ⟨hw3.tail,⟨λ_=>⟨[],by rw [hd2];rfl,List.nodup_nil,by simp⟩,(λ_ h=>by cases h),λl' hl'=> ?_⟩⟩ hS2) ?_
    · cases hl';exact ⟨hd2,⟨_,hl3⟩,(qh_ hw3).1,(qh_ hw3).2⟩
    rintro ex a4 w4 ⟨e4,σ4,H4,hS4,hw4,hq4⟩;have VJ:=hw3.Nj hw4.toReach;have hl4:w4.heap[l]? =some (.loop (uj fn tmps ps assign body D .busy none)):=VJ.holds _ (iZ ..);have fin: ∀(jump:Option Code) (j:Nat),p'.1=j->(j=0->jump=none)->(j≠0->jump=J[j - 1]? /\ ∃c,jump=some c)->G p'.2 σ4 H4-> ∃v w',(Instr.endRound l jump).run P w4= .ok v w'/\(Ending.returned v= .returned (.bool (p'.1 == 0))/\ ∃σ' r',YR (rndZ l (uj fn tmps ps assign body D) J σs G hG) p' σ' r'/\Reach w (Res.star (Res.lrec l (GX (uj fn tmps ps assign body D) J p.1)::Hs)).bl σ σ' w' [r']):=λjump j h1 h2 h3 h4=>by
      have h6:Obj.loop (uj fn tmps ps assign body D (if jump.isNone then .ready else .done) jump)=GX (uj fn tmps ps assign body D) J p'.1:=by
        unfold GX;rw [h1]
        by_cases h0:j=0
        · rw [if_pos h0,h2 h0];rfl
        obtain ⟨h7,c,h8⟩:=h3 h0;rw [if_neg h0,<-h7,h8];rfl
      refine ⟨_,_,run_endRound jump hl4,?_,σ4,Res.star (Res.lrec l (GX (uj fn tmps ps assign body D) J p'.1)::H4),⟨H4,rfl,h4,hle.trans VJ.le,λh=> ?_⟩,?_⟩
      · rw [h1]
        by_cases h0:j=0
        · rw [h2 h0,h0];rfl
        obtain ⟨_,c,hc⟩:=h3 h0;rw [hc];simp [h0]
      · rw [h1]at h ⊢
        obtain ⟨h5,c,h6⟩:=h3 h;exact ⟨c,by rw [<-h5,h6]⟩
      have h5:=VJ.ca_ (o':= .loop (uj fn tmps ps assign body D (if jump.isNone then .ready else .done) jump));show Reach w _ σ σ4 (w4.putObj l (.loop (uj fn tmps ps assign body D (if jump.isNone then .ready else .done) jump))) _;rw [h6]at h5 ⊢;rw [hp0];exact Reach.star (G:=Res.lrec l (GX (uj fn tmps ps assign body D) J p'.1)::H4) (F:=[]) (by rw [List.append_nil];exact h5)
    cases ex with
    |normal=>exact fin none 0 hq4.1 (λ_=>rfl) (λh=>absurd rfl h) hq4.2
    |ret=>obtain ⟨j,hj,h1,h2⟩:=hq4;exact fin (some .ret) (j+1) h1 (λh=>by cases h) (λ_=>⟨by simpa using hj.symm,_,rfl⟩) h2
    |exit i=>obtain ⟨j,hj,h1,h2⟩:=hq4;exact fin (some (.exit i)) (j+1) h1 (λh=>by cases h) (λ_=>⟨by simpa using hj.symm,_,rfl⟩) h2
    |goto i=>obtain ⟨j,hj,h1,h2⟩:=hq4;exact fin (some (.goto i)) (j+1) h1 (λh=>by cases h) (λ_=>⟨by simpa using hj.symm,_,rfl⟩) h2
    |panic c=>exact hq4.elim
    |outgrown=>exact hq4.elim
  |exit i=>exact hq2.elim
  |goto i=>exact hq2.elim
  |ret=>exact hq2.elim
  |panic c=>exact hq2.elim
  |outgrown=>exact hq2.elim
@[reducible]def jmpQ(X:Ctx)(Q:QP)(J:List Code):Nat->Env->ak->List Res->Prop
  |0=>Q .normal
  |j+1=>λe σ H=> ∀c,J[j]? =some c->TC X Q c e σ H
theorem TC.rangeFunc {X : Ctx} {Q : QP} {e : Env} {σ : ak} {H Hs Hc : List Res} {S α : Type} {g : Operand} {ps : Array Tmp} {assign body : Code} {f : Nat} {lb : List Value} {A : α -> ak -> List Value -> Prop}
    (J:List Code) (B:S->α->Option (Nat×S)) (G:S->ak->List Res->Prop) {s:S} {q:Nat×S} {PostC:ak->List Res->Prop}
    (hg:ev e g= .func (.func f) #[] lb.toArray) (hp:plainF X.P f=true) (hH:Hs++Hc=H) (hps:ps.toList.all (λp=>Nat.blt p X.n)=true)
    (hG: ∀{s σ σ' H},G s σ H->σ.le σ'->G s σ' H) (h0:G s σ Hs) (hA: ∀x σ vs,A x σ vs->vs.length=ps.size)
    (hit:t2_ X.P f lb A (yN B) σ Hc (0,s) q PostC)
    (hbody: ∀(l:Nat) (w0:World) (C:List Nat) (τ σ':ak) (s:S) (x:α) (q:Nat×S) (vs:List Value) (Hs:List Res),B s x=some q->σ.le σ'->A x σ' vs->G s σ' Hs->
      TC ⟨X.P,w0,C,τ,X.n,some l,none⟩ (asgQ λe σ H=> ∀w0 C τ,TC ⟨X.P,w0,C,τ,X.n,some l,none⟩ (rndQ J λj σ H=>q.1=j/\G q.2 σ H) body e σ H) assign (xi_ e ps.toList vs) σ' Hs)
    (hdone: ∀σ' Hs' Hc',σ.le σ'->G q.2 σ' Hs'->PostC σ' Hc'->jmpQ X Q J q.1 e σ' (Hs'++Hc')) (hown:X.own=none:=by rfl):TC X Q (.rangeFunc g ps assign body) e σ H:=by
  subst hH;intro w a hw ha;have hps': ∀p∈ps.toList,p<X.n:=λp hp=>by
    have:=List.all_eq_true.1 hps p hp;simpa [Nat.blt_eq]using this
  refine wpIn_rangeFunc λfn _=> ?_;have key: ∀(l D:Nat) (w1:World) (a1:Act),a1.tmps=a.tmps->RM X a1 σ w1 (Res.lrec l (.loop (uj fn a.tmps ps assign body D .ready none))::(Hs++Hc))->
      CallsIn (fence X.rnd) 0 X.P f (#[.func (.yield l) #[] #[]]++lb.toArray) w1 (rangePost (fence X.rnd) 0 X.P l (low X Q) a1):=by
    intro l D w1 a1 ht hw1;have hcon:=hit l (rndZ l (uj fn a.tmps ps assign body D) J σ G hG) (Res.star (Res.lrec l (GX (uj fn a.tmps ps assign body D) J 0)::Hs))
      (yOk_of ⟨ha.size,ha.get⟩ hps' hA (hbody l)) ⟨Hs,rfl,h0,ak.le.refl _,λh=>absurd rfl h⟩
    have hst:RM X a1 σ w1 (Res.star (Res.lrec l (GX (uj fn a.tmps ps assign body D) J 0)::Hs)::Hc):=hw1.by λ_ k=>Reach.star (G:=Res.lrec l (GX (uj fn a.tmps ps assign body D) J 0)::Hs) (F:=Hc) k;have hcall:=hcon w1 hst.self;have hargs:(Value.func (.yield l) #[] #[]::lb).toArray= #[.func (.yield l) #[] #[]]++lb.toArray:=by apply Array.ext';simp
    rw [hargs]at hcall;refine ir_.2 (hcall.mono ?_);rintro ex w2 ⟨v,σ2,H2,rfl,⟨r',Hc',rfl,⟨Hs',rfl,hg2,hle,hJ⟩,hpc⟩,hw2⟩;have hw3:RM X a1 σ2 w2 (Res.lrec l (GX (uj fn a.tmps ps assign body D) J q.1)::(Hs'++Hc')):=(hst.step hw2 rfl).by λ_ k=>k.Ub;have hl:w2.heap[l]? =some (GX (uj fn a.tmps ps assign body D) J q.1):=hw3.holds _ (iZ ..);have hS1:St X.n e a1:=⟨by rw [ht];exact ha.size,λt=>by rw [ht];exact ha.get t⟩;have hw5: ∀o',RM X a1 σ2 (w2.putObj l o') (Hs'++Hc'):=λo'=>hw3.step ((hw3.self.ca_ (o':=o')).sub (List.sublist_cons_self ..)) rfl;have hfin:=hdone σ2 Hs' Hc' hle hg2 hpc;unfold GX at hl;cases hq:q.1 with
    |zero=>
      rw [hq]at hl hfin;exact ⟨none,_,run_endLoop hl (by simp),e,σ2,_,hS1,hw5 _,hfin⟩
    |succ j=>
      rw [hq]at hl hfin hJ;obtain ⟨c,hc⟩:=hJ (by simp);simp only [Nat.add_sub_cancel,Nat.succ_ne_zero,if_false]at hl hc;rw [hc]at hl;exact ⟨some c,_,run_endLoop hl (by simp),hfin c hc _ a1 (hw5 _) hS1⟩
  have hnew: ∀k,k<w.heap.size\/True:=λ_=> .inr trivial;have hres: ∀l w1,(resolve a.eval (rangeCall g l) 0).run X.P w1= .ok {target:= .fn (.func f) lb.toArray,args:= #[.func (.yield l) #[] #[]]} w1:=λl w1=>by
    rw [ha.eval'];simp only [resolve,hg];simp [go_sem,Deferred.ofValue,ev]
  have hinv: ∀l w1,(invoke (.fn (.func f) lb.toArray) #[.func (.yield l) #[] #[]]).run X.P w1= .ok (.enter f (#[.func (.yield l) #[] #[]]++lb.toArray)) w1:=λl w1=>by
    simp [invoke,ZY hp]
  cases hr:X.rnd with
  |none=>
    refine ⟨w.heap.size+1,_,_,_,_,f,_,_,run_enterLoop_outer _ _ _ _ _,hres _ _,λ_ _=>trivial,hinv _ _,(λh=>by cases h),hr▸key (w.heap.size+1) w.heap.size _ _ rfl ?_⟩;have hsz:((w.alloc (.deferred (some []))).heap.size)=w.heap.size+1:=by simp
    have hold: ∀k,k<w.heap.size->((w.alloc (.deferred (some []))).alloc (.loop (uj fn a.tmps ps assign body w.heap.size .ready none))).heap[k]? =w.heap[k]? :=λk hk=>by
      rw [TU _ _ _ (by omega),TU _ _ _ hk]
    have hR:Reach w (fV (Hs++Hc)) σ σ ((w.alloc (.deferred (some []))).alloc (.loop (uj fn a.tmps ps assign body w.heap.size .ready none))) (Res.lrec (w.heap.size+1) (.loop (uj fn a.tmps ps assign body w.heap.size .ready none))::(Hs++Hc)):=
      hw.self.gain rfl rfl rfl (by simp;omega) (Nat.le_refl _) hold (by
        have:=World.alloc_heap_new (w.alloc (.deferred (some []))) (.loop (uj fn a.tmps ps assign body w.heap.size .ready none));rw [hsz]at this;exact this) (λb hb=>by simp [Res.lrec]at hb;omega) (by simp [Res.lrec])
    have h1:=hw.step hR (a':=a) rfl;refine ⟨h1.toReach,⟨λ_=> ?_,(λ_ h=>by rw [hown]at h;cases h),λl hl=>by rw [hr]at hl;cases hl⟩⟩;obtain ⟨Ds,g1,g2,g3⟩:=h1.marks.ex hown;obtain ⟨Ds0,g10,g20,g30⟩:=hw.marks.ex hown;have hDs:Ds=Ds0:=by
      have:=g1.symm.trans g10;have h2: ∀(A B:List Nat),A.map (λD=>({target:= .collected D,args:= #[]}:Deferred))=B.map (λD=>({target:= .collected D,args:= #[]}:Deferred))->A=B:=λA=>by
        induction A with
        |nil=>intro B h;cases B with
          |nil=>rfl
          |cons b B=>simp at h
        |cons a A ih=>intro B h;cases B with
          |nil=>simp at h
          |cons b B=>simp only [List.map_cons,List.cons.injEq,Deferred.mk.injEq,Target.collected.injEq,and_true]at h;rw [h.1,ih B h.2]
      exact h2 _ _ this
    subst hDs;refine ⟨w.heap.size::Ds,by simp [g1],List.nodup_cons.2 ⟨λhx=> ?_,g2⟩,λD hD=> ?_⟩
    · have:=(Array.getElem?_eq_some_iff.1 (g30 _ hx).1).1;omega
    rcases List.mem_cons.1 hD with rfl|hD
    · refine ⟨?_,hw.size,λhx=> ?_,?_⟩
      · rw [TU _ _ _ (by omega)];exact World.alloc_heap_new w _
      · simp only [fV,List.flatMap_cons,Res.lrec,List.cons_append,List.nil_append,List.mem_cons]at hx
        rcases hx with hx|hx
        · omega
        obtain ⟨r,hr',hb⟩:=vP.1 hx;have:=hw.block_lt hr' hb;omega
      cases hs:σ w.heap.size with
      |none=>rfl
      |some o=>have:=(Array.getElem?_eq_some_iff.1 (hw.fit _ _ hs)).1;omega
    exact g3 D hD
  |some l0=>
    obtain ⟨hd0,⟨r0,h1⟩,h2,h3⟩:=hw.marks.rc l0 hr;refine ⟨w.heap.size,_,_,_,_,f,_,_,run_enterLoop_inner h1 _ _ _ _ _,hres _ _,λ_ _=>trivial,hinv _ _,(λh=>by cases h),hr▸key w.heap.size r0.defers _ a rfl ?_⟩;refine hw.step (hw.self.gain rfl rfl rfl (by simp) (Nat.le_refl _) (λk hk=>TU _ _ _ hk) (World.alloc_heap_new w _) (λb hb=>by simp [Res.lrec]at hb;omega) (by simp [Res.lrec])) rfl
theorem TC.dc_{X:Ctx}{Q:QP}{e:Env}{σ:ak}{H Hs Hc:List Res}{S α:Type}{g:Operand}{ps:Array Tmp}{assign body:Code}{f:Nat}{lb:List Value}{A:α->ak->List Value->Prop}
    (J:List Code) (B:S->α->Option (Nat×S)) (G:S->ak->List Res->Prop) {s:S} {q:Nat×S} {PostC:ak->List Res->Prop}
    (hg:ev e g= .func (.func f) #[] lb.toArray) (hp:plainF X.P f=true) (hH:Hs++Hc=H) (hps:ps.toList.all (λp=>Nat.blt p X.n)=true)
    (hG: ∀{s σ σ' H},G s σ H->σ.le σ'->G s σ' H) (h0:G s σ Hs) (hA: ∀x σ vs,A x σ vs->vs.length=ps.size)
    (hit:t2_ X.P f lb A (yN B) σ Hc (0,s) q PostC)
    (hbody: ∀(l:Nat) (w0:World) (C:List Nat) (τ σ':ak) (s:S) (x:α) (q:Nat×S) (vs:List Value) (Hs:List Res),B s x=some q->σ.le σ'->A x σ' vs->G s σ' Hs->
      TC ⟨X.P,w0,C,τ,X.n,some l,none⟩ (asgQ λe σ H=> ∀w0 C τ,TC ⟨X.P,w0,C,τ,X.n,some l,none⟩ (rndQ J λj σ H=>q.1=j/\ ∃F,Sub F H/\G q.2 σ F) body e σ H) assign (xi_ e ps.toList vs) σ' Hs)
    (hdone: ∀σ' Hs' Hc',σ.le σ'->G q.2 σ' Hs'->PostC σ' Hc'->jmpQ X Q J q.1 e σ' (Hs'++Hc')) (hown:X.own=none:=by rfl):TC X Q (.rangeFunc g ps assign body) e σ H:=by
  refine TC.rangeFunc J B G hg hp hH hps hG h0 hA hit (λl w0 C τ σ' s x q vs Hs h1 h2 h3 h4=>(hbody l w0 C τ σ' s x q vs Hs h1 h2 h3 h4).weak λex e σ H h=> ?_) hdone hown;cases ex with
  |normal=>
    refine λw0 C τ=>TC.Uf ((h w0 C τ).weak λex e σ H h=> ?_);cases ex with
    |normal=>obtain ⟨h1,F,hs,hg⟩:=h;exact ⟨F,hs,h1,hg⟩
    |ret=>obtain ⟨j,hj,h1,F,hs,hg⟩:=h;exact ⟨F,hs,j,hj,h1,hg⟩
    |exit i=>obtain ⟨j,hj,h1,F,hs,hg⟩:=h;exact ⟨F,hs,j,hj,h1,hg⟩
    |goto i=>obtain ⟨j,hj,h1,F,hs,hg⟩:=h;exact ⟨F,hs,j,hj,h1,hg⟩
    |panic c=>exact h.elim
    |outgrown=>exact h.elim
  |exit i=>exact h
  |goto i=>exact h
  |ret=>exact h
  |panic c=>exact h
  |outgrown=>exact h
theorem asg_n{K:Env->ak->List Res->Prop}{e:Env}{σ:ak}{H:List Res}(h:K e σ H):asgQ K .normal e σ H:=h
theorem rnd_n{J:List Code}{K:Nat->ak->List Res->Prop}{e:Env}{σ:ak}{H:List Res}(h:K 0 σ H):rndQ J K .normal e σ H:=h
theorem rnd_r{J:List Code}{K:Nat->ak->List Res->Prop}{e:Env}{σ:ak}{H:List Res}(j:Nat)(hj:J[j]? =some .ret)(h:K (j+1) σ H):rndQ J K .ret e σ H:=⟨j,hj,h⟩
def jsel{α:Type}:Nat->Option α->(Nat->Option α)->Option α
  |0,a,_=>a
  |n+1,_,b=>b n
theorem rm_{X:Ctx}{Q:QP}{J:List Code}{n:Nat}{e:Env}{σ:ak}{H:List Res}{α:Type}{a:Option α}{b:Nat->Option α}{r:α}(hh:jsel n a b=some r)
    (h0:a=some r->Q .normal e σ H) (h1: ∀m c,b m=some r->J[m]? =some c->TC X Q c e σ H):jmpQ X Q J n e σ H:=by
  cases n with
  |zero=>exact h0 hh
  |succ m=>exact λc hc=>h1 m c hh hc
theorem jl_split{X:Ctx}{Q:QP}{J:List Code}{c0 c:Code}{m:Nat}{e:Env}{σ:ak}{H:List Res}{α:Type}{a:Option α}{b:Nat->Option α}{r:α}(hh:jsel m a b=some r)(hc:(c0::J)[m]? =some c)
    (h0:a=some r->TC X Q c0 e σ H) (h1: ∀m,b m=some r->J[m]? =some c->TC X Q c e σ H):TC X Q c e σ H:=by
  cases m with
  |zero=>simp at hc;subst hc;exact h0 hh
  |succ m=>exact h1 m hh (by simpa using hc)
theorem jl_nil{X:Ctx}{Q:QP}{c:Code}{m:Nat}{e:Env}{σ:ak}{H:List Res}(hc:([]:List Code)[m]? =some c):TC X Q c e σ H:=by simp at hc
end Go.E
end

noncomputable section
namespace Go.Proofs.YtcfgkcfcddfccaaGreatDoor
open Go Go.E Go.E.OpVal Go.E.OpOk Go.Proofs.Tryz
open List (replicate)
theorem ag131:aggOf Tryz.prog 131=some false:=by kernel_rfl
theorem uv_:aggOf Tryz.prog 33=some false:=by kernel_rfl
theorem by47:byOf Tryz.prog 47=some 32:=by kernel_rfl
theorem ml_:foOf Tryz.prog 35 0=some 0:=by kernel_rfl
theorem kf_:foOf Tryz.prog 35 1=some 1:=by kernel_rfl
theorem ky_:foOf Tryz.prog 35 2=some 2:=by kernel_rfl
theorem pf124:plainF Tryz.prog 124=true:=by kernel_rfl
theorem xd_:plainF Tryz.prog 125=true:=by kernel_rfl
theorem Jo:plainF Tryz.prog 126=true:=by kernel_rfl
theorem pf146:plainF Tryz.prog 146=true:=by kernel_rfl
theorem pf155:plainF Tryz.prog 155=true:=by kernel_rfl
theorem Jl:plainF Tryz.prog 50=true:=by kernel_rfl
theorem pf96:plainF Tryz.prog 96=true:=by kernel_rfl
theorem Ji:szOf Tryz.prog 63=some 1:=by kernel_rfl
def Co_(x0:Nat):Option (Int):=
 aI (decide (x0=0)) (some 64) (grd ((G8 (Q5 (Zz x0 (zI (-(x0:Int)))) 285870213051353865) 58)<64) (some ((nth deB (G8 (Q5 (Zz x0 (zI (-(x0:Int)))) 285870213051353865) 58) 0).toNat:Int)))
theorem Im_{σ:ak}{x0:Nat}(hgl:GT σ 0 qC deB){r:Int}(hh:Co_ x0=some r):
  Con prog 155 #[.int .u64 (x0:Int)] σ [] (iU (.int .i64 r) σ):=by
 dsimp only [Co_]at hh;refine cM 14 Tryz.func155 (λw0=> ?_);refine R8 ?_;refine TL.w z (eqlU z z z) (R1 ?_);refine ι z hh (λiR hh=> ?_) (λiR hh=> ?_)
 ·refine R4 ?_;refine θ ?_;obtain rfl:=so hh;exact rq [2] ⟨z,z,z⟩
 refine R5 ?_;refine TL.w z (negU z z) (TL.w z (andU z z z) (TL.w z (mulU (b:=285870213051353865) z z z) (TL.w z (shrU (b:=58) z z z) ?_)));obtain ⟨u11,hh⟩:=gd hh;refine TL.w z iA (TL.w z (loadG1 (0:UInt8) z ag5 z hgl (by simp only [deB,List.length_cons,List.length_nil];omega) oc_ z) (TL.w z (dl_ z DC zV z (by have:=UInt8.toNat_lt (nth deB (G8 (Q5 (Zz x0 (zI (-(x0:Int)))) 285870213051353865) 58) 0);simp only [zG];omega)) (R2 ?_)));refine θ ?_;obtain rfl:=so hh;exact rq [2] ⟨z,z,z⟩
def MN(x0:BSet)(aZ:Nat):Option ((Nat)⊕(UInt8×Bool)):=
 aI (decide ((aZ:Int)<4)) (grd (aZ<4) (aI (decide ((BSet.word x0 aZ)≠0)) (bnd (Co_ (BSet.word x0 aZ)) (λv16=>fin (some ((kH (IntKind.i64.wrap ((IntKind.i64.wrap (64 * (aZ:Int)))+v16))),true)))) (nxt (aZ+1)))) (fin (some ((0:UInt8),false)))
def MI(x0:BSet):Option (UInt8×Bool):=
 aV (λq:Nat=>MN x0 q) 0
theorem Ke_{σ:ak}{x0:BSet}(hgl:GT σ 0 qC deB){r:UInt8×Bool}(hh:MI x0=some r):
  Con prog 96 #[sK x0] σ [] (iU (.tuple #[.int .u8 (r.1.toNat:Int),.bool r.2]) σ):=by
 dsimp only [MI]at hh;refine cM 20 Tryz.func96 (λw0=> ?_);refine R2 ?_;refine TL.bx (λaS=> ?_);refine R10 ?_;refine TC.lp hh () (rgs [(2,4),(7,13)]) (λaZ _=>([(7,.int .i64 (aZ:Int))],[])) (ζ 0 z) ?_;rintro aZ _ _ z1 hh hR1;dsimp only [MN]at hh ⊢;refine R5 ?_;refine ι z hh (λdH hh=> ?_) (λdH hh=> ?_)
 ·refine R6 ?_;obtain ⟨u8,hh⟩:=gd hh;refine TL.w z (c0_ z D8 ug zF z z (by omega)) (R6 ?_);refine TL.w z (neqU z z z) (R1 ?_);refine ι z hh (λfB hh=> ?_) (λfB hh=> ?_)
  ·refine R5 ?_;obtain ⟨v16,u16,hh⟩:=bQ hh;refine κ z (eG (Im_ hgl u16) z z pf155 z z z ?_);refine TL.w z (addW z z z) (TL.w z (Nk z zV DC z) (R3 ?_));refine θ ?_;replace hh:=bF hR1 hh;obtain rfl:=so hh;exact rq [2,3] ⟨z,z,z⟩
  refine R5 ?_;exact nx hR1 hh () (ζ 0 z)
 refine R1 ?_;replace hh:=bF hR1 hh;refine R6 ?_;refine θ ?_;obtain rfl:=so hh;exact rq [2,3] ⟨z,z,z⟩
def Ye(x1:BSet)(BA:BSet)(gy:Nat):Option ((BSet×Nat)⊕(BSet)):=
 aI (decide ((gy:Int)<4)) (grd (gy<4) (grd (gy<4) (grd (gy<4) (grd ((NU (BSet.word BA gy) (BSet.word x1 gy))<18446744073709551616) (nxt ((BSet.H9 BA gy (NU (BSet.word BA gy) (BSet.word x1 gy))),(gy+1))))))) (fin (some BA))
def Ui(x0:BSet)(x1:BSet):Option (BSet):=
 aV (λq:BSet×Nat=>Ye x1 q.1 q.2) (x0,0)
theorem Jm_{σ:ak}{x0:BSet}{x1:BSet}{r:BSet}(hh:Ui x0 x1=some r):
  Con prog 126 #[sK x0,sK x1] σ [] (iU (sK r) σ):=by
 dsimp only [Ui]at hh;refine cM 19 Tryz.func126 (λw0=> ?_);refine R2 ?_;refine TL.bx (λaS=> ?_);refine TL.bx (λbn=> ?_);refine TL.al (λfK=> ?_);refine R7 ?_;refine TC.lp hh () (rgs [(5,13)]) (λ⟨BA,gy⟩ _=>([(6,.int .i64 (gy:Int))],[ω aS (setA BA) 47,ω bn (setA x1) 47,ω fK (setA BSet.zero) 47])) (ψ [1,2] 3) ?_;rintro ⟨BA,gy⟩ _ _ z1 hh hR1;dsimp only [Ye]at hh ⊢;refine R5 ?_;refine ι z hh (λuP hh=> ?_) (λuP hh=> ?_)
 ·refine R8 ?_;obtain ⟨u9,hh⟩:=gd hh;obtain ⟨u12,hh⟩:=gd hh;obtain ⟨u15,hh⟩:=gd hh;obtain ⟨u16,hh⟩:=gd hh;refine TC.draw [8] (by kernel_rfl) (ν 0 z mI z (Δ 1 z iA z (Δ 2 z (a3_ BA z zF z (j:=0) z (by omega) z) z (ν 3 z mI z (Δ 4 z iA z (Δ 5 z (a3_ x1 z zF z (j:=1) z (by omega) z) z (ν 6 z (orU z z z) z (Δ 7 z iA z (TA.last 8 (by kernel_rfl) z z z (bq_ z ug z z z (by omega) u16 ?_))))))))));refine R5 ?_;exact nx hR1 hh () (ψ [2,2,2] 3)
 refine R1 ?_;replace hh:=bF hR1 hh;refine R4 ?_;refine φ 2 z z (R2 ?_);refine TC.rt 1 ?_;obtain rfl:=so hh;exact rz
def Hv_(gy:Nat)(l115:T_1):Option ((T_1×Nat)⊕(T_1)):=
 nxt (l115,(gy+1))
def Yf(x0:List BSet)(x1:UInt8)(kR:T_1)(gy:Nat):Option ((T_1×Nat)⊕(T_1)):=
 aI (decide ((gy:Int)<(x0.length:Int))) (aI ((nth x0 gy BSet.zero).has x1.toNat) (grd (gy<kR.length) (Hv_ gy (kR.set gy (1:UInt8)))) (Hv_ gy kR)) (fin (some kR))
def Jf_(x0:List BSet)(x1:UInt8):Option (T_1):=
 grd (1 * x0.length<=281474976710656) (aV (λq:T_1×Nat=>Yf x0 x1 q.1 q.2) ((replicate x0.length (0:UInt8)),0))
theorem Lq_{σ:ak}{x0:List BSet}{x1:UInt8}(aA:RS σ 4 lD (.slice ay x0.length au) x0){r:T_1}(hh:Jf_ x0 x1=some r):
  Con prog 146 #[.slice ay x0.length au,.int .u8 (x1.toNat:Int)] σ [] (iU (.string (bs r)) σ):=by
 dsimp only [Jf_]at hh;refine cM 27 Tryz.func146 (λw0=> ?_);refine R8 ?_;obtain ⟨u4,hh⟩:=gd hh;refine κ z (mk2 (enc:=qC) (0:UInt8) (λlg kZ=> ?_));refine R10 ?_;refine TC.lk hh () (rgs [(6,2),(13,12)]) (λ⟨kR,gy⟩ _=>([(13,.int .i64 (gy:Int))],[ε 5 1 qC (.slice lg (replicate x0.length (0:UInt8)).length kZ) kR])) (λ⟨kR,_⟩ _=>kR.length=(replicate x0.length (0:UInt8)).length) z (ζ 1 z) ?_;rintro ⟨kR,gy⟩ _ _ z1 hh hR1 xI;dsimp only [Yf]at hh xI ⊢;refine ξ 0 z (λhb113=> ?_);refine R5 ?_;refine ι z hh (λmJ hh=> ?_) (λmJ hh=> ?_)
 ·refine R1 ?_;refine TC.cutG (α:=(T_1)×(Unit)) (rgs [(6,2),(15,9)]) (λg=>[]) (λg=>[ε 5 1 qC (.slice lg (replicate x0.length (0:UInt8)).length kZ) g.1]) (λg=>σ) (λg=>Hv_ gy g.1=some z1/\g.1.length=(replicate x0.length (0:UInt8)).length) ?_ (λg j hg=> ?_)
  ·refine R6 ?_;refine TL.al (λtV=> ?_);refine R7 ?_;refine κ z (eG (qy_ _ (nth x0 gy BSet.zero) x1.toNat (BSet.isOk _) (UInt8.toNat_lt _)) z z xd_ z z z ?_);refine R1 ?_;refine TC.cB z hh (λh119 hh=> ?_) (λh119 hh=> ?_)
   ·refine R3 ?_;obtain ⟨u21,hh⟩:=gd hh;refine TL.iS 1 z (λhs120=> ?_);refine TL.w z iN (φ 1 z z ?_);have J4:(kR.set gy (1:UInt8)).length=(replicate x0.length (0:UInt8)).length:=by rw [eX];exact xI
    refine κ z (qp (1:UInt8) z sz5 z z z z oc_ yo_ (by omega) (by omega) ?_);refine R1 ?_;exact cf ((kR.set gy (1:UInt8)),()) ⟨hh,J4⟩ (ζ 1 z)
   refine R1 ?_;exact cf (kR,()) ⟨hh,xI⟩ (ψ [1] 1)
  obtain ⟨l115,_⟩:=g;obtain ⟨hh,Gl⟩:=hg
  try dsimp only at Gl ⊢
  dsimp only [Hv_]at hh;refine ξ 0 z (λTN=> ?_);refine R4 ?_;exact nk hR1 hh () (ζ 1 z) Gl
 refine R1 ?_;replace hh:=bF hR1 hh;refine R4 ?_;refine TL.iS 0 z (λJz=> ?_);refine TL.w z (bx_ (l:=kR) z underlying84 DC vU z Jz (λw hw=>rdb_row (q:=0) z hw)) (R2 ?_);refine TC.rt 0 ?_;obtain rfl:=so hh;exact rq [4] ⟨z,z,z⟩
def F8_(jh:Nat)(m125:FM T_1 Int)(fG:List BSet)(uG:Int):Option (((FM T_1 Int)×(List BSet)×Nat)⊕((List BSet)×Int)):=
 grd (0<=uG/\uG<(fG.length:Int)) (grd ([(kH (jh:Int))].length<=1000000000000) (bnd (Ui (nth fG uG.toNat BSet.zero) (BSet.ofL [(kH (jh:Int))])) (λv52=>grd (0<=uG/\uG<(fG.length:Int)) (nxt (m125,(fG.set uG.toNat v52),(jh+1))))))
def Yj(x0:List BSet)(vY:FM T_1 Int)(aX:List BSet)(jh:Nat):Option (((FM T_1 Int)×(List BSet)×Nat)⊕((List BSet)×Int)):=
 aI (decide ((jh:Int)<256)) (bnd (Jf_ x0 (kH (jh:Int))) (λv18=>aI (!(vY.has v18)) (grd ((aX.length+[BSet.zero].length) * 32<=140737488355328) (F8_ jh (vY.put v18 (aX.length:Int)) (aX++[BSet.zero]) (aX.length:Int))) (F8_ jh vY aX (vY.get v18 0)))) (fin (some (aX,0)))
def Ik_(x0:List BSet):Option ((List BSet)×Int):=
 aI (decide (1024<(x0.length:Int))) (some (([]:List BSet),2)) (aV (λq:(FM T_1 Int)×(List BSet)×Nat=>Yj x0 q.1 q.2.1 q.2.2) ((FM.emp:FM T_1 Int),([]:List BSet),0))
def Ii_(σ:ak)(r:(List BSet)×Int):Value->ak->List Res->Prop:=λv σ' H'=>
 ∃a1 c1,v= .tuple #[.slice a1 r.1.length c1,.int .i64 r.2]/\RS σ' 4 lD (.slice a1 r.1.length c1) r.1/\H'=[]
theorem Lc_{σ:ak}{x0:List BSet}(aA:RS σ 4 lD (.slice ay x0.length au) x0){r:(List BSet)×Int}(hh:Ik_ x0=some r):
  Con prog 83 #[.slice ay x0.length au] σ [] (Ii_ σ r):=by
 dsimp only [Ik_]at hh;refine cM 52 Tryz.func83 (λw0=> ?_);refine R12 ?_;refine ι z hh (λiR hh=> ?_) (λiR hh=> ?_)
 ·refine R5 ?_;refine θ ?_;obtain rfl:=so hh;exact rq [2,3] ⟨none,0,z,(RS.nilF _ lD EN),z⟩
 refine R3 ?_;refine κ z (bd_ (enc:=pq) (encV:=lN) z z z (λLW=> ?_));refine R12 ?_;refine TC.nilS 47 4 lD (TC.lp hh (nO,oO) (rgs [(5,5),(14,37)]) (λ⟨vY,aX,jh⟩ ⟨a119,iV⟩=>([(5,.slice a119 aX.length iV),(14,.int .i64 (jh:Int))],[Res.mapB pq lN (some LW) vY,ε 47 4 lD (.slice a119 aX.length iV) aX])) (ψ [1] 2) ?_);rintro ⟨vY,aX,jh⟩ ⟨a119,iV⟩ _ z1 hh hR1;dsimp only [Yj]at hh ⊢;refine ξ 1 z (λhb123=> ?_);refine R5 ?_;refine ι z hh (λLj hh=> ?_) (λLj hh=> ?_)
 ·refine R12 ?_;refine TL.w z (Nk z zV DC z) ?_;obtain ⟨v18,Jb,hh⟩:=bQ hh;refine κ z (eG (Lq_ aA Jb) z z pf146 z z z ?_);refine R6 ?_;refine TL.w z (OpVal.of (cx_ 0 (q:=v18) z Ir Fh z (i:=0) z z (Rk vU)) (v':= .tuple #[.int .i64 (vY.get v18 0),.bool (vY.has v18)]) z) (R6 ?_);refine TC.cutG (α:=((FM T_1 Int)×(List BSet)×Int)×((Option Addr)×Nat)) (rgs [(5,1),(8,1),(27,11)]) (λg=>[(5,.slice g.2.1 g.1.2.1.length g.2.2),(8,.int .i64 g.1.2.2)]) (λg=>[Res.mapB pq lN (some LW) g.1.1,ε 47 4 lD (.slice g.2.1 g.1.2.1.length g.2.2) g.1.2.1]) (λg=>σ) (λg=>F8_ jh g.1.1 g.1.2.1 g.1.2.2=some z1) ?_ (λg j hg=> ?_)
  ·refine R5 ?_;refine TC.cB z hh (λiQ hh=> ?_) (λiQ hh=> ?_)
   ·refine R11 ?_;refine κ z (updB v18 (aX.length:Int) z Ir z z z z (Rk vU) ?_);refine R3 ?_;refine TL.w z (XQ z D8 ug Fq z) (κ z (gX (enc:=lD) [BSet.zero] (λa131 uT=> ?_)));refine φ 2 z z ?_;obtain ⟨u40,hh⟩:=gd hh;refine κ z (apF (.inr ⟨_,0,z⟩) u40 (λDy Dk=> ?_));refine R2 ?_;exact cf (((vY.put v18 (aX.length:Int)),(aX++[BSet.zero]),(aX.length:Int)),(Dy,Dk)) hh (ψ [2] 2)
   refine R1 ?_;exact cf ((vY,aX,(vY.get v18 0)),(a119,iV)) hh (ψ [1,1] 2)
  obtain ⟨⟨m125,fG,uG⟩,⟨a127,uU⟩⟩:=g;have hh:=hg;clear hg
  try dsimp only
  dsimp only [F8_]at hh;refine ξ 1 z (λKY=> ?_);obtain ⟨u46,hh⟩:=gd hh;obtain ⟨u51,hh⟩:=gd hh;obtain ⟨v52,u52,hh⟩:=bQ hh;obtain ⟨u53,hh⟩:=gd hh;refine TC.draw [12] (by kernel_rfl) (ν 0 z mS z (ν 1 z mI z (ν 2 z mS z (ν 3 z mI z (TA.isSl (i:=1) z (λhs143 _ _=> ?_))))));refine Δ 4 z iX z (Δ 5 z oT z (ν 6 z mI z (ν 7 z (Nk z zV DC z) z (Φ 8 z (gX (enc:=qC) [(kH (jh:Int))] (λa144 c145=>(k1 ?_)))))));refine Φ 9 z (Nj (rv_ _ _ _ [(kH (jh:Int))] u51) z z Jl z z z z (k0 ?_));refine Φ 10 z (eG (Jm_ u52) z z Jo z z z (k0 ?_));refine TA.isSl (i:=1) z (λhs147 _ _=> ?_);refine Δ 11 z iX z (Θ 1 z z ?_);have Gi:(fG.set uG.toNat v52).length=fG.length:=by rw [eX]
  refine TA.last 12 (by kernel_rfl) z z z (qp v52 z D6 z z z z EN pp_ (by omega) (by omega) ?_);refine R4 ?_;rw [<-Gi];refine R1 ?_;exact nx hR1 hh (a127,uU) (ψ [1] 2)
 refine R1 ?_;replace hh:=bF hR1 hh;refine R7 ?_;refine TC.front 1 z z (TC.iw EN (λτ152 hle151 hr150=> ?_));refine TC.rt 0 ?_;obtain rfl:=so hh;exact rq [2,3] ⟨a119,iV,z,hr150,z⟩
def F6_(pO:Nat)(l149:aj):Option ((aj×Nat)⊕((aj×Int×Nat)⊕(aj×Int))):=
 nxt (l149,(pO+1))
def Fb(x0:List BSet)(jK:Nat)(v29:UInt8×Bool)(eu:aj)(pO:Nat):Option ((aj×Nat)⊕((aj×Int×Nat)⊕(aj×Int))):=
 aI (decide ((pO:Int)<256)) (aI (!((nth x0 jK BSet.zero).has (kH (pO:Int)).toNat)) (F6_ pO eu) (grd (pO<eu.length) (aI (decide (0<=(nth eu pO 0))) (fin (fin (some (([]:aj),1)))) (grd (pO<eu.length) (F6_ pO (eu.set pO (jK:Int))))))) (fin (nxt (eu,(v29.1.toNat:Int),(jK+1))))
def Fa(kF:aj)(rC:Nat):Option ((Nat)⊕(aj×Int)):=
 aI (decide ((rC:Int)<((replicate 256 (0:Int)).length:Int))) (grd (rC<kF.length) (aI (decide ((nth kF rC 0)<0)) (fin (some (([]:aj),1))) (nxt (rC+1)))) (fin (some (kF,0)))
def Gw(x0:List BSet)(kF:aj)(uG:Int)(jK:Nat):Option ((aj×Int×Nat)⊕(aj×Int)):=
 aI (decide ((jK:Int)<(x0.length:Int))) (bnd (MI (nth x0 jK BSet.zero)) (λv29=>aI (!v29.2) (fin (some (([]:aj),1))) (aI (decide ((v29.1.toNat:Int)<=uG)) (fin (some (([]:aj),1))) (aV (λq:aj×Nat=>Fb x0 jK v29 q.1 q.2) (kF,0))))) (fin (aV (λq:Nat=>Fa kF q) 0))
def IG(x0:List BSet)(kR:aj)(gy:Nat):Option ((aj×Nat)⊕(aj×Int)):=
 aI (decide ((gy:Int)<((replicate 256 (0:Int)).length:Int))) (grd (gy<kR.length) (nxt ((kR.set gy (-1)),(gy+1)))) (fin (aV (λq:aj×Int×Nat=>Gw x0 q.1 q.2.1 q.2.2) (kR,(-1),0)))
def Yi(x0:List BSet):Option (aj×Int):=
 aV (λq:aj×Nat=>IG x0 q.1 q.2) ((replicate 256 (0:Int)),0)
def Jc_(σ:ak)(r:aj×Int):Value->ak->List Res->Prop:=λv σ' H'=>
 ∃a1 c1,v= .tuple #[.slice a1 r.1.length c1,.int .i64 r.2]/\dV σ' aB a1 c1 r.1/\H'=[]
theorem Lf_{σ:ak}{x0:List BSet}(hgl:GT σ 0 qC deB)(aA:RS σ 4 lD (.slice ay x0.length au) x0){r:aj×Int}(hh:Yi x0=some r):
  Con prog 85 #[.slice ay x0.length au] σ [] (Jc_ σ r):=by
 dsimp only [Yi]at hh;have f0_0b:=aA.rv.big;refine cM 75 Tryz.func85 (λw0=> ?_);refine R7 ?_;refine κ z (IC (m:=256) (enc:=aB) (0:Int) z yT lG T_ Fh z z z z (by omega) (by decide) aW (by decide) z vX (λlg kZ=> ?_));refine R10 ?_;refine TC.lk hh () (rgs [(5,1),(17,7)]) (λ⟨kR,gy⟩ _=>([(17,.int .i64 (gy:Int))],[ε 3 1 aB (.slice lg (replicate 256 (0:Int)).length kZ) kR])) (λ⟨kR,_⟩ _=>kR.length=(replicate 256 (0:Int)).length) z (ζ 1 z) ?_;rintro ⟨kR,gy⟩ _ _ z1 hh hR1 xI;dsimp only [IG]at hh xI ⊢;refine ξ 0 z (λhb113=> ?_);refine R5 ?_;refine ι z hh (λmJ hh=> ?_) (λmJ hh=> ?_)
 ·refine R11 ?_;obtain ⟨u13,hh⟩:=gd hh;refine TL.iS 0 z (λhs115=> ?_);refine TL.w z iN ?_;have Gl:(kR.set gy (-1)).length=(replicate 256 (0:Int)).length:=by rw [eX];exact xI
  refine κ z (qp (-1) z lG z z z z aW vX (by omega) (by omega) ?_);refine R5 ?_;exact nk hR1 hh () (ζ 1 z) Gl
 refine R1 ?_;replace hh:=bF hR1 hh;refine R13 ?_;refine TC.lk hh () (rgs [(2,2),(6,6),(26,39)]) (λ⟨kF,uG,jK⟩ _=>([(6,.int .i64 uG),(26,.int .i64 (jK:Int))],[ε 3 1 aB (.slice lg (replicate 256 (0:Int)).length kZ) kF])) (λ⟨kF,_,_⟩ _=>kF.length=(replicate 256 (0:Int)).length) xI (ζ 1 z) ?_;rintro ⟨kF,uG,jK⟩ _ _ z1 hh hR1 qW;dsimp only [Gw]at hh qW ⊢;refine ξ 0 z (λK_=> ?_);refine R5 ?_;refine ι z hh (λEJ hh=> ?_) (λEJ hh=> ?_)
 ·refine R8 ?_;refine TL.al (λb133=> ?_);refine R6 ?_;obtain ⟨v29,u29,hh⟩:=bQ hh;refine κ z (eG (Ke_ hgl u29) z z pf96 z z z ?_);refine R12 ?_;refine Γ 38 z (λuM=> ?_) (λuM=> ?_)
  ·replace hh:=nT uM hh;refine R12 ?_;refine TC.rt 0 ?_;replace hh:=bF hR1 hh;obtain rfl:=so hh;exact rq [2,3] ⟨none,0,z,(RS.nilF _ aB aW),z⟩
  replace hh:=nS uM hh;refine TL.g z mI (TL.g z (dl_ z DC zV z (by have:=UInt8.toNat_lt v29.1;simp only [zG];omega)) (R4 ?_));refine ι z hh (λx9 hh=> ?_) (λx9 hh=> ?_)
  ·refine R5 ?_;refine TC.rt 0 ?_;replace hh:=bF hR1 hh;obtain rfl:=so hh;exact rq [2,3] ⟨none,0,z,(RS.nilF _ aB aW),z⟩
  refine R4 ?_;refine TL.w z (dl_ z DC zV z (by have:=UInt8.toNat_lt v29.1;simp only [zG];omega)) (R7 ?_);refine TC.lk hh () (rgs [(2,2),(11,1),(46,18)]) (λ⟨eu,pO⟩ _=>([(46,.int .i64 (pO:Int))],[ε 3 1 aB (.slice lg (replicate 256 (0:Int)).length kZ) eu,ω b133 (setA (nth x0 jK BSet.zero)) 47])) (λ⟨eu,_⟩ _=>eu.length=(replicate 256 (0:Int)).length) qW (ψ [1] 2) ?_;rintro ⟨eu,pO⟩ _ _ z2 hh hR2 Gj;dsimp only [Fb]at hh Gj ⊢;refine ξ 0 z (λTI=> ?_);refine R5 ?_;refine ι z hh (λh148 hh=> ?_) (λh148 hh=> ?_)
  ·refine R1 ?_;refine TC.cutG (α:=(aj)×(Unit)) (rgs [(2,2),(11,1),(48,15)]) (λg=>[]) (λg=>[ε 3 1 aB (.slice lg (replicate 256 (0:Int)).length kZ) g.1,ω b133 (setA (nth x0 jK BSet.zero)) 47]) (λg=>σ) (λg=>F6_ pO g.1=some z2/\g.1.length=(replicate 256 (0:Int)).length) ?_ (λg j hg=> ?_)
   ·refine R11 ?_;refine TL.w z (Nk z zV DC z) (κ z (eG (qy_ _ (nth x0 jK BSet.zero) (kH (pO:Int)).toNat (BSet.isOk _) (UInt8.toNat_lt _)) z z xd_ z z z ?_));refine R2 ?_;refine TC.cB z hh (λh151 hh=> ?_) (λh151 hh=> ?_)
    ·refine R2 ?_;exact cf (eu,()) ⟨hh,Gj⟩ (ψ [1,1] 2)
    refine R6 ?_;obtain ⟨u59,hh⟩:=gd hh;refine TL.iS 0 z (λhs152=> ?_);refine R4 ?_;refine ι z hh (λLd hh=> ?_) (λLd hh=> ?_)
    ·refine R5 ?_;refine TC.rt 0 ?_;replace hh:=bF hR2 hh;replace hh:=bF hR1 hh;obtain rfl:=so hh;exact rq [2,3] ⟨none,0,z,(RS.nilF _ aB aW),z⟩
    refine R5 ?_;obtain ⟨u67,hh⟩:=gd hh;refine TL.iS 0 z (λhs154=> ?_);refine TL.w z iN ?_;have hn155:(eu.set pO (jK:Int)).length=(replicate 256 (0:Int)).length:=by rw [eX];exact Gj
    refine κ z (qp (jK:Int) z lG z z z z aW vX (by omega) (by omega) ?_);refine R1 ?_;exact cf ((eu.set pO (jK:Int)),()) ⟨hh,hn155⟩ (ψ [1,1] 2)
   obtain ⟨l149,_⟩:=g;obtain ⟨hh,pV⟩:=hg
   try dsimp only at pV ⊢
   dsimp only [F6_]at hh;refine ξ 0 z (λKU=> ?_);refine R4 ?_;exact nk hR2 hh () (ψ [1,1] 2) pV
  refine R1 ?_;replace hh:=bF hR2 hh;refine R5 ?_;exact nk hR1 hh () (ζ 1 z) Gj
 refine R1 ?_;replace hh:=bF hR1 hh;refine R9 ?_;refine TC.lk hh () (rgs [(2,2),(13,1),(67,7)]) (λrC _=>([(67,.int .i64 (rC:Int))],[ε 3 1 aB (.slice lg (replicate 256 (0:Int)).length kZ) kF])) (λ_ _=>kF.length=(replicate 256 (0:Int)).length) qW (ζ 1 z) ?_;rintro rC _ _ z1 hh hR1 vH;dsimp only [Fa]at hh vH ⊢;refine ξ 0 z (λhb166=> ?_);refine R5 ?_;refine ι z hh (λXc hh=> ?_) (λXc hh=> ?_)
 ·refine R5 ?_;obtain ⟨u77,hh⟩:=gd hh;refine TL.iS 0 z (λhs168=> ?_);refine R9 ?_;refine ι z hh (λh169 hh=> ?_) (λh169 hh=> ?_)
  ·refine R5 ?_;refine TC.rt 0 ?_;replace hh:=bF hR1 hh;obtain rfl:=so hh;exact rq [2,3] ⟨none,0,z,(RS.nilF _ aB aW),z⟩
  refine R5 ?_;exact nk hR1 hh () (ζ 1 z) vH
 refine R1 ?_;replace hh:=bF hR1 hh;refine R7 ?_;rw [<-vH];refine TC.iw aW (λτ173 Kw Ce=> ?_);have hr171b:=Ce.rv.big;refine θ ?_;obtain rfl:=so hh;exact rq [2,3] ⟨lg,kZ,z,Ce,z⟩
def Gv_(x0:aj)(cZ:Nat)(bG:List BSet):Option (((List BSet)×Nat)⊕((List BSet)×Int)):=
 grd (0<=(nth x0 cZ 0)/\(nth x0 cZ 0)<(bG.length:Int)) (grd ([(kH (cZ:Int))].length<=1000000000000) (bnd (Ui (nth bG ((nth x0 cZ 0).toNat) BSet.zero) (BSet.ofL [(kH (cZ:Int))])) (λv47=>grd (0<=(nth x0 cZ 0)/\(nth x0 cZ 0)<(bG.length:Int)) (nxt ((bG.set ((nth x0 cZ 0).toNat) v47),(cZ+1))))))
def Uo(x0:aj)(ni:List BSet)(cZ:Nat):Option (((List BSet)×Nat)⊕((List BSet)×Int)):=
 aI (decide ((cZ:Int)<(x0.length:Int))) (aI (decide ((nth x0 cZ 0)<0)) (fin (some (([]:List BSet),1))) (aI (decide ((ni.length:Int)<(nth x0 cZ 0))) (fin (some (([]:List BSet),1))) (aI (decide ((nth x0 cZ 0)=(ni.length:Int))) (grd ((ni.length+[BSet.zero].length) * 32<=140737488355328) (Gv_ x0 cZ (ni++[BSet.zero]))) (Gv_ x0 cZ ni)))) (fin (some (ni,0)))
def Ia_(x0:aj):Option ((List BSet)×Int):=
 aI (decide ((x0.length:Int)≠256)) (some (([]:List BSet),1)) (aV (λq:(List BSet)×Nat=>Uo x0 q.1 q.2) (([]:List BSet),0))
theorem Lj_{σ:ak}{x0:aj}(aA:dV σ aB ay au x0){r:(List BSet)×Int}(hh:Ia_ x0=some r):
  Con prog 124 #[.slice ay x0.length au] σ [] (Ii_ σ r):=by
 dsimp only [Ia_]at hh;refine cM 47 Tryz.func124 (λw0=> ?_);refine R12 ?_;refine ι z hh (λiR hh=> ?_) (λiR hh=> ?_)
 ·refine R5 ?_;refine θ ?_;obtain rfl:=so hh;exact rq [2,3] ⟨none,0,z,(RS.nilF _ lD EN),z⟩
 refine R13 ?_;refine TC.nilS 47 4 lD (TC.lp hh (nO,oO) (rgs [(2,5),(12,34)]) (λ⟨ni,cZ⟩ ⟨qO,qK⟩=>([(4,.slice qO ni.length qK),(12,.int .i64 (cZ:Int))],[ε 47 4 lD (.slice qO ni.length qK) ni])) (ζ 1 z) ?_);rintro ⟨ni,cZ⟩ ⟨qO,qK⟩ _ z1 hh hR1;dsimp only [Uo]at hh ⊢;refine ξ 0 z (λhb118=> ?_);refine R5 ?_;refine ι z hh (λh119 hh=> ?_) (λh119 hh=> ?_)
 ·refine R17 ?_;refine Γ 19 z (λqj=> ?_) (λqj=> ?_)
  ·obtain ⟨qj,hh⟩:=iT qj hh;refine R12 ?_;refine TC.rt 0 ?_;replace hh:=bF hR1 hh;obtain rfl:=so hh;exact rq [2,3] ⟨none,0,z,(RS.nilF _ lD EN),z⟩
  obtain ⟨qj,hh⟩:=iF qj hh;refine R6 ?_;refine ι z hh (λyg hh=> ?_) (λyg hh=> ?_)
  ·refine R5 ?_;refine TC.rt 0 ?_;replace hh:=bF hR1 hh;obtain rfl:=so hh;exact rq [2,3] ⟨none,0,z,(RS.nilF _ lD EN),z⟩
  refine R1 ?_;refine TC.cutG (α:=((List BSet))×((Option Addr)×Nat)) (rgs [(4,1),(25,8)]) (λg=>[(4,.slice g.2.1 g.1.length g.2.2)]) (λg=>[ε 47 4 lD (.slice g.2.1 g.1.length g.2.2) g.1]) (λg=>σ) (λg=>Gv_ x0 cZ g.1=some z1) ?_ (λg j hg=> ?_)
  ·refine R7 ?_;refine ι z hh (λEK hh=> ?_) (λEK hh=> ?_)
   ·refine R2 ?_;refine TL.w z (XQ z D8 ug Fq z) (κ z (gX (enc:=lD) [BSet.zero] (λyG c127=> ?_)));refine φ 1 z z ?_;obtain ⟨u35,hh⟩:=gd hh;refine κ z (apF (.inr ⟨_,0,z⟩) u35 (λa129 c130=> ?_));refine R2 ?_;exact cf ((ni++[BSet.zero]),(a129,c130)) hh (ζ 1 z)
   refine R1 ?_;exact cf (ni,(qO,qK)) hh (ζ 1 z)
  obtain ⟨bG,⟨a123,c124⟩⟩:=g;have hh:=hg;clear hg
  try dsimp only
  dsimp only [Gv_]at hh;refine ξ 0 z (λK_=> ?_);obtain ⟨u41,hh⟩:=gd hh;obtain ⟨u46,hh⟩:=gd hh;obtain ⟨v47,DX,hh⟩:=bQ hh;obtain ⟨u48,hh⟩:=gd hh;refine TC.draw [12] (by kernel_rfl) (ν 0 z mS z (ν 1 z mI z (ν 2 z mS z (ν 3 z mI z (TA.isSl (i:=0) z (λhs138 _ _=> ?_))))));refine Δ 4 z iX z (Δ 5 z oT z (ν 6 z mI z (ν 7 z (Nk z zV DC z) z (Φ 8 z (gX (enc:=qC) [(kH (cZ:Int))] (λa139 nM=>(k1 ?_)))))));refine Φ 9 z (Nj (rv_ _ _ _ [(kH (cZ:Int))] u46) z z Jl z z z z (k0 ?_));refine Φ 10 z (eG (Jm_ DX) z z Jo z z z (k0 ?_));refine TA.isSl (i:=0) z (λhs142 _ _=> ?_);refine Δ 11 z iX z ?_;have hn143:(bG.set ((nth x0 cZ 0).toNat) v47).length=bG.length:=by rw [eX]
  refine TA.last 12 (by kernel_rfl) z z z (qp v47 z D6 z z z z EN pp_ (by omega) (by omega) ?_);refine R4 ?_;rw [<-hn143];refine R1 ?_;exact nx hR1 hh (a123,c124) (ζ 1 z)
 refine R1 ?_;replace hh:=bF hR1 hh;refine R7 ?_;refine TC.iw EN (λτ147 hle146 hr145=> ?_);refine θ ?_;obtain rfl:=so hh;exact rq [2,3] ⟨qO,qK,z,hr145,z⟩
def Gu_(x0:Dfa)(bZ:Nat)(cZ:Nat):Option ((Nat)⊕((Nat)⊕(Int))):=
 aI (decide ((cZ:Int)<((nth x0.next bZ []).length:Int))) (aI (decide ((nth (nth x0.next bZ []) cZ 0)<0)) (fin (fin (some 1))) (aI (decide ((x0.next.length:Int)<=(nth (nth x0.next bZ []) cZ 0))) (fin (fin (some 1))) (nxt (cZ+1)))) (fin (nxt (bZ+1)))
def Go_(x0:Dfa)(v5:(List BSet)×Int)(bZ:Nat):Option ((Nat)⊕(Int)):=
 aI (decide ((bZ:Int)<(x0.next.length:Int))) (aI (decide (((nth x0.next bZ []).length:Int)≠(v5.1.length:Int))) (fin (some 1)) (aV (λq:Nat=>Gu_ x0 bZ q) 0)) (fin (some 0))
def Uj(x0:Dfa):Option (Int):=
 bnd (Ia_ x0.cls) (λv5=>aI (decide (v5.2≠0)) (some 1) (aI (decide ((x0.next.length:Int)<1)) (some 1) (aI (decide (1024<(x0.next.length:Int))) (some 1) (aI (decide ((x0.fin.length:Int)≠(x0.next.length:Int))) (some 1) (aV (λq:Nat=>Go_ x0 v5 q) 0)))))
theorem Hz_{σ:ak}{x0:Dfa}(aA:dV σ aB ay au x0.cls)(aG:RZ σ (bH 1 aB aW) (.slice aC x0.next.length aJ) x0.next)(aH:dV σ dL aK aF x0.fin){r:Int}(hh:Uj x0=some r):
  Con prog 59 #[.agg #[.slice ay x0.cls.length au,.slice aC x0.next.length aJ,.slice aK x0.fin.length aF]] σ [] (iU (.int .i64 r) σ):=by
 dsimp only [Uj]at hh;refine cM 63 Tryz.func59 (λw0=> ?_);refine R2 ?_;refine TL.bx (λaS=> ?_);refine R6 ?_;obtain ⟨v5,u5,hh⟩:=bQ hh;refine κ z (OpOk.call (Lj_ aA u5) z z pf124 z z z z ?_);rintro _ τ103 _ EI ⟨a103_1,c103_1,rfl,hr103_0,rfl⟩;replace aG:=aG.mono EI;refine X_ ?_;refine Γ 21 z (λdS=> ?_) (λdS=> ?_)
 ·obtain ⟨dS,hh⟩:=iT dS hh;refine R20 ?_;refine TC.iH (ζ 0 z) (TC.back (θ ?_));obtain rfl:=so hh;exact rq [2] ⟨z,z,z⟩
 obtain ⟨dS,hh⟩:=iF dS hh;refine R4 ?_;refine Γ 25 z (λbM=> ?_) (λbM=> ?_)
 ·obtain ⟨bM,hh⟩:=iT bM hh;refine R16 ?_;refine TC.iH (ζ 0 z) (TC.back (θ ?_));obtain rfl:=so hh;exact rq [2] ⟨z,z,z⟩
 obtain ⟨bM,hh⟩:=iF bM hh;refine R4 ?_;refine Γ 29 z (λdH=> ?_) (λdH=> ?_)
 ·obtain ⟨dH,hh⟩:=iT dH hh;refine R12 ?_;refine TC.iH (ζ 0 z) (TC.back (θ ?_));obtain rfl:=so hh;exact rq [2] ⟨z,z,z⟩
 obtain ⟨dH,hh⟩:=iF dH hh;refine R7 ?_;refine ι z hh (λfB hh=> ?_) (λfB hh=> ?_)
 ·refine R4 ?_;refine TC.iH (ζ 0 z) (TC.back (θ ?_));obtain rfl:=so hh;exact rq [2] ⟨z,z,z⟩
 refine R10 ?_;refine TC.lp hh () (rgs [(2,1),(7,1),(9,1),(39,24)]) (λbZ _=>([(39,.int .i64 (bZ:Int))],[])) (ζ 0 z) ?_;rintro bZ _ _ z1 hh hR1;dsimp only [Go_]at hh ⊢;refine R5 ?_;refine ι z hh (λgI hh=> ?_) (λgI hh=> ?_)
 ·refine R6 ?_;obtain ⟨zY,zL,KQ⟩:=RZ.seg aG bZ (by omega);replace zL:dV _ aB zY.1 zY.2 (nth x0.next bZ []):=zL;have hk112b:=zL.rv.big;refine TL.w z (OpVal.of (wP z oV z KQ z) (v':= .slice zY.1 ((nth x0.next bZ []).length) zY.2) z) (R11 ?_);refine ι z hh (λuP hh=> ?_) (λuP hh=> ?_)
  ·refine R4 ?_;refine TC.back (θ ?_);replace hh:=bF hR1 hh;obtain rfl:=so hh;exact rq [2] ⟨z,z,z⟩
  refine R8 ?_;refine TC.lp hh () (rgs [(2,1),(9,1),(50,12)]) (λcZ _=>([(50,.int .i64 (cZ:Int))],[])) (ζ 0 z) ?_;rintro cZ _ _ z2 hh hR2;dsimp only [Gu_]at hh ⊢;refine R5 ?_;refine ι z hh (λoG hh=> ?_) (λoG hh=> ?_)
  ·refine R14 ?_;refine Γ 56 z (λiG=> ?_) (λiG=> ?_)
   ·obtain ⟨iG,hh⟩:=iT iG hh;refine R10 ?_;refine TC.back (θ ?_);replace hh:=bF hR2 hh;replace hh:=bF hR1 hh;obtain rfl:=so hh;exact rq [2] ⟨z,z,z⟩
   obtain ⟨iG,hh⟩:=iF iG hh;refine R5 ?_;refine ι z hh (λh119 hh=> ?_) (λh119 hh=> ?_)
   ·refine R4 ?_;refine TC.back (θ ?_);replace hh:=bF hR2 hh;replace hh:=bF hR1 hh;obtain rfl:=so hh;exact rq [2] ⟨z,z,z⟩
   refine R5 ?_;exact nx hR2 hh () (ζ 0 z)
  refine R1 ?_;replace hh:=bF hR2 hh;refine R5 ?_;exact nx hR1 hh () (ζ 0 z)
 refine R1 ?_;replace hh:=bF hR1 hh;refine R5 ?_;refine TC.back (θ ?_);obtain rfl:=so hh;exact rq [2] ⟨z,z,z⟩
def G4_(nD:Nat)(m124:FM BSet Int)(oQ:List BSet):Option (((FM BSet Int)×(List BSet)×Nat)⊕((List BSet))):=
 nxt (m124,oQ,(nD+1))
def Yp(x0:List Arrow)(uo:FM BSet Int)(jD:List BSet)(nD:Nat):Option (((FM BSet Int)×(List BSet)×Nat)⊕((List BSet))):=
 aI (decide ((nD:Int)<(x0.length:Int))) (aI (!(uo.has ((nth x0 nD Arrow.zero).set))) (grd ((jD.length+[(nth x0 nD Arrow.zero).set].length) * 32<=140737488355328) (G4_ nD (uo.put ((nth x0 nD Arrow.zero).set) (jD.length:Int)) (jD++[(nth x0 nD Arrow.zero).set]))) (G4_ nD uo jD)) (fin (some jD))
def Id_(x0:List Arrow):Option ((List BSet)):=
 aV (λq:(FM BSet Int)×(List BSet)×Nat=>Yp x0 q.1 q.2.1 q.2.2) ((FM.emp:FM BSet Int),([]:List BSet),0)
def Lu_(σ:ak)(r:(List BSet)):Value->ak->List Res->Prop:=λv σ' H'=>
 ∃a1 c1,v= .slice a1 r.length c1/\RS σ' 4 lD (.slice a1 r.length c1) r/\H'=[]
theorem Ld_{σ:ak}{x0:List Arrow}(aA:RS σ 6 vW (.slice ay x0.length au) x0){r:(List BSet)}(hh:Id_ x0=some r):
  Con prog 84 #[.slice ay x0.length au] σ [] (Lu_ σ r):=by
 dsimp only [Id_]at hh;have f0_0b:=aA.rv.big;refine cM 37 Tryz.func84 (λw0=> ?_);refine R6 ?_;refine κ z (bd_ (enc:=sK) (encV:=lN) z z z (λaS=> ?_));refine R14 ?_;refine TC.nilS 47 4 lD (TC.lp hh (nO,oO) (rgs [(4,1),(6,3),(12,24)]) (λ⟨uo,jD,nD⟩ ⟨wU,c119⟩=>([(4,.slice wU jD.length c119),(12,.int .i64 (nD:Int))],[Res.mapB sK lN (some aS) uo,ε 47 4 lD (.slice wU jD.length c119) jD])) (ψ [1] 2) ?_);rintro ⟨uo,jD,nD⟩ ⟨wU,c119⟩ _ z1 hh hR1;dsimp only [Yp]at hh ⊢;refine ξ 1 z (λTN=> ?_);refine R5 ?_;refine ι z hh (λh123 hh=> ?_) (λh123 hh=> ?_)
 ·refine R1 ?_;refine TC.cutG (α:=((FM BSet Int)×(List BSet))×((Option Addr)×Nat)) (rgs [(4,1),(6,3),(14,21)]) (λg=>[(4,.slice g.2.1 g.1.2.length g.2.2)]) (λg=>[Res.mapB sK lN (some aS) g.1.1,ε 47 4 lD (.slice g.2.1 g.1.2.length g.2.2) g.1.2]) (λg=>σ) (λg=>G4_ nD g.1.1 g.1.2=some z1) ?_ (λg j hg=> ?_)
  ·refine R5 ?_;refine TL.al (λXL=> ?_);refine R7 ?_;refine TL.w z (OpVal.of (cx_ 0 (q:=(nth x0 nD Arrow.zero).set) z underlying208 Fh z (i:=1) z z (tw_ D8 NI zF ug)) (v':= .tuple #[.int .i64 (uo.get ((nth x0 nD Arrow.zero).set) 0),.bool (uo.has ((nth x0 nD Arrow.zero).set))]) z) (R11 ?_);refine TC.cB z hh (λiQ hh=> ?_) (λiQ hh=> ?_)
   ·refine R7 ?_;refine φ 1 z z (κ z (updB ((nth x0 nD Arrow.zero).set) (jD.length:Int) z underlying208 z z z z (tw_ D8 NI zF ug) ?_));refine R5 ?_;refine κ z (gX (enc:=lD) [(nth x0 nD Arrow.zero).set] (λa131 uT=> ?_));refine φ 3 z z ?_;obtain ⟨u34,hh⟩:=gd hh;refine κ z (apF (.inr ⟨_,0,z⟩) u34 (λDy Dk=> ?_));refine R2 ?_;exact cf (((uo.put ((nth x0 nD Arrow.zero).set) (jD.length:Int)),(jD++[(nth x0 nD Arrow.zero).set])),(Dy,Dk)) hh (ψ [2] 2)
   refine R1 ?_;exact cf ((uo,jD),(wU,c119)) hh (ψ [2,2] 2)
  obtain ⟨⟨m124,oQ⟩,⟨yG,c127⟩⟩:=g;have hh:=hg;clear hg
  try dsimp only
  dsimp only [G4_]at hh;refine ξ 1 z (λKY=> ?_);refine R4 ?_;exact nx hR1 hh (yG,c127) (ψ [1,1] 2)
 refine R1 ?_;replace hh:=bF hR1 hh;refine R6 ?_;refine TC.front 1 z z (TC.iw EN (λτ140 WG RJ=> ?_));have hr138b:=RJ.rv.big;refine TC.rt 0 ?_;obtain rfl:=so hh;exact rq [2] ⟨wU,c119,z,RJ,z⟩
def G3_(gZ:Nat)(l136:aj):Option ((aj×Nat)⊕((aj×Nat)⊕(aj))):=
 nxt (l136,(gZ+1))
def Yo(x0:List (List Arrow))(x1:aj)(f_:Nat)(v4:UInt8×Bool)(dB:aj)(gZ:Nat):Option ((aj×Nat)⊕((aj×Nat)⊕(aj))):=
 aI (decide ((gZ:Int)<((nth x0 ((nth x1 f_ 0).toNat) []).length:Int))) (aI (((nth (nth x0 ((nth x1 f_ 0).toNat) []) gZ Arrow.zero).set).has v4.1.toNat) (grd ((dB.length+[(nth (nth x0 ((nth x1 f_ 0).toNat) []) gZ Arrow.zero).to].length) * 8<=140737488355328) (G3_ gZ (dB++[(nth (nth x0 ((nth x1 f_ 0).toNat) []) gZ Arrow.zero).to]))) (G3_ gZ dB)) (fin (nxt (dB,(f_+1))))
def Yl(x1:aj)(x0:List (List Arrow))(v4:UInt8×Bool)(iJ:aj)(f_:Nat):Option ((aj×Nat)⊕(aj)):=
 aI (decide ((f_:Int)<(x1.length:Int))) (grd (0<=(nth x1 f_ 0)/\(nth x1 f_ 0)<(x0.length:Int)) (aV (λq:aj×Nat=>Yo x0 x1 f_ v4 q.1 q.2) (iJ,0))) (fin (some iJ))
def If_(x0:List (List Arrow))(x1:aj)(x2:BSet):Option (aj):=
 bnd (MI x2) (λv4=>aV (λq:aj×Nat=>Yl x1 x0 v4 q.1 q.2) (([]:aj),0))
theorem K9_{σ:ak}{x0:List (List Arrow)}{x1:aj}{x2:BSet}(hgl:GT σ 0 qC deB)(aA:RZ σ (bH 6 vW ZI) (.slice ay x0.length au) x0)(bU:dV σ aB bW bV x1){r:aj}(hh:If_ x0 x1 x2=some r):
  Con prog 91 #[.slice ay x0.length au,.slice bW x1.length bV,sK x2] σ [] (TV σ r):=by
 dsimp only [If_]at hh;have f1_0b:=bU.rv.big;refine cM 46 Tryz.func91 (λw0=> ?_);refine R2 ?_;refine TL.bx (λaS=> ?_);refine R5 ?_;obtain ⟨v4,u4,hh⟩:=bQ hh;refine κ z (eG (Ke_ hgl u4) z z pf96 z z z ?_);refine R18 ?_;refine TC.nilS 3 1 aB (TC.lp hh (nO,oO) (rgs [(9,1),(11,1),(13,1),(21,24)]) (λ⟨iJ,f_⟩ ⟨zo,c116⟩=>([(9,.slice zo iJ.length c116),(21,.int .i64 (f_:Int))],[dW 3 aB zo c116 iJ])) (ζ 1 z) ?_);rintro ⟨iJ,f_⟩ ⟨zo,c116⟩ _ z1 hh hR1;dsimp only [Yl]at hh ⊢;refine ξ 0 z (λhb119=> ?_);refine R5 ?_;refine ι z hh (λqj hh=> ?_) (λqj hh=> ?_)
 ·refine R13 ?_;obtain ⟨u20,hh⟩:=gd hh;refine TL.w z iX ?_;obtain ⟨Oq,KH,hg121⟩:=RZ.seg aA ((nth x1 f_ 0).toNat) (by omega);replace KH:RS _ 6 vW (.slice Oq.1 (nth x0 ((nth x1 f_ 0).toNat) []).length Oq.2) (nth x0 ((nth x1 f_ 0).toNat) []):=KH;have hk121b:=KH.rv.big;refine TL.w z (OpVal.of (wP z NH z hg121 z) (v':= .slice Oq.1 ((nth x0 ((nth x1 f_ 0).toNat) []).length) Oq.2) z) (R4 ?_);refine TC.lp hh (zo,c116) (rgs [(9,1),(13,1),(30,14)]) (λ⟨dB,gZ⟩ ⟨a131,uT⟩=>([(9,.slice a131 dB.length uT),(30,.int .i64 (gZ:Int))],[dW 3 aB a131 uT dB])) (ζ 1 z) ?_;rintro ⟨dB,gZ⟩ ⟨a131,uT⟩ _ z2 hh hR2;dsimp only [Yo]at hh ⊢;refine ξ 0 z (λKZ=> ?_);refine R5 ?_;refine ι z hh (λuM hh=> ?_) (λuM hh=> ?_)
  ·refine R1 ?_;refine TC.cutG (α:=(aj)×((Option Addr)×Nat)) (rgs [(9,1),(13,1),(32,11)]) (λg=>[(9,.slice g.2.1 g.1.length g.2.2)]) (λg=>[ε 3 1 aB (.slice g.2.1 g.1.length g.2.2) g.1]) (λg=>σ) (λg=>G3_ gZ g.1=some z2) ?_ (λg j hg=> ?_)
   ·refine R5 ?_;refine TL.al (λb139=> ?_);refine R7 ?_;refine κ z (eG (qy_ _ ((nth (nth x0 ((nth x1 f_ 0).toNat) []) gZ Arrow.zero).set) v4.1.toNat (BSet.isOk _) (UInt8.toNat_lt _)) z z xd_ z z z ?_);refine R1 ?_;refine TC.cB z hh (λXf hh=> ?_) (λXf hh=> ?_)
    ·refine R4 ?_;refine κ z (gX (enc:=aB) [(nth (nth x0 ((nth x1 f_ 0).toNat) []) gZ Arrow.zero).to] (λDx c143=> ?_));refine φ 2 z z ?_;obtain ⟨u37,hh⟩:=gd hh;refine κ z (apF (.inr ⟨_,0,z⟩) u37 (λa145 c146=> ?_));refine R2 ?_;exact cf ((dB++[(nth (nth x0 ((nth x1 f_ 0).toNat) []) gZ Arrow.zero).to]),(a145,c146)) hh (ζ 1 z)
    refine R1 ?_;exact cf (dB,(a131,uT)) hh (ψ [1] 1)
   obtain ⟨l136,⟨a137,c138⟩⟩:=g;have hh:=hg;clear hg
   try dsimp only
   dsimp only [G3_]at hh;refine ξ 0 z (λTI=> ?_);refine R4 ?_;exact nx hR2 hh (a137,c138) (ζ 1 z)
  refine R1 ?_;replace hh:=bF hR2 hh;refine R5 ?_;exact nx hR1 hh (a131,uT) (ζ 1 z)
 refine R1 ?_;replace hh:=bF hR1 hh;refine R6 ?_;refine θ ?_;obtain rfl:=so hh;exact rz
def Nu{Sy:Type}(x1:List BSet)(Y:Sy->Int×BSet->Option (Sy×Bool))(jq:Nat)(Vp:Sy):Option ((Nat×Sy)⊕(Sy)):=
 aI (decide ((jq:Int)<(x1.length:Int))) (bnd (Y Vp ((jq:Int),(nth x1 jq BSet.zero))) (λv14=>aI (!v14.2) (fin (some v14.1)) (nxt ((jq+1),v14.1)))) (fin (some Vp))
def Yr{Sy:Type}(Y:Sy->Int×BSet->Option (Sy×Bool))(s0:Sy)(x1:List BSet):Option (Sy):=
 aV (λq:Nat×Sy=>Nu x1 Y q.1 q.2) (0,s0)
theorem Kt_{Sy:Type}{σ:ak}{Y:Sy->Int×BSet->Option (Sy×Bool)}{s0:Sy}{x1:List BSet}(Lp:RS σ 4 lD (.slice cu x1.length b_) x1){r:Sy}(hh:Yr Y s0 x1=some r):
  t2_ prog 151 [loc ig 0] (λ(x:Int×BSet) _ vs=>vs=[.int .i64 x.1,sK x.2]) Y σ [ω ig #[.slice cu x1.length b_] yR] s0 r (λσ' H'=>H'=[ω ig #[.slice cu x1.length b_] yR]):=by
 intro l Z ry0 hY hys;dsimp only [Yr]at hh;have f1_3b:=Lp.rv.big;refine cM 18 Tryz.func151 (λw0=> ?_);refine TC.Uf (R7 ?_);refine TC.zl (α:=(Nat×Sy)×(Res×ak)) (rgs [(3,2),(7,11)]) (λg=>[(7,.int .i64 (g.1.1:Int))]) (λg=>[ω ig #[.slice cu x1.length b_] yR,g.2.1]) (λg=>g.2.2) (λg=>aV (λq:Nat×Sy=>Nu x1 Y q.1 q.2) g.1=some r/\YR Z g.1.2 g.2.2 g.2.1/\ak.le σ g.2.2) (λg=>qI (λq:Nat×Sy=>Nu x1 Y q.1 q.2) g.1) ((0,s0),(ry0,σ)) (ψ [1] 2) z (by repeat (first|exact trivial|refine ⟨z,?_⟩)) ⟨hh,hys,(ak.le.refl _)⟩ (λg1 j1 hg1=> ?_);obtain ⟨⟨jq,Vp⟩,⟨ry113,τ115⟩⟩:=g1;obtain ⟨hh,hy114,dw⟩:=hg1
 try dsimp only at hy114
 dsimp only at dw;replace Lp:=Lp.mono dw
 try dsimp only
 obtain ⟨z1,hh,hR1⟩:=yO hh;dsimp only [Nu]at hh;refine R5 ?_;refine ι z hh (λoG hh=> ?_) (λoG hh=> ?_)
 ·refine R8 ?_;refine TL.al (λLV=> ?_);refine R5 ?_;refine TL.w z (OpVal.mv (.inl z)) (R2 ?_);obtain ⟨v14,u14,hh⟩:=bQ hh;refine φ 2 z z (κ z (callY hY hy114 u14 z z z z z z ?_));rintro τ120 ry120 jL hy120;refine R2 ?_;refine TC.cB z hh (λyg hh=> ?_) (λyg hh=> ?_)
  ·refine TC.iH (ψ [2,1] 2) (θ ?_);replace hh:=bF hR1 hh;obtain rfl:=so hh;refine ⟨_,ψ [1,1] 2,?_⟩;exact rz
  refine R5 ?_;obtain ⟨hh,V9⟩:=wG hR1 hh;exact lf (((jq+1),v14.1),(ry120,τ120)) V9 ⟨hh,hy120,(dw.trans jL)⟩ (ψ [2] 2)
 refine R1 ?_;replace hh:=bF hR1 hh;refine R1 ?_;obtain rfl:=so hh;refine ⟨_,ψ [1] 2,?_⟩;exact rz
def Ht_(x0:List BSet):Option ((List BSet)):=
 some x0
theorem K5_{σ:ak}{x0:List BSet}(aA:RS σ 4 lD (.slice ay x0.length au) x0){r:(List BSet)}(hh:Ht_ x0=some r):
  Con prog 90 #[.slice ay x0.length au] σ [] (λv σ' H'=> ∃br4 Ug TY,v= .func (.func 151) #[] #[loc br4 0]/\RS σ' 4 lD (.slice Ug r.length TY) r/\H'=[ω br4 #[.slice Ug r.length TY] 131]):=by
 dsimp only [Ht_]at hh;refine cM 4 Tryz.func90 (λw0=> ?_);refine R2 ?_;refine κ z (OpOk.box z z z z (λbn=> ?_));refine TL.w z (OpVal.mv (.inr z)) (R3 ?_);refine TL.w z (cz_ z) (TL.w z (b6_ (.inr z) z) (R1 ?_));refine θ ?_;obtain rfl:=so hh;exact rz
end Go.Proofs.YtcfgkcfcddfccaaGreatDoor
end

noncomputable section
namespace Go.Proofs.YtcfgkcfcddfccaaGreatDoor
open Go Go.Shelf
def layI_ren:Go.Shelf.Ren:=⟨fun|6=>188|15=>176|14=>211|28=>206|29=>207|20=>237|21=>238|22=>239|23=>240|24=>241|25=>242|26=>243|27=>244|46=>256|47=>231|48=>232|49=>257|50=>258|57=>265|n=>n,fun|22=>31|24=>3|25=>205|3=>3|39=>181|0=>0|53=>263|55=>45|4=>4|46=>257|45=>256|50=>158|5=>5|9=>9|66=>276|70=>280|76=>293|77=>294|n=>n,fun|n=>n⟩
theorem layI:Go.Proofs.SlLaysF.n6 Tryz.prog layI_ren:={
  mixed:=by kernel_rfl,
  f6:=⟨Tryz.f188.name,by decide,Tryz.func188.trans (congrArg some (by kernel_rfl))⟩,
  f14:=⟨Tryz.f211.name,by decide,Tryz.func211.trans (congrArg some (by kernel_rfl))⟩,
  f15:=Tryz.func176.trans (congrArg some (by kernel_rfl)),
  f20:=⟨Tryz.f237.name,by decide,Tryz.func237.trans (congrArg some (by kernel_rfl))⟩,
  f21:=⟨Tryz.f238.name,by decide,Tryz.func238.trans (congrArg some (by kernel_rfl))⟩,
  f22:=⟨Tryz.f239.name,by decide,Tryz.func239.trans (congrArg some (by kernel_rfl))⟩,
  f23:=⟨Tryz.f240.name,by decide,Tryz.func240.trans (congrArg some (by kernel_rfl))⟩,
  f24:=⟨Tryz.f241.name,by decide,Tryz.func241.trans (congrArg some (by kernel_rfl))⟩,
  f25:=⟨Tryz.f242.name,by decide,Tryz.func242.trans (congrArg some (by kernel_rfl))⟩,
  f26:=⟨Tryz.f243.name,by decide,Tryz.func243.trans (congrArg some (by kernel_rfl))⟩,
  f27:=⟨Tryz.f244.name,by decide,Tryz.func244.trans (congrArg some (by kernel_rfl))⟩,
  f28:=Tryz.func206.trans (congrArg some (by kernel_rfl)),
  f29:=Tryz.func207.trans (congrArg some (by kernel_rfl)),
  f46:=⟨Tryz.f256.name,by decide,Tryz.func256.trans (congrArg some (by kernel_rfl))⟩,
  f47:=Tryz.func231.trans (congrArg some (by kernel_rfl)),
  f48:=Tryz.func232.trans (congrArg some (by kernel_rfl)),
  f49:=⟨Tryz.f257.name,by decide,Tryz.func257.trans (congrArg some (by kernel_rfl))⟩,
  f50:=⟨Tryz.f258.name,by decide,Tryz.func258.trans (congrArg some (by kernel_rfl))⟩,
  f57:=⟨Tryz.f265.name,by decide,Tryz.func265.trans (congrArg some (by kernel_rfl))⟩,
  t0:=Tryz.underlying0,
  a0:=Tryz.isAgg0,
  z0:=Tryz.sizeOf0,
  v0:=Tryz.zeroValue0,
  t3:=Tryz.underlying3,
  a3:=Tryz.isAgg3,
  z3:=Tryz.sizeOf3,
  v3:=Tryz.zeroValue3,
  t4:=Tryz.underlying4,
  a4:=Tryz.isAgg4,
  z4:=Tryz.sizeOf4,
  v4:=Tryz.zeroValue4,
  t5:=Tryz.underlying5,
  a5:=Tryz.isAgg5,
  z5:=Tryz.sizeOf5,
  v5:=Tryz.zeroValue5,
  t9:=Tryz.underlying9,
  a9:=Tryz.isAgg9,
  z9:=Tryz.sizeOf9,
  v9:=Tryz.zeroValue9,
  t22:=Tryz.underlying31,
  a22:=Tryz.isAgg31,
  z22:=Tryz.sizeOf31,
  v22:=Tryz.zeroValue31,
  a24:=Tryz.isAgg3,
  z24:=Tryz.sizeOf3,
  t25:=Tryz.underlying205,
  a25:=Tryz.isAgg205,
  z25:=Tryz.sizeOf205,
  v25:=Tryz.zeroValue205,
  t39:=Tryz.underlying181,
  a39:=Tryz.isAgg181,
  z39:=Tryz.sizeOf181,
  v39:=Tryz.zeroValue181,
  t45:=Tryz.underlying256,
  a45:=Tryz.isAgg256,
  z45:=Tryz.sizeOf256,
  v45:=Tryz.zeroValue256,
  t46:=Tryz.underlying257,
  a46:=Tryz.isAgg257,
  z46:=Tryz.sizeOf257,
  v46:=Tryz.zeroValue257,
  t50:=Tryz.underlying158,
  a50:=Tryz.isAgg158,
  z50:=Tryz.sizeOf158,
  v50:=Tryz.zeroValue158,
  t53:=Tryz.underlying263,
  a53:=Tryz.isAgg263,
  z53:=Tryz.sizeOf263,
  v53:=Tryz.zeroValue263,
  t55:=Tryz.underlying45,
  a55:=Tryz.isAgg45,
  z55:=Tryz.sizeOf45,
  v55:=Tryz.zeroValue45,
  t66:=Tryz.underlying276,
  a66:=Tryz.isAgg276,
  z66:=Tryz.sizeOf276,
  v66:=Tryz.zeroValue276,
  t70:=Tryz.underlying280,
  a70:=Tryz.isAgg280,
  z70:=Tryz.sizeOf280,
  v70:=Tryz.zeroValue280,
  t76:=Tryz.underlying293,
  a76:=Tryz.isAgg293,
  z76:=Tryz.sizeOf293,
  v76:=Tryz.zeroValue293,
  t77:=Tryz.underlying294,
  a77:=Tryz.isAgg294,
  z77:=Tryz.sizeOf294,
  v77:=Tryz.zeroValue294}
def yj_:Go.Shelf.Ren:=⟨fun|6=>188|15=>176|14=>211|28=>206|29=>207|20=>237|21=>238|22=>239|23=>240|24=>241|25=>242|26=>243|27=>244|46=>256|47=>231|48=>232|49=>257|50=>258|57=>265|n=>n,fun|22=>31|24=>3|25=>205|3=>3|39=>181|0=>0|53=>263|55=>45|4=>4|46=>257|45=>256|50=>158|5=>5|9=>9|66=>276|70=>280|76=>293|77=>294|n=>n,fun|n=>n⟩
theorem layI0:Go.Proofs.SlLaysF0.n6 Tryz.prog yj_:={
  mixed:=by kernel_rfl,
  f6:=⟨Tryz.f188.name,by decide,Tryz.func188.trans (congrArg some (by kernel_rfl))⟩,
  f14:=⟨Tryz.f211.name,by decide,Tryz.func211.trans (congrArg some (by kernel_rfl))⟩,
  f15:=Tryz.func176.trans (congrArg some (by kernel_rfl)),
  f20:=⟨Tryz.f237.name,by decide,Tryz.func237.trans (congrArg some (by kernel_rfl))⟩,
  f21:=⟨Tryz.f238.name,by decide,Tryz.func238.trans (congrArg some (by kernel_rfl))⟩,
  f22:=⟨Tryz.f239.name,by decide,Tryz.func239.trans (congrArg some (by kernel_rfl))⟩,
  f23:=⟨Tryz.f240.name,by decide,Tryz.func240.trans (congrArg some (by kernel_rfl))⟩,
  f24:=⟨Tryz.f241.name,by decide,Tryz.func241.trans (congrArg some (by kernel_rfl))⟩,
  f25:=⟨Tryz.f242.name,by decide,Tryz.func242.trans (congrArg some (by kernel_rfl))⟩,
  f26:=⟨Tryz.f243.name,by decide,Tryz.func243.trans (congrArg some (by kernel_rfl))⟩,
  f27:=⟨Tryz.f244.name,by decide,Tryz.func244.trans (congrArg some (by kernel_rfl))⟩,
  f28:=Tryz.func206.trans (congrArg some (by kernel_rfl)),
  f29:=Tryz.func207.trans (congrArg some (by kernel_rfl)),
  f46:=⟨Tryz.f256.name,by decide,Tryz.func256.trans (congrArg some (by kernel_rfl))⟩,
  f47:=Tryz.func231.trans (congrArg some (by kernel_rfl)),
  f48:=Tryz.func232.trans (congrArg some (by kernel_rfl)),
  f49:=⟨Tryz.f257.name,by decide,Tryz.func257.trans (congrArg some (by kernel_rfl))⟩,
  f50:=⟨Tryz.f258.name,by decide,Tryz.func258.trans (congrArg some (by kernel_rfl))⟩,
  f57:=⟨Tryz.f265.name,by decide,Tryz.func265.trans (congrArg some (by kernel_rfl))⟩,
  t0:=Tryz.underlying0,
  a0:=Tryz.isAgg0,
  z0:=Tryz.sizeOf0,
  v0:=Tryz.zeroValue0,
  t3:=Tryz.underlying3,
  a3:=Tryz.isAgg3,
  z3:=Tryz.sizeOf3,
  v3:=Tryz.zeroValue3,
  t4:=Tryz.underlying4,
  a4:=Tryz.isAgg4,
  z4:=Tryz.sizeOf4,
  v4:=Tryz.zeroValue4,
  t5:=Tryz.underlying5,
  a5:=Tryz.isAgg5,
  z5:=Tryz.sizeOf5,
  v5:=Tryz.zeroValue5,
  t9:=Tryz.underlying9,
  a9:=Tryz.isAgg9,
  z9:=Tryz.sizeOf9,
  v9:=Tryz.zeroValue9,
  t22:=Tryz.underlying31,
  a22:=Tryz.isAgg31,
  z22:=Tryz.sizeOf31,
  v22:=Tryz.zeroValue31,
  t25:=Tryz.underlying205,
  a25:=Tryz.isAgg205,
  z25:=Tryz.sizeOf205,
  v25:=Tryz.zeroValue205,
  t39:=Tryz.underlying181,
  a39:=Tryz.isAgg181,
  z39:=Tryz.sizeOf181,
  v39:=Tryz.zeroValue181,
  t45:=Tryz.underlying256,
  a45:=Tryz.isAgg256,
  z45:=Tryz.sizeOf256,
  v45:=Tryz.zeroValue256,
  t46:=Tryz.underlying257,
  a46:=Tryz.isAgg257,
  z46:=Tryz.sizeOf257,
  v46:=Tryz.zeroValue257,
  t50:=Tryz.underlying158,
  a50:=Tryz.isAgg158,
  z50:=Tryz.sizeOf158,
  v50:=Tryz.zeroValue158,
  t53:=Tryz.underlying263,
  a53:=Tryz.isAgg263,
  z53:=Tryz.sizeOf263,
  v53:=Tryz.zeroValue263,
  t55:=Tryz.underlying45,
  a55:=Tryz.isAgg45,
  z55:=Tryz.sizeOf45,
  v55:=Tryz.zeroValue45,
  t66:=Tryz.underlying276,
  a66:=Tryz.isAgg276,
  z66:=Tryz.sizeOf276,
  v66:=Tryz.zeroValue276,
  t70:=Tryz.underlying280,
  a70:=Tryz.isAgg280,
  z70:=Tryz.sizeOf280,
  v70:=Tryz.zeroValue280,
  t76:=Tryz.underlying293,
  a76:=Tryz.isAgg293,
  z76:=Tryz.sizeOf293,
  v76:=Tryz.zeroValue293,
  t77:=Tryz.underlying294,
  a77:=Tryz.isAgg294,
  z77:=Tryz.sizeOf294,
  v77:=Tryz.zeroValue294}
def ye_:Go.Shelf.Ren:=⟨fun|6=>157|15=>176|14=>192|28=>206|29=>207|20=>212|21=>213|22=>214|23=>215|24=>216|25=>217|26=>218|27=>219|46=>245|47=>231|48=>232|49=>246|50=>247|57=>259|n=>n,fun|22=>22|24=>79|25=>162|3=>3|39=>181|0=>0|53=>263|55=>45|4=>4|46=>257|45=>256|50=>158|5=>5|9=>9|66=>276|70=>280|76=>293|77=>294|n=>n,fun|n=>n⟩
theorem layT0:Go.Proofs.SlLaysF0.n6 Tryz.prog ye_:={
  mixed:=by kernel_rfl,
  f6:=⟨Tryz.f157.name,by decide,Tryz.func157.trans (congrArg some (by kernel_rfl))⟩,
  f14:=⟨Tryz.f192.name,by decide,Tryz.func192.trans (congrArg some (by kernel_rfl))⟩,
  f15:=Tryz.func176.trans (congrArg some (by kernel_rfl)),
  f20:=⟨Tryz.f212.name,by decide,Tryz.func212.trans (congrArg some (by kernel_rfl))⟩,
  f21:=⟨Tryz.f213.name,by decide,Tryz.func213.trans (congrArg some (by kernel_rfl))⟩,
  f22:=⟨Tryz.f214.name,by decide,Tryz.func214.trans (congrArg some (by kernel_rfl))⟩,
  f23:=⟨Tryz.f215.name,by decide,Tryz.func215.trans (congrArg some (by kernel_rfl))⟩,
  f24:=⟨Tryz.f216.name,by decide,Tryz.func216.trans (congrArg some (by kernel_rfl))⟩,
  f25:=⟨Tryz.f217.name,by decide,Tryz.func217.trans (congrArg some (by kernel_rfl))⟩,
  f26:=⟨Tryz.f218.name,by decide,Tryz.func218.trans (congrArg some (by kernel_rfl))⟩,
  f27:=⟨Tryz.f219.name,by decide,Tryz.func219.trans (congrArg some (by kernel_rfl))⟩,
  f28:=Tryz.func206.trans (congrArg some (by kernel_rfl)),
  f29:=Tryz.func207.trans (congrArg some (by kernel_rfl)),
  f46:=⟨Tryz.f245.name,by decide,Tryz.func245.trans (congrArg some (by kernel_rfl))⟩,
  f47:=Tryz.func231.trans (congrArg some (by kernel_rfl)),
  f48:=Tryz.func232.trans (congrArg some (by kernel_rfl)),
  f49:=⟨Tryz.f246.name,by decide,Tryz.func246.trans (congrArg some (by kernel_rfl))⟩,
  f50:=⟨Tryz.f247.name,by decide,Tryz.func247.trans (congrArg some (by kernel_rfl))⟩,
  f57:=⟨Tryz.f259.name,by decide,Tryz.func259.trans (congrArg some (by kernel_rfl))⟩,
  t0:=Tryz.underlying0,
  a0:=Tryz.isAgg0,
  z0:=Tryz.sizeOf0,
  v0:=Tryz.zeroValue0,
  t3:=Tryz.underlying3,
  a3:=Tryz.isAgg3,
  z3:=Tryz.sizeOf3,
  v3:=Tryz.zeroValue3,
  t4:=Tryz.underlying4,
  a4:=Tryz.isAgg4,
  z4:=Tryz.sizeOf4,
  v4:=Tryz.zeroValue4,
  t5:=Tryz.underlying5,
  a5:=Tryz.isAgg5,
  z5:=Tryz.sizeOf5,
  v5:=Tryz.zeroValue5,
  t9:=Tryz.underlying9,
  a9:=Tryz.isAgg9,
  z9:=Tryz.sizeOf9,
  v9:=Tryz.zeroValue9,
  t22:=Tryz.underlying22,
  a22:=Tryz.isAgg22,
  z22:=Tryz.sizeOf22,
  v22:=Tryz.zeroValue22,
  t25:=Tryz.underlying162,
  a25:=Tryz.isAgg162,
  z25:=Tryz.sizeOf162,
  v25:=Tryz.zeroValue162,
  t39:=Tryz.underlying181,
  a39:=Tryz.isAgg181,
  z39:=Tryz.sizeOf181,
  v39:=Tryz.zeroValue181,
  t45:=Tryz.underlying256,
  a45:=Tryz.isAgg256,
  z45:=Tryz.sizeOf256,
  v45:=Tryz.zeroValue256,
  t46:=Tryz.underlying257,
  a46:=Tryz.isAgg257,
  z46:=Tryz.sizeOf257,
  v46:=Tryz.zeroValue257,
  t50:=Tryz.underlying158,
  a50:=Tryz.isAgg158,
  z50:=Tryz.sizeOf158,
  v50:=Tryz.zeroValue158,
  t53:=Tryz.underlying263,
  a53:=Tryz.isAgg263,
  z53:=Tryz.sizeOf263,
  v53:=Tryz.zeroValue263,
  t55:=Tryz.underlying45,
  a55:=Tryz.isAgg45,
  z55:=Tryz.sizeOf45,
  v55:=Tryz.zeroValue45,
  t66:=Tryz.underlying276,
  a66:=Tryz.isAgg276,
  z66:=Tryz.sizeOf276,
  v66:=Tryz.zeroValue276,
  t70:=Tryz.underlying280,
  a70:=Tryz.isAgg280,
  z70:=Tryz.sizeOf280,
  v70:=Tryz.zeroValue280,
  t76:=Tryz.underlying293,
  a76:=Tryz.isAgg293,
  z76:=Tryz.sizeOf293,
  v76:=Tryz.zeroValue293,
  t77:=Tryz.underlying294,
  a77:=Tryz.isAgg294,
  z77:=Tryz.sizeOf294,
  v77:=Tryz.zeroValue294}
def xk_:Go.Shelf.Ren:=⟨fun|6=>162|15=>176|14=>194|28=>206|29=>207|20=>221|21=>222|22=>223|23=>224|24=>225|25=>226|26=>227|27=>228|46=>248|47=>231|48=>232|49=>249|50=>250|57=>260|n=>n,fun|22=>23|24=>49|25=>164|3=>3|39=>181|0=>0|53=>263|55=>45|4=>4|46=>257|45=>256|50=>158|5=>5|9=>9|66=>276|70=>280|76=>293|77=>294|n=>n,fun|n=>n⟩
theorem layA0:Go.Proofs.SlLaysF0.n6 Tryz.prog xk_:={
  mixed:=by kernel_rfl,
  f6:=⟨Tryz.f162.name,by decide,Tryz.func162.trans (congrArg some (by kernel_rfl))⟩,
  f14:=⟨Tryz.f194.name,by decide,Tryz.func194.trans (congrArg some (by kernel_rfl))⟩,
  f15:=Tryz.func176.trans (congrArg some (by kernel_rfl)),
  f20:=⟨Tryz.f221.name,by decide,Tryz.func221.trans (congrArg some (by kernel_rfl))⟩,
  f21:=⟨Tryz.f222.name,by decide,Tryz.func222.trans (congrArg some (by kernel_rfl))⟩,
  f22:=⟨Tryz.f223.name,by decide,Tryz.func223.trans (congrArg some (by kernel_rfl))⟩,
  f23:=⟨Tryz.f224.name,by decide,Tryz.func224.trans (congrArg some (by kernel_rfl))⟩,
  f24:=⟨Tryz.f225.name,by decide,Tryz.func225.trans (congrArg some (by kernel_rfl))⟩,
  f25:=⟨Tryz.f226.name,by decide,Tryz.func226.trans (congrArg some (by kernel_rfl))⟩,
  f26:=⟨Tryz.f227.name,by decide,Tryz.func227.trans (congrArg some (by kernel_rfl))⟩,
  f27:=⟨Tryz.f228.name,by decide,Tryz.func228.trans (congrArg some (by kernel_rfl))⟩,
  f28:=Tryz.func206.trans (congrArg some (by kernel_rfl)),
  f29:=Tryz.func207.trans (congrArg some (by kernel_rfl)),
  f46:=⟨Tryz.f248.name,by decide,Tryz.func248.trans (congrArg some (by kernel_rfl))⟩,
  f47:=Tryz.func231.trans (congrArg some (by kernel_rfl)),
  f48:=Tryz.func232.trans (congrArg some (by kernel_rfl)),
  f49:=⟨Tryz.f249.name,by decide,Tryz.func249.trans (congrArg some (by kernel_rfl))⟩,
  f50:=⟨Tryz.f250.name,by decide,Tryz.func250.trans (congrArg some (by kernel_rfl))⟩,
  f57:=⟨Tryz.f260.name,by decide,Tryz.func260.trans (congrArg some (by kernel_rfl))⟩,
  t0:=Tryz.underlying0,
  a0:=Tryz.isAgg0,
  z0:=Tryz.sizeOf0,
  v0:=Tryz.zeroValue0,
  t3:=Tryz.underlying3,
  a3:=Tryz.isAgg3,
  z3:=Tryz.sizeOf3,
  v3:=Tryz.zeroValue3,
  t4:=Tryz.underlying4,
  a4:=Tryz.isAgg4,
  z4:=Tryz.sizeOf4,
  v4:=Tryz.zeroValue4,
  t5:=Tryz.underlying5,
  a5:=Tryz.isAgg5,
  z5:=Tryz.sizeOf5,
  v5:=Tryz.zeroValue5,
  t9:=Tryz.underlying9,
  a9:=Tryz.isAgg9,
  z9:=Tryz.sizeOf9,
  v9:=Tryz.zeroValue9,
  t22:=Tryz.underlying23,
  a22:=Tryz.isAgg23,
  z22:=Tryz.sizeOf23,
  v22:=Tryz.zeroValue23,
  t25:=Tryz.underlying164,
  a25:=Tryz.isAgg164,
  z25:=Tryz.sizeOf164,
  v25:=Tryz.zeroValue164,
  t39:=Tryz.underlying181,
  a39:=Tryz.isAgg181,
  z39:=Tryz.sizeOf181,
  v39:=Tryz.zeroValue181,
  t45:=Tryz.underlying256,
  a45:=Tryz.isAgg256,
  z45:=Tryz.sizeOf256,
  v45:=Tryz.zeroValue256,
  t46:=Tryz.underlying257,
  a46:=Tryz.isAgg257,
  z46:=Tryz.sizeOf257,
  v46:=Tryz.zeroValue257,
  t50:=Tryz.underlying158,
  a50:=Tryz.isAgg158,
  z50:=Tryz.sizeOf158,
  v50:=Tryz.zeroValue158,
  t53:=Tryz.underlying263,
  a53:=Tryz.isAgg263,
  z53:=Tryz.sizeOf263,
  v53:=Tryz.zeroValue263,
  t55:=Tryz.underlying45,
  a55:=Tryz.isAgg45,
  z55:=Tryz.sizeOf45,
  v55:=Tryz.zeroValue45,
  t66:=Tryz.underlying276,
  a66:=Tryz.isAgg276,
  z66:=Tryz.sizeOf276,
  v66:=Tryz.zeroValue276,
  t70:=Tryz.underlying280,
  a70:=Tryz.isAgg280,
  z70:=Tryz.sizeOf280,
  v70:=Tryz.zeroValue280,
  t76:=Tryz.underlying293,
  a76:=Tryz.isAgg293,
  z76:=Tryz.sizeOf293,
  v76:=Tryz.zeroValue293,
  t77:=Tryz.underlying294,
  a77:=Tryz.isAgg294,
  z77:=Tryz.sizeOf294,
  v77:=Tryz.zeroValue294}
end Go.Proofs.YtcfgkcfcddfccaaGreatDoor
end

noncomputable section
namespace Go.E
open Go
structure Tip where
  state:Int
  out:List UInt8
  deriving DecidableEq
def bD:Tip:=⟨0,[]⟩
def bg(x:Tip):List Value:=[.int .i64 x.state,.string (bs x.out)]
theorem yj(x:Tip):(bg x).length=2:=rfl
theorem jz_: ∀x, ∀u∈bg x,u.oneCell'=true:=λx u hu=>by
  simp [bg]at hu;rcases hu with rfl|rfl<;>rfl
structure Arc where
  frm:Int
  to:Int
  set:BSet
  out:List UInt8
  copy:Bool
  deriving DecidableEq
def aO:Arc:=⟨0,0,BSet.zero,[],false⟩
def dG(x:Arc):List Value:=[.int .i64 x.frm,.int .i64 x.to,.int .u64 ((x.set.a:Nat):Int),.int .u64 ((x.set.b:Nat):Int),.int .u64 ((x.set.c:Nat):Int),.int .u64 ((x.set.d:Nat):Int),.string (bs x.out),.bool x.copy]
theorem EM(x:Arc):(dG x).length=8:=rfl
theorem jt_: ∀x, ∀u∈dG x,u.oneCell'=true:=λx u hu=>by
  simp [dG]at hu;rcases hu with rfl|rfl|rfl|rfl|rfl|rfl|rfl|rfl<;>rfl
structure FPair where
  state:Int
  out:List UInt8
  deriving DecidableEq
def FPair.zero:FPair:=⟨0,[]⟩
structure Span where
  frm:Int
  to:Int
  deriving DecidableEq
def Span.zero:Span:=⟨0,0⟩
structure Fst where
  states:Int
  starts:List Tip
  ends:List Tip
  arcs:List Arc
  deriving DecidableEq
def Fst.zero:Fst:=⟨0,[],[],[]⟩
abbrev eP(x:Fst)(a1:Option Addr)(c1:Nat)(a2:Option Addr)(c2:Nat)(a3:Option Addr)(c3:Nat):Array Value:=#[.int .i64 x.states,.slice a1 x.starts.length c1,.slice a2 x.ends.length c2,.slice a3 x.arcs.length c3]
end Go.E
end

noncomputable section
namespace Go.Proofs.YtcfgkcfcddfccaaGreatDoor
open Go Go.E Go.E.OpVal Go.E.OpOk Go.Proofs.Tryz
open List (replicate)
theorem zb_:aggOf Tryz.prog 22=some false:=by kernel_rfl
theorem wr_:aggOf Tryz.prog 23=some false:=by kernel_rfl
theorem zc_:aggOf Tryz.prog 49=some true:=by kernel_rfl
theorem zu_:aggOf Tryz.prog 79=some true:=by kernel_rfl
theorem ag9:aggOf Tryz.prog 9=some false:=by kernel_rfl
theorem jk_:foOf Tryz.prog 25 0=some 0:=by kernel_rfl
theorem kb_:foOf Tryz.prog 25 1=some 1:=by kernel_rfl
theorem kc_:foOf Tryz.prog 25 2=some 2:=by kernel_rfl
theorem jm_:foOf Tryz.prog 25 3=some 3:=by kernel_rfl
theorem lu_:foOf Tryz.prog 49 0=some 0:=by kernel_rfl
theorem k0_:foOf Tryz.prog 49 1=some 1:=by kernel_rfl
theorem ms_:foOf Tryz.prog 49 2=some 2:=by kernel_rfl
theorem mq_:foOf Tryz.prog 49 3=some 6:=by kernel_rfl
theorem k8_:foOf Tryz.prog 79 0=some 0:=by kernel_rfl
theorem j8_:foOf Tryz.prog 79 1=some 1:=by kernel_rfl
theorem QW:plainF Tryz.prog 103=true:=by kernel_rfl
theorem pf57:plainF Tryz.prog 57=true:=by kernel_rfl
theorem Vr:plainF Tryz.prog 58=true:=by kernel_rfl
theorem Io:szOf Tryz.prog 49=some 8:=by kernel_rfl
theorem Il:szOf Tryz.prog 79=some 2:=by kernel_rfl
theorem wg_:zeroOf Tryz.prog 49=some (.agg #[.int .i64 0,.int .i64 0,.int .u64 0,.int .u64 0,.int .u64 0,.int .u64 0,.string ByteArray.empty,.bool false]):=by kernel_rfl
theorem wa_:zeroOf Tryz.prog 79=some (.agg #[.int .i64 0,.string ByteArray.empty]):=by kernel_rfl
def Yc(x0:Int)(x1:Int):Option (Bool):=
 aI (decide (0<=x0)) (some (decide (x0<x1))) (some false)
theorem I1_{σ:ak}{x0:Int}{x1:Int}{r:Bool}(hh:Yc x0 x1=some r):
  Con prog 58 #[.int .i64 x0,.int .i64 x1] σ [] (iU (.bool r) σ):=by
 dsimp only [Yc]at hh;refine cM 12 Tryz.func58 (λw0=> ?_);refine R9 ?_;refine Γ 7 z (λiR=> ?_) (λiR=> ?_)
 ·obtain ⟨iR,hh⟩:=iT iR hh;refine R6 ?_;refine θ ?_;obtain rfl:=so hh;exact rq [4] ⟨z,z,z⟩
 obtain ⟨iR,hh⟩:=iF iR hh;refine R6 ?_;refine θ ?_;obtain rfl:=so hh;exact rq [4] ⟨z,z,z⟩
def F1_(x0:List Tip)(x1:Int)(gB:Nat):Option ((Nat)⊕(Bool)):=
 aI (decide ((gB:Int)<(x0.length:Int))) (bnd (Yc ((nth x0 gB bD).state) x1) (λv17=>aI (!v17) (fin (some false)) (aI (decide (1024<(((nth x0 gB bD).out).length:Int))) (fin (some false)) (nxt (gB+1))))) (fin (some true))
def Gb_(x0:List Tip)(x1:Int):Option (Bool):=
 aI (decide (1024<(x0.length:Int))) (some false) (aV (λq:Nat=>F1_ x0 x1 q) 0)
theorem I3_{σ:ak}{x0:List Tip}{x1:Int}(aA:RS σ 2 bg (.slice ay x0.length au) x0){r:Bool}(hh:Gb_ x0 x1=some r):
  Con prog 57 #[.slice ay x0.length au,.int .i64 x1] σ [] (iU (.bool r) σ):=by
 dsimp only [Gb_]at hh;refine cM 28 Tryz.func57 (λw0=> ?_);refine R11 ?_;refine ι z hh (λiR hh=> ?_) (λiR hh=> ?_)
 ·refine R4 ?_;refine θ ?_;obtain rfl:=so hh;exact rq [4] ⟨z,z,z⟩
 refine R9 ?_;refine TC.lp hh () (rgs [(4,1),(6,1),(12,16)]) (λgB _=>([(12,.int .i64 (gB:Int))],[])) (ζ 0 z) ?_;rintro gB _ _ z1 hh hR1;dsimp only [F1_]at hh ⊢;refine R5 ?_;refine ι z hh (λbM hh=> ?_) (λbM hh=> ?_)
 ·refine R7 ?_;refine TL.al (λyC=> ?_);refine R7 ?_;obtain ⟨v17,vV,hh⟩:=bQ hh;refine κ z (eG (I1_ vV) z z Vr z z z ?_);refine R2 ?_;refine Γ 21 z (λkX=> ?_) (λkX=> ?_)
  ·replace hh:=nT kX hh;refine R11 ?_;refine TC.rt 0 ?_;replace hh:=bF hR1 hh;obtain rfl:=so hh;exact rq [4] ⟨z,z,z⟩
  replace hh:=nS kX hh;refine R2 ?_;refine TL.g z (LM z vU z) (R3 ?_);refine ι z hh (λrW hh=> ?_) (λrW hh=> ?_)
  ·refine R4 ?_;refine TC.rt 0 ?_;replace hh:=bF hR1 hh;obtain rfl:=so hh;exact rq [4] ⟨z,z,z⟩
  refine R5 ?_;exact nx hR1 hh () (ζ 0 z)
 refine R1 ?_;replace hh:=bF hR1 hh;refine R5 ?_;refine θ ?_;obtain rfl:=so hh;exact rq [4] ⟨z,z,z⟩
def Hi_(x0:Fst)(bZ:Nat):Option ((Nat)⊕(Int)):=
 aI (decide ((bZ:Int)<(x0.arcs.length:Int))) (bnd (Yc ((nth x0.arcs bZ aO).frm) x0.states) (λv46=>aI (!v46) (fin (some 1)) (bnd (Yc ((nth x0.arcs bZ aO).to) x0.states) (λv53=>aI (!v53) (fin (some 1)) (aI (decide ((nth x0.arcs bZ aO).set=BSet.zero)) (fin (some 1)) (aI (decide (1024<(((nth x0.arcs bZ aO).out).length:Int))) (fin (some 1)) (nxt (bZ+1)))))))) (fin (some 0))
def IE(x0:Fst):Option (Int):=
 aI (decide (x0.states<0)) (some 1) (aI (decide (1024<x0.states)) (some 1) (aI (decide (16384<(x0.arcs.length:Int))) (some 1) (bnd (Gb_ x0.starts x0.states) (λv22=>aI (!v22) (some 1) (bnd (Gb_ x0.ends x0.states) (λv29=>aI (!v29) (some 1) (aV (λq:Nat=>Hi_ x0 q) 0)))))))
theorem Ut{σ:ak}{x0:Fst}(aA:RS σ 2 bg (.slice ay x0.starts.length au) x0.starts)(aG:RS σ 2 bg (.slice aC x0.ends.length aJ) x0.ends)(aH:RS σ 8 dG (.slice aK x0.arcs.length aF) x0.arcs){r:Int}(hh:IE x0=some r):
  Con prog 21 #[.agg (eP x0 ay au aC aJ aK aF)] σ [] (iU (.int .i64 r) σ):=by
 dsimp only [IE]at hh;refine cM 67 Tryz.func21 (λw0=> ?_);refine R2 ?_;refine TL.bx (λaS=> ?_);refine R9 ?_;refine Γ 8 z (λjM=> ?_) (λjM=> ?_)
 ·obtain ⟨jM,hh⟩:=iT jM hh;refine R16 ?_;refine TC.rt 0 ?_;obtain rfl:=so hh;exact rq [2] ⟨z,z,z⟩
 obtain ⟨jM,hh⟩:=iF jM hh;refine R5 ?_;refine Γ 13 z (λdS=> ?_) (λdS=> ?_)
 ·obtain ⟨dS,hh⟩:=iT dS hh;refine R11 ?_;refine TC.rt 0 ?_;obtain rfl:=so hh;exact rq [2] ⟨z,z,z⟩
 obtain ⟨dS,hh⟩:=iF dS hh;refine R6 ?_;refine ι z hh (λbM hh=> ?_) (λbM hh=> ?_)
 ·refine R4 ?_;refine TC.rt 0 ?_;obtain rfl:=so hh;exact rq [2] ⟨z,z,z⟩
 refine R8 ?_;obtain ⟨v22,u22,hh⟩:=bQ hh;refine κ z (eG (I3_ aA u22) z z pf57 z z z ?_);refine R2 ?_;refine Γ 25 z (λdH=> ?_) (λdH=> ?_)
 ·replace hh:=nT dH hh;refine R13 ?_;refine TC.rt 0 ?_;obtain rfl:=so hh;exact rq [2] ⟨z,z,z⟩
 replace hh:=nS dH hh;refine R4 ?_;obtain ⟨v29,u29,hh⟩:=bQ hh;refine TL.gon z z z z z (eG (I3_ aG u29) z z pf57 z z z ?_);refine R3 ?_;refine TC.cB z hh (λfB hh=> ?_) (λfB hh=> ?_)
 ·refine R4 ?_;refine TC.rt 0 ?_;obtain rfl:=so hh;exact rq [2] ⟨z,z,z⟩
 refine R10 ?_;refine TC.lp hh () (rgs [(2,1),(4,1),(36,31)]) (λbZ _=>([(36,.int .i64 (bZ:Int))],[ω aS (eP x0 ay au aC aJ aK aF) 25])) (ζ 1 z) ?_;rintro bZ _ _ z1 hh hR1;dsimp only [Hi_]at hh ⊢;refine R5 ?_;refine ι z hh (λgI hh=> ?_) (λgI hh=> ?_)
 ·refine R7 ?_;refine TL.al (λH6=> ?_);refine R8 ?_;obtain ⟨v46,u46,hh⟩:=bQ hh;refine κ z (eG (I1_ u46) z z Vr z z z ?_);refine R2 ?_;refine Γ 46 z (λmJ=> ?_) (λmJ=> ?_)
  ·replace hh:=nT mJ hh;refine R25 ?_;refine TC.rt 0 ?_;replace hh:=bF hR1 hh;obtain rfl:=so hh;exact rq [2] ⟨z,z,z⟩
  replace hh:=nS mJ hh;refine R4 ?_;obtain ⟨v53,u53,hh⟩:=bQ hh;refine TL.gon z z z z z (eG (I1_ u53) z z Vr z z z ?_);refine R3 ?_;refine Γ 54 z (λAz=> ?_) (λAz=> ?_)
  ·replace hh:=nT Az hh;refine R17 ?_;refine TC.rt 0 ?_;replace hh:=bF hR1 hh;obtain rfl:=so hh;exact rq [2] ⟨z,z,z⟩
  replace hh:=nS Az hh;refine R2 ?_;refine TL.g z (XQ z D8 ug Fq z) (TL.g z (ct_ (s:=(nth x0.arcs bZ aO).set) (t:=BSet.zero) z D8 NI zF ug Ht z z) (R2 ?_));refine Γ 60 z (λh116=> ?_) (λh116=> ?_)
  ·obtain ⟨h116,hh⟩:=iT h116 hh;refine R11 ?_;refine TC.rt 0 ?_;replace hh:=bF hR1 hh;obtain rfl:=so hh;exact rq [2] ⟨z,z,z⟩
  obtain ⟨h116,hh⟩:=iF h116 hh;refine R2 ?_;refine TL.g z (LM z vU z) (R3 ?_);refine ι z hh (λoG hh=> ?_) (λoG hh=> ?_)
  ·refine R4 ?_;refine TC.rt 0 ?_;replace hh:=bF hR1 hh;obtain rfl:=so hh;exact rq [2] ⟨z,z,z⟩
  refine R5 ?_;exact nx hR1 hh () (ψ [1] 1)
 refine R1 ?_;replace hh:=bF hR1 hh;refine R5 ?_;refine TC.rt 0 ?_;obtain rfl:=so hh;exact rq [2] ⟨z,z,z⟩
def D4_(x0:List Tip)(x1:Int)(gW:Nat):Option ((Nat)⊕(Bool)):=
 aI (decide ((gW:Int)<(x0.length:Int))) (aI (decide (((nth x0 gW bD).state)<0)) (fin (some false)) (aI (decide (x1<=((nth x0 gW bD).state))) (fin (some false)) (aI (decide (1024<(((nth x0 gW bD).out).length:Int))) (fin (some false)) (nxt (gW+1))))) (fin (some (decide ((x0.length:Int)<=1024))))
def Eg_(x0:List Tip)(x1:Int):Option (Bool):=
 aV (λq:Nat=>D4_ x0 x1 q) 0
theorem H7_{σ:ak}{x0:List Tip}{x1:Int}(aA:RS σ 2 bg (.slice ay x0.length au) x0){r:Bool}(hh:Eg_ x0 x1=some r):
  Con prog 103 #[.slice ay x0.length au,.int .i64 x1] σ [] (iU (.bool r) σ):=by
 dsimp only [Eg_]at hh;have f0_0b:=aA.rv.big;refine cM 39 Tryz.func103 (λw0=> ?_);refine R10 ?_;refine TC.lp hh () (rgs [(4,32)]) (λgW _=>([(5,.int .i64 (gW:Int))],[])) (ζ 0 z) ?_;rintro gW _ _ z1 hh hR1;dsimp only [D4_]at hh ⊢;refine R8 ?_;refine ι z hh (λdS hh=> ?_) (λdS hh=> ?_)
 ·refine R12 ?_;refine Γ 18 z (λbM=> ?_) (λbM=> ?_)
  ·obtain ⟨bM,hh⟩:=iT bM hh;refine R23 ?_;refine θ ?_;replace hh:=bF hR1 hh;obtain rfl:=so hh;exact rq [4] ⟨z,z,z⟩
  obtain ⟨bM,hh⟩:=iF bM hh;refine R9 ?_;refine Γ 27 z (λdH=> ?_) (λdH=> ?_)
  ·obtain ⟨dH,hh⟩:=iT dH hh;refine R14 ?_;refine θ ?_;replace hh:=bF hR1 hh;obtain rfl:=so hh;exact rq [4] ⟨z,z,z⟩
  obtain ⟨dH,hh⟩:=iF dH hh;refine R5 ?_;refine TL.g z (LM z vU z) (R3 ?_);refine ι z hh (λfB hh=> ?_) (λfB hh=> ?_)
  ·refine R4 ?_;refine θ ?_;replace hh:=bF hR1 hh;obtain rfl:=so hh;exact rq [4] ⟨z,z,z⟩
  refine R6 ?_;exact nx hR1 hh () (ζ 0 z)
 refine R1 ?_;replace hh:=bF hR1 hh;refine R8 ?_;refine θ ?_;obtain rfl:=so hh;exact rq [4] ⟨z,z,z⟩
def Du_(x0:Fst)(bZ:Nat):Option ((Nat)⊕(Bool)):=
 aI (decide ((bZ:Int)<(x0.arcs.length:Int))) (aI (decide (((nth x0.arcs bZ aO).frm)<0)) (fin (some false)) (aI (decide (x0.states<=((nth x0.arcs bZ aO).frm))) (fin (some false)) (aI (decide (((nth x0.arcs bZ aO).to)<0)) (fin (some false)) (aI (decide (x0.states<=((nth x0.arcs bZ aO).to))) (fin (some false)) (aI (decide ((nth x0.arcs bZ aO).set=BSet.zero)) (fin (some false)) (aI (decide (1024<(((nth x0.arcs bZ aO).out).length:Int))) (fin (some false)) (nxt (bZ+1)))))))) (fin (some true))
def Ib(x0:Fst):Option (Bool):=
 aI (decide (x0.states<0)) (some false) (aI (decide (1024<x0.states)) (some false) (bnd (Eg_ x0.starts x0.states) (λv16=>aI (!v16) (some false) (bnd (Eg_ x0.ends x0.states) (λv24=>aI (!v24) (some false) (aI (decide (16384<(x0.arcs.length:Int))) (some false) (aV (λq:Nat=>Du_ x0 q) 0)))))))
theorem P8{σ:ak}{x0:Fst}(aA:RS σ 2 bg (.slice ay x0.starts.length au) x0.starts)(aG:RS σ 2 bg (.slice aC x0.ends.length aJ) x0.ends)(aH:RS σ 8 dG (.slice aK x0.arcs.length aF) x0.arcs){r:Bool}(hh:Ib x0=some r):
  Con prog 41 #[.agg (eP x0 ay au aC aJ aK aF)] σ [] (iU (.bool r) σ):=by
 dsimp only [Ib]at hh;refine cM 81 Tryz.func41 (λw0=> ?_);refine R2 ?_;refine TL.bx (λaS=> ?_);refine R9 ?_;refine Γ 8 z (λjM=> ?_) (λjM=> ?_)
 ·obtain ⟨jM,hh⟩:=iT jM hh;refine R32 ?_;refine TC.rt 0 ?_;obtain rfl:=so hh;exact rq [2] ⟨z,z,z⟩
 obtain ⟨jM,hh⟩:=iF jM hh;refine R5 ?_;refine Γ 13 z (λdS=> ?_) (λdS=> ?_)
 ·obtain ⟨dS,hh⟩:=iT dS hh;refine R27 ?_;refine TC.rt 0 ?_;obtain rfl:=so hh;exact rq [2] ⟨z,z,z⟩
 obtain ⟨dS,hh⟩:=iF dS hh;refine R4 ?_;obtain ⟨v16,u16,hh⟩:=bQ hh;refine TL.gon z z z z z (eG (H7_ aA u16) z z QW z z z ?_);refine R3 ?_;refine Γ 21 z (λbM=> ?_) (λbM=> ?_)
 ·replace hh:=nT bM hh;refine X_ ?_;refine TC.rt 0 ?_;obtain rfl:=so hh;exact rq [2] ⟨z,z,z⟩
 replace hh:=nS bM hh;refine R4 ?_;obtain ⟨v24,u24,hh⟩:=bQ hh;refine TL.gon z z z z z (eG (H7_ aG u24) z z QW z z z ?_);refine R3 ?_;refine Γ 29 z (λdH=> ?_) (λdH=> ?_)
 ·replace hh:=nT dH hh;refine R11 ?_;refine TC.rt 0 ?_;obtain rfl:=so hh;exact rq [2] ⟨z,z,z⟩
 replace hh:=nS dH hh;refine R6 ?_;refine ι z hh (λfB hh=> ?_) (λfB hh=> ?_)
 ·refine R4 ?_;refine TC.rt 0 ?_;obtain rfl:=so hh;exact rq [2] ⟨z,z,z⟩
 refine R7 ?_;refine TC.lp hh () (rgs [(2,3),(35,46)]) (λbZ _=>([(3,.int .i64 (bZ:Int))],[ω aS (eP x0 ay au aC aJ aK aF) 25])) (ζ 1 z) ?_;rintro bZ _ _ z1 hh hR1;dsimp only [Du_]at hh ⊢;refine R9 ?_;refine ι z hh (λgI hh=> ?_) (λgI hh=> ?_)
 ·refine R10 ?_;refine TL.al (λH6=> ?_);refine R8 ?_;refine Γ 50 z (λmJ=> ?_) (λmJ=> ?_)
  ·obtain ⟨mJ,hh⟩:=iT mJ hh;refine R36 ?_;refine TC.rt 0 ?_;replace hh:=bF hR1 hh;obtain rfl:=so hh;exact rq [2] ⟨z,z,z⟩
  obtain ⟨mJ,hh⟩:=iF mJ hh;refine R7 ?_;refine Γ 57 z (λAz=> ?_) (λAz=> ?_)
  ·obtain ⟨Az,hh⟩:=iT Az hh;refine R29 ?_;refine TC.rt 0 ?_;replace hh:=bF hR1 hh;obtain rfl:=so hh;exact rq [2] ⟨z,z,z⟩
  obtain ⟨Az,hh⟩:=iF Az hh;refine R5 ?_;refine Γ 62 z (λh116=> ?_) (λh116=> ?_)
  ·obtain ⟨h116,hh⟩:=iT h116 hh;refine R24 ?_;refine TC.rt 0 ?_;replace hh:=bF hR1 hh;obtain rfl:=so hh;exact rq [2] ⟨z,z,z⟩
  obtain ⟨h116,hh⟩:=iF h116 hh;refine R7 ?_;refine Γ 69 z (λoG=> ?_) (λoG=> ?_)
  ·obtain ⟨oG,hh⟩:=iT oG hh;refine R17 ?_;refine TC.rt 0 ?_;replace hh:=bF hR1 hh;obtain rfl:=so hh;exact rq [2] ⟨z,z,z⟩
  obtain ⟨oG,hh⟩:=iF oG hh;refine R2 ?_;refine TL.g z (XQ z D8 ug Fq z) (TL.g z (ct_ (s:=(nth x0.arcs bZ aO).set) (t:=BSet.zero) z D8 NI zF ug Ht z z) (R2 ?_));refine Γ 75 z (λiG=> ?_) (λiG=> ?_)
  ·obtain ⟨iG,hh⟩:=iT iG hh;refine R11 ?_;refine TC.rt 0 ?_;replace hh:=bF hR1 hh;obtain rfl:=so hh;exact rq [2] ⟨z,z,z⟩
  obtain ⟨iG,hh⟩:=iF iG hh;refine R2 ?_;refine TL.g z (LM z vU z) (R3 ?_);refine ι z hh (λh119 hh=> ?_) (λh119 hh=> ?_)
  ·refine R4 ?_;refine TC.rt 0 ?_;replace hh:=bF hR1 hh;obtain rfl:=so hh;exact rq [2] ⟨z,z,z⟩
  refine R6 ?_;exact nx hR1 hh () (ψ [1] 1)
 refine R1 ?_;replace hh:=bF hR1 hh;refine R5 ?_;refine TC.rt 0 ?_;obtain rfl:=so hh;exact rq [2] ⟨z,z,z⟩
theorem rr_:foOf Tryz.prog 49 4=some 7:=by kernel_rfl
theorem zp_:plainF Tryz.prog 143=true:=by kernel_rfl
theorem QF:plainF Tryz.prog 159=true:=by kernel_rfl
theorem QE:plainF Tryz.prog 160=true:=by kernel_rfl
theorem pf164:plainF Tryz.prog 164=true:=by kernel_rfl
theorem QD:plainF Tryz.prog 165=true:=by kernel_rfl
theorem pf193:plainF Tryz.prog 193=true:=by kernel_rfl
theorem pf195:plainF Tryz.prog 195=true:=by kernel_rfl
theorem Qv:plainF Tryz.prog 229=true:=by kernel_rfl
def D6_(x0:T_1)(x1:T_1):Option (Int):=
 some (Lib.compareBytes x0 x1)
theorem Hs_{σ:ak}{x0:T_1}{x1:T_1}{r:Int}(hh:D6_ x0 x1=some r):
  Con prog 193 #[.string (bs x0),.string (bs x1)] σ [] (iU (.int .i64 r) σ):=by
 dsimp only [D6_]at hh;refine cM 8 Tryz.func193 (λw0=> ?_);refine R8 ?_;refine TL.w z (cmpStr z z Tryz.func220 (by kernel_rfl) (by kernel_rfl) (by kernel_rfl) (by kernel_rfl) z z) (R2 ?_);refine θ ?_;obtain rfl:=so hh;exact rq [4] ⟨z,z,z⟩
def Gc_(x0:T_1)(x1:T_1):Option (Int):=
 bnd (D6_ x0 x1) (λv4=>some v4)
theorem Io_{σ:ak}{x0:T_1}{x1:T_1}{r:Int}(hh:Gc_ x0 x1=some r):
  Con prog 160 #[.string (bs x0),.string (bs x1)] σ [] (iU (.int .i64 r) σ):=by
 dsimp only [Gc_]at hh;refine cM 8 Tryz.func160 (λw0=> ?_);refine R8 ?_;obtain ⟨v4,u4,hh⟩:=bQ hh;refine κ z (eG (Hs_ u4) z z pf193 z z z ?_);refine R2 ?_;refine θ ?_;obtain rfl:=so hh;exact rq [4] ⟨z,z,z⟩
def r8_(x0:Nat):Option (Bool):=
 some (decide (x0≠x0))
theorem pi_{σ:ak}{x0:Nat}{r:Bool}(hh:r8_ x0=some r):
  Con prog 229 #[.int .u64 (x0:Int)] σ [] (iU (.bool r) σ):=by
 dsimp only [r8_]at hh;refine cM 6 Tryz.func229 (λw0=> ?_);refine R8 ?_;refine TL.w z (neqU z z z) (R2 ?_);refine θ ?_;obtain rfl:=so hh;exact rq [2] ⟨z,z,z⟩
def k2_(x0:Nat)(x1:Nat):Option (Int):=
 bnd (r8_ x0) (λv3=>bnd (r8_ x1) (λv6=>aI v3 (aI v6 (some 0) (some (-1))) (aI v6 (some 1) (aI (decide (x0<x1)) (some (-1)) (aI (decide (x1<x0)) (some 1) (some 0))))))
theorem rg_{σ:ak}{x0:Nat}{x1:Nat}{r:Int}(hh:k2_ x0 x1=some r):
  Con prog 195 #[.int .u64 (x0:Int),.int .u64 (x1:Int)] σ [] (iU (.int .i64 r) σ):=by
 dsimp only [k2_]at hh;refine cM 20 Tryz.func195 (λw0=> ?_);refine R7 ?_;obtain ⟨v3,u3,hh⟩:=bQ hh;refine κ z (eG (pi_ u3) z z Qv z z z ?_);refine R5 ?_;obtain ⟨v6,u6,hh⟩:=bQ hh;refine κ z (eG (pi_ u6) z z Qv z z z ?_);refine R7 ?_;refine TC.cB z hh (λiR hh=> ?_) (λiR hh=> ?_)
 ·refine R5 ?_;refine TC.cB z hh (λAA hh=> ?_) (λAA hh=> ?_)
  ·refine R4 ?_;refine θ ?_;obtain rfl:=so hh;exact rq [4] ⟨z,z,z⟩
  refine R5 ?_;refine θ ?_;obtain rfl:=so hh;exact rq [4] ⟨z,z,z⟩
 refine R6 ?_;refine TC.cB z hh (λjM hh=> ?_) (λjM hh=> ?_)
 ·refine R4 ?_;refine θ ?_;obtain rfl:=so hh;exact rq [4] ⟨z,z,z⟩
 refine R6 ?_;refine TL.w z (lssU z z z) (R1 ?_);refine ι z hh (λdS hh=> ?_) (λdS hh=> ?_)
 ·refine R4 ?_;refine θ ?_;obtain rfl:=so hh;exact rq [4] ⟨z,z,z⟩
 refine R6 ?_;refine TL.w z (gtrU z z z) (R1 ?_);refine ι z hh (λbM hh=> ?_) (λbM hh=> ?_)
 ·refine R4 ?_;refine θ ?_;obtain rfl:=so hh;exact rq [4] ⟨z,z,z⟩
 refine R5 ?_;refine θ ?_;obtain rfl:=so hh;exact rq [4] ⟨z,z,z⟩
def Ig_(x0:Bool):Option (Int):=
 aI x0 (some 1) (some 0)
theorem Jz_{σ:ak}{x0:Bool}{r:Int}(hh:Ig_ x0=some r):
  Con prog 165 #[.bool x0] σ [] (iU (.int .i64 r) σ):=by
 dsimp only [Ig_]at hh;refine cM 4 Tryz.func165 (λw0=> ?_);refine R9 ?_;refine TC.cB z hh (λiR hh=> ?_) (λiR hh=> ?_)
 ·refine R4 ?_;refine θ ?_;obtain rfl:=so hh;exact rq [2] ⟨z,z,z⟩
 refine R5 ?_;refine θ ?_;obtain rfl:=so hh;exact rq [2] ⟨z,z,z⟩
def H3_(x0:aj)(gW:Nat):Option ((Nat)⊕(Int)):=
 aI (decide ((gW:Int)<(x0.length:Int))) (aI (decide ((nth x0 gW 0)≠0)) (fin (some (nth x0 gW 0))) (nxt (gW+1))) (fin (some 0))
def J2_(x0:aj):Option (Int):=
 aV (λq:Nat=>H3_ x0 q) 0
theorem K4_{σ:ak}{x0:aj}(aA:dV σ aB ay au x0){r:Int}(hh:J2_ x0=some r):
  Con prog 159 #[.slice ay x0.length au] σ [] (iU (.int .i64 r) σ):=by
 dsimp only [J2_]at hh;have f0_0b:=aA.rv.big;refine cM 18 Tryz.func159 (λw0=> ?_);refine R16 ?_;refine TC.lp hh () (rgs [(2,1),(5,1),(8,9)]) (λgW _=>([(8,.int .i64 (gW:Int))],[])) (ζ 0 z) ?_;rintro gW _ _ z1 hh hR1;dsimp only [H3_]at hh ⊢;refine R5 ?_;refine ι z hh (λdS hh=> ?_) (λdS hh=> ?_)
 ·refine R15 ?_;refine ι z hh (λbM hh=> ?_) (λbM hh=> ?_)
  ·refine R5 ?_;refine θ ?_;replace hh:=bF hR1 hh;obtain rfl:=so hh;exact rq [2] ⟨z,z,z⟩
  refine R5 ?_;exact nx hR1 hh () (ζ 0 z)
 refine R1 ?_;replace hh:=bF hR1 hh;refine R6 ?_;refine θ ?_;obtain rfl:=so hh;exact rq [2] ⟨z,z,z⟩
def Hc_(x0:Tip)(x1:Tip):Option (Int):=
 bnd (Uk x0.state x1.state) (λv8=>bnd (Gc_ x0.out x1.out) (λv13=>bnd (J2_ [v8,v13]) (λv15=>some v15)))
theorem Kh_{σ:ak}{x0:Tip}{x1:Tip}{r:Int}(hh:Hc_ x0 x1=some r):
  Con prog 100 #[.agg #[.int .i64 x0.state,.string (bs x0.out)],.agg #[.int .i64 x1.state,.string (bs x1.out)]] σ [] (iU (.int .i64 r) σ):=by
 dsimp only [Hc_]at hh;refine cM 17 Tryz.func100 (λw0=> ?_);refine R2 ?_;refine TL.bx (λaS=> ?_);refine TL.bx (λbn=> ?_);refine R3 ?_;obtain ⟨v8,u8,hh⟩:=bQ hh;obtain ⟨v13,u13,hh⟩:=bQ hh;obtain ⟨v15,u15,hh⟩:=bQ hh;refine TC.draw [] (by kernel_rfl) (ν 0 z fL z (Δ 1 z lL z (ν 2 z fL z (Δ 3 z lL z (ν 5 z fL z (Δ 6 z lL z (ν 7 z fL z (Δ 8 z lL z (Φ 4 z (eG (Gf_ u8) z z zp_ z z z (k0 ?_)))))))))));refine Φ 9 z (eG (Io_ u13) z z QE z z z (k0 ?_));refine Φ 10 z (gX (enc:=aB) [v8,v13] (λIa Hy=>(k1 ?_)));refine Φ 11 z (XE (Con.lend aW (λ_ EH JF=>K4_ JF u15)) z z QF z z z z (k1 ?_));refine ν 12 z mI z (R1 ?_);refine TC.rt 0 ?_;obtain rfl:=so hh;exact rq [4] ⟨z,z,z⟩
def Lr(x0:List Nat)(x1:List Nat)(gW:Nat):Option ((Nat)⊕(Int)):=
 aI (decide ((gW:Int)<(x0.length:Int))) (aI (decide ((x1.length:Int)<=(gW:Int))) (fin (some 1)) (grd (gW<x1.length) (bnd (k2_ (nth x0 gW (0:Nat)) (nth x1 gW (0:Nat))) (λv23=>aI (decide (v23≠0)) (fin (some v23)) (nxt (gW+1)))))) (fin (aI (decide ((x0.length:Int)<(x1.length:Int))) (some (-1)) (some 0)))
def lf_(x0:List Nat)(x1:List Nat):Option (Int):=
 aV (λq:Nat=>Lr x0 x1 q) 0
theorem p7_{σ:ak}{x0:List Nat}{x1:List Nat}(aA:dV σ encW ay au x0)(bU:dV σ encW bW bV x1){r:Int}(hh:lf_ x0 x1=some r):
  Con prog 164 #[.slice ay x0.length au,.slice bW x1.length bV] σ [] (iU (.int .i64 r) σ):=by
 dsimp only [lf_]at hh;have f1_0b:=bU.rv.big;refine cM 36 Tryz.func164 (λw0=> ?_);refine R12 ?_;refine TC.lp hh () (rgs [(4,5),(11,20)]) (λgW _=>([(11,.int .i64 (gW:Int))],[])) (ζ 0 z) ?_;rintro gW _ _ z1 hh hR1;dsimp only [Lr]at hh ⊢;refine R5 ?_;refine ι z hh (λdS hh=> ?_) (λdS hh=> ?_)
 ·refine X_ ?_;refine ι z hh (λbM hh=> ?_) (λbM hh=> ?_)
  ·refine R4 ?_;refine θ ?_;replace hh:=bF hR1 hh;obtain rfl:=so hh;exact rq [4] ⟨z,z,z⟩
  refine R5 ?_;obtain ⟨Jb,hh⟩:=gd hh;refine R8 ?_;obtain ⟨v23,u23,hh⟩:=bQ hh;refine κ z (eG (rg_ u23) z z pf195 z z z ?_);refine R7 ?_;refine ι z hh (λdH hh=> ?_) (λdH hh=> ?_)
  ·refine R5 ?_;refine θ ?_;replace hh:=bF hR1 hh;obtain rfl:=so hh;exact rq [4] ⟨z,z,z⟩
  refine R5 ?_;exact nx hR1 hh () (ζ 0 z)
 refine R1 ?_;replace hh:=bF hR1 hh;refine R10 ?_;refine ι z hh (λkX hh=> ?_) (λkX hh=> ?_)
 ·refine R4 ?_;refine θ ?_;obtain rfl:=so hh;exact rq [4] ⟨z,z,z⟩
 refine R5 ?_;refine θ ?_;obtain rfl:=so hh;exact rq [4] ⟨z,z,z⟩
def Ha_(x0:Arc)(x1:Arc):Option (Int):=
 bnd (Uk x0.frm x1.frm) (λv8=>bnd (Uk x0.to x1.to) (λv13=>bnd (lf_ [x0.set.a,x0.set.b,x0.set.c,x0.set.d] [x1.set.a,x1.set.b,x1.set.c,x1.set.d]) (λv18=>bnd (Gc_ x0.out x1.out) (λv23=>bnd (Ig_ x0.copy) (λv26=>bnd (Ig_ x1.copy) (λv29=>bnd (Uk v26 v29) (λv30=>bnd (J2_ [v8,v13,v18,v23,v30]) (λv32=>some v32))))))))
theorem Ki_{σ:ak}{x0:Arc}{x1:Arc}{r:Int}(hh:Ha_ x0 x1=some r):
  Con prog 102 #[.agg #[.int .i64 x0.frm,.int .i64 x0.to,.int .u64 (x0.set.a:Int),.int .u64 (x0.set.b:Int),.int .u64 (x0.set.c:Int),.int .u64 (x0.set.d:Int),.string (bs x0.out),.bool x0.copy],.agg #[.int .i64 x1.frm,.int .i64 x1.to,.int .u64 (x1.set.a:Int),.int .u64 (x1.set.b:Int),.int .u64 (x1.set.c:Int),.int .u64 (x1.set.d:Int),.string (bs x1.out),.bool x1.copy]] σ [] (iU (.int .i64 r) σ):=by
 dsimp only [Ha_]at hh;refine cM 34 Tryz.func102 (λw0=> ?_);refine R2 ?_;refine TL.bx (λaS=> ?_);refine TL.bx (λbn=> ?_);refine R3 ?_;obtain ⟨v8,u8,hh⟩:=bQ hh;obtain ⟨v13,u13,hh⟩:=bQ hh;obtain ⟨v18,Jb,hh⟩:=bQ hh;obtain ⟨v23,u23,hh⟩:=bQ hh;obtain ⟨v26,u26,hh⟩:=bQ hh;obtain ⟨v29,u29,hh⟩:=bQ hh;obtain ⟨v30,u30,hh⟩:=bQ hh;obtain ⟨v32,u32,hh⟩:=bQ hh;refine TC.draw [] (by kernel_rfl) (ν 0 z fL z (Δ 1 z lL z (ν 2 z fL z (Δ 3 z lL z (ν 5 z fL z (Δ 6 z lL z (ν 7 z fL z (Δ 8 z lL z (ν 10 z fL z (Δ 11 z (ck_ z D8 ug z) z (ν 12 z fL z (Δ 13 z (ck_ z D8 ug z) z (ν 15 z fL z (Δ 16 z lL z (ν 17 z fL z ?_)))))))))))))));refine Δ 18 z lL z (ν 20 z fL z (Δ 21 z lL z (ν 23 z fL z (Δ 24 z lL z (Φ 4 z (eG (Gf_ u8) z z zp_ z z z (k0 ?_)))))));refine Φ 9 z (eG (Gf_ u13) z z zp_ z z z (k0 ?_));refine Θ 1 z z (Φ 14 z (XE (Con.lendC (λ_ dw dF=>Con.lendC (λ_ dR vG=>p7_ (RS.co_ (l:=[x0.set.a,x0.set.b,x0.set.c,x0.set.d]) (dR _ _ dF) ur_ ut_ z z z) (RS.co_ (l:=[x1.set.a,x1.set.b,x1.set.c,x1.set.d]) vG ur_ ut_ z z z) Jb))) z z pf164 z z z z ⟨(λw h=>um (ak.le.refl _) (λr hr=>wI [1,0] z hr) w h),?_⟩));refine Φ 19 z (eG (Io_ u23) z z QE z z z ⟨(λw h=>um (ak.le.refl _) (λr hr=>wI [1,0] z hr) w h),?_⟩);refine Φ 22 z (eG (Jz_ u26) z z QD z z z ⟨(λw h=>um (ak.le.refl _) (λr hr=>wI [1,0] z hr) w h),?_⟩);refine Φ 25 z (eG (Jz_ u29) z z QD z z z ⟨(λw h=>um (ak.le.refl _) (λr hr=>wI [1,0] z hr) w h),?_⟩);refine Φ 26 z (eG (Gf_ u30) z z zp_ z z z ⟨(λw h=>um (ak.le.refl _) (λr hr=>wI [1,0] z hr) w h),?_⟩);refine Φ 27 z (gX (enc:=aB) [v8,v13,v18,v23,v30] (λwU c119=>⟨(λw h=>um (ak.le.refl _) (λr hr=>wI [2,1] z hr) w h),?_⟩));refine Φ 28 z (XE (Con.lend aW (λ_ eF pU=>K4_ pU u32)) z z QF z z z z ⟨(λw h=>um (ak.le.refl _) (λr hr=>wI [2,1] z hr) w h),?_⟩);refine ν 29 z mI z (R1 ?_);refine TC.rt 0 ?_;obtain rfl:=so hh;exact rq [4] ⟨z,z,z⟩
end Go.Proofs.YtcfgkcfcddfccaaGreatDoor
end

noncomputable section
namespace Go.E
open Go
section
variable {S R:Type} {step:S->Option (S⊕R)}
theorem iter_any {y no : R} (f : Nat -> S) (p : Nat -> Bool) (n : Nat) (hs : ∀ k, k < n -> p k = false -> step (f k) = some (.inl (f (k + 1)))) (hy : ∀ k, k < n -> p k = true -> step (f k) = some (.inr y))
    (hd:step (f n)=some (.inr no)): ∀k,k<=n->aV step (f k)=some (bif (List.range n).any (λi=>decide (k<=i) && p i) then y else no):=by
  intro k hk;obtain ⟨m,rfl⟩: ∃m,k=n - m:=⟨n - k,by omega⟩
  induction m with
  |zero=>
    have:(List.range n).any (λi=>decide (n - 0<=i) && p i)=false:=by
      rw [List.any_eq_false];intro i hi;have:=List.mem_range.1 hi;simp;omega
    rw [this];exact DU hd
  |succ m ih=>
    by_cases h:m<n
    · have e:n - (m+1)+1=n - m:=by omega
      cases hp:p (n - (m+1))with
      |true=>
        have:(List.range n).any (λi=>decide (n - (m+1)<=i) && p i)=true:=by
          rw [List.any_eq_true];exact ⟨n - (m+1),List.mem_range.2 (by omega),by simp [hp]⟩
        rw [this];exact DU (hy _ (by omega) hp)
      |false=>
        have h1:=hs (n - (m+1)) (by omega) hp;rw [e]at h1;have:(List.range n).any (λi=>decide (n - (m+1)<=i) && p i)=(List.range n).any (λi=>decide (n - m<=i) && p i):=by
          rw [Bool.eq_iff_iff,List.any_eq_true,List.any_eq_true];constructor
          · rintro ⟨i,hi,hx⟩
            simp only [Bool.and_eq_true,dA]at hx;refine ⟨i,hi,?_⟩;have:i≠n - (m+1):=λh=>by rw [h,hp]at hx;exact absurd hx.2 Bool.false_ne_true
            simp [hx.2];omega
          rintro ⟨i,hi,hx⟩;simp only [Bool.and_eq_true,dA]at hx;exact ⟨i,hi,by simp [hx.2];omega⟩
        rw [this];exact Nh h1 (ih (by omega))
    have e:n - (m+1)=n - m:=by omega
    rw [e];exact ih (by omega)
theorem xt_{y no:R}(f:Nat->S)(p:Nat->Bool)(n:Nat)(hs: ∀k,k<n->p k=false->step (f k)=some (.inl (f (k+1))))(hy: ∀k,k<n->p k=true->step (f k)=some (.inr y))
    (hd:step (f n)=some (.inr no)):aV step (f 0)=some (bif (List.range n).any p then y else no):=by
  have:=iter_any f p n hs hy hd 0 (by omega);simpa using this
theorem nx_{r:R}(f:Nat->S)(n:Nat)(hs: ∀k,k<n->step (f k)=some (.inl (f (k+1))))(hd:step (f n)=some (.inr r)):aV step (f 0)=some r:=iter_seq f n hs hd 0 (by omega)
end
theorem ys_{α:Type}(l:List α)(d:α)(p:α->Bool):(List.range l.length).any (λi=>p (nth l i d))=l.any p:=by
  rw [Bool.eq_iff_iff,List.any_eq_true,List.any_eq_true];constructor
  · rintro ⟨i,hi,h⟩
    have hi:=List.mem_range.1 hi;exact ⟨nth l i d,List.mem_of_getElem? (getD_some l hi d),h⟩
  rintro ⟨x,hx,h⟩;obtain ⟨i,hi,rfl⟩:=List.getElem_of_mem hx;refine ⟨i,List.mem_range.2 hi,?_⟩;have:nth l i d=l[i]:=by have:=getD_some l hi d;rw [List.getElem?_eq_getElem hi]at this;exact (Option.some.inj this).symm
  rw [this];exact h
theorem jS{α:Type}(l:List α){k:Nat}(h:k<l.length)(d:α):l.take (k+1)=l.take k++[nth l k d]:=by
  rw [List.take_add_one,getD_some l h d];rfl
theorem jB{α:Type}{l:List α}{i:Nat}(h:i<l.length)(d:α):nth l i d∈l:=List.mem_of_getElem? (getD_some l h d)
end Go.E
end
