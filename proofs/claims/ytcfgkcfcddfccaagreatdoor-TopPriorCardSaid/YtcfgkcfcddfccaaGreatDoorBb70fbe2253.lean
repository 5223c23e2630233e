/- Parts of a proof, one behind the other: what a machine reaches, functions decompiled, plain lemmas. Conditions stand with each lemma. -/
import Derived.Test.YtcfgkcfcddfccaaGreatDoorB147a8df593
import Derived.Shelf.Strconv.Itoa3
import Derived.RangeFuncLeaves
import Derived.Shelf.SlSortCmp.NoneTotal
import Derived.Shelf.Sort.Plain
import Derived.Test.YtcfgkcfcddfccaaGreatDoorChecked

set_option linter.unusedVariables false
set_option linter.unusedSimpArgs false
set_option linter.unusedSectionVars false
set_option maxRecDepth 100000
set_option maxHeartbeats 8000000
variable {aB ay aG dh rE bY dV iI uU:Option Go.Addr}{kE wK C_ aZ qm fG jJ aA aH au rC ru bW iR dU uO:Nat}

noncomputable section
namespace Go.E
open Go Go.E.OpVal
theorem agF{P:Program}{t:TypeId}{v:Option Bool}(h:aggOf P t=v:=by first|with_reducible exact CW|with_reducible exact zn_|with_reducible exact z2_|with_reducible exact vj_|with_reducible exact pV|with_reducible exact ag35|with_reducible exact wt_|with_reducible exact ag9|with_reducible exact wx_|with_reducible exact ag49|with_reducible exact ag4|with_reducible exact Jm|with_reducible exact ag79|with_reducible exact ag65|with_reducible exact ag27|with_reducible exact JA|with_reducible exact Jl|with_reducible exact ag138|with_reducible exact Xk|with_reducible exact ag137|with_reducible exact ag192|with_reducible exact ag106|with_reducible exact aas_|with_reducible exact ag5|with_reducible exact ag56|with_reducible exact KN|with_reducible exact ag53|with_reducible exact ag84|with_reducible exact ag108|with_reducible exact ag119|with_reducible exact ag107|with_reducible exact ag153|with_reducible exact ag69):aggOf P t=v:=h
theorem szF{P:Program}{t:TypeId}{v w:Option Nat}(h:szOf P t=w:=by first|with_reducible exact oq|with_reducible exact uh_|with_reducible exact Ql|with_reducible exact jy|with_reducible exact Qn|with_reducible exact Qc|with_reducible exact sz4|with_reducible exact jM|with_reducible exact PL|with_reducible exact Qi|with_reducible exact Bh|with_reducible exact zw_|with_reducible exact xs_|with_reducible exact X6|with_reducible exact sz5|with_reducible exact Qj|with_reducible exact KU|with_reducible exact IX|with_reducible exact TW|with_reducible exact T_|with_reducible exact sz137|with_reducible exact EU|with_reducible exact TT|with_reducible exact JB|with_reducible exact TY|with_reducible exact Qk|with_reducible exact aaq_|with_reducible exact zx_|with_reducible exact Ua|with_reducible exact sz84|with_reducible exact sz187|with_reducible exact sz199|with_reducible exact Ub|with_reducible exact sz108)(h':w=v:=by rfl):szOf P t=v:=h.trans h'
theorem foF{P:Program}{t i:Nat}{v w:Option Nat}(h:foOf P t i=w:=by first|with_reducible exact kb_|with_reducible exact ke_|with_reducible exact n1_|with_reducible exact mj_|with_reducible exact mh_|with_reducible exact p9_|with_reducible exact mi_|with_reducible exact n3_|with_reducible exact oi_|with_reducible exact kx_|with_reducible exact lk_|with_reducible exact s3_|with_reducible exact mu_|with_reducible exact yb_|with_reducible exact fo93_1|with_reducible exact s1_|with_reducible exact fo212_0|with_reducible exact w6_|with_reducible exact fo210_0|with_reducible exact yp_|with_reducible exact fo210_1|with_reducible exact yx_|with_reducible exact fo65_2|with_reducible exact fo65_1|with_reducible exact Yi|with_reducible exact x5_|with_reducible exact sa_|with_reducible exact rz_|with_reducible exact r8_|with_reducible exact r9_|with_reducible exact fo110_5|with_reducible exact r5_|with_reducible exact fo121_1|with_reducible exact fo110_1|with_reducible exact fo199_0|with_reducible exact fo110_3|with_reducible exact fo110_0|with_reducible exact fo121_0|with_reducible exact fo110_4|with_reducible exact fo110_2|with_reducible exact fo187_0|with_reducible exact fo71_0)(h':w=v:=by rfl):foOf P t i=v:=h.trans h'
theorem unF{P:Program}{t:TypeId}{v:Option TypeDesc}(h:P.underlying t=v:=by first|with_reducible exact Tryz.underlying31|with_reducible exact Tryz.underlying32|with_reducible exact Tryz.underlying22|with_reducible exact Tryz.underlying23|with_reducible exact Tryz.underlying33|with_reducible exact Tryz.underlying131|with_reducible exact Tryz.underlying9|with_reducible exact Tryz.underlying3|with_reducible exact Tryz.underlying47|with_reducible exact Tryz.underlying63|with_reducible exact Tryz.underlying84|with_reducible exact Tryz.underlying5|with_reducible exact Tryz.underlying106|with_reducible exact Tryz.underlying45|with_reducible exact Tryz.underlying4|with_reducible exact Tryz.underlying224|with_reducible exact Tryz.underlying171|with_reducible exact Tryz.underlying137|with_reducible exact Tryz.underlying138|with_reducible exact Tryz.underlying98|with_reducible exact Tryz.underlying208|with_reducible exact Tryz.underlying250|with_reducible exact Tryz.underlying54|with_reducible exact Tryz.underlying53|with_reducible exact Tryz.underlying153|with_reducible exact Tryz.underlying154|with_reducible exact Tryz.underlying187|with_reducible exact Tryz.underlying107|with_reducible exact Tryz.underlying119|with_reducible exact Tryz.underlying108|with_reducible exact Tryz.underlying248|with_reducible exact Tryz.underlying155|with_reducible exact Tryz.underlying244|with_reducible exact Tryz.underlying203):P.underlying t=v:=h
theorem zeF{P:Program}{t:TypeId}{v w:Option Value}(h:zeroOf P t=w:=by first|with_reducible exact yF|with_reducible exact ku|with_reducible exact ze25|with_reducible exact zj_|with_reducible exact ze35|with_reducible exact zo_|with_reducible exact rP|with_reducible exact ze4|with_reducible exact P9|with_reducible exact PK|with_reducible exact ze5|with_reducible exact TS|with_reducible exact ze27|with_reducible exact ze33|with_reducible exact ze93|with_reducible exact ze63|with_reducible exact ze212|with_reducible exact ze210|with_reducible exact ze192|with_reducible exact ze138|with_reducible exact ze137|with_reducible exact Kw|with_reducible exact XK|with_reducible exact PN|with_reducible exact TQ|with_reducible exact yu_|with_reducible exact ze199|with_reducible exact ze121|with_reducible exact XM|with_reducible exact XL|with_reducible exact ze110|with_reducible exact TR|with_reducible exact ze71)(h':w=v:=by rfl):zeroOf P t=v:=h.trans h'
theorem byF{P:Program}{t:TypeId}{v w:Option Nat}(h:byOf P t=w:=by first|with_reducible exact mG|with_reducible exact IG|with_reducible exact by79|with_reducible exact by4|with_reducible exact by49|with_reducible exact by5|with_reducible exact by47|with_reducible exact by129|with_reducible exact by63|with_reducible exact by33|with_reducible exact Z5|with_reducible exact XO|with_reducible exact Z7|with_reducible exact by22|with_reducible exact by153)(h':w=v:=by rfl):byOf P t=v:=h.trans h'
theorem hq0{α:Type _}{r0:α}{l:List α}:(r0::l)[0]? =some r0:=rfl
theorem hq1{α:Type _}{r0 r1:α}{l:List α}:(r0::r1::l)[1]? =some r1:=rfl
theorem hq2{α:Type _}{r0 r1 r2:α}{l:List α}:(r0::r1::r2::l)[2]? =some r2:=rfl
theorem hq3{α:Type _}{r0 r1 r2 r3:α}{l:List α}:(r0::r1::r2::r3::l)[3]? =some r3:=rfl
theorem hq4{α:Type _}{r0 r1 r2 r3 r4:α}{l:List α}:(r0::r1::r2::r3::r4::l)[4]? =some r4:=rfl
theorem hq5{α:Type _}{r0 r1 r2 r3 r4 r5:α}{l:List α}:(r0::r1::r2::r3::r4::r5::l)[5]? =some r5:=rfl
theorem hq6{α:Type _}{r0 r1 r2 r3 r4 r5 r6:α}{l:List α}:(r0::r1::r2::r3::r4::r5::r6::l)[6]? =some r6:=rfl
theorem hq7{α:Type _}{r0 r1 r2 r3 r4 r5 r6 r7:α}{l:List α}:(r0::r1::r2::r3::r4::r5::r6::r7::l)[7]? =some r7:=rfl
theorem hq8{α:Type _}{r0 r1 r2 r3 r4 r5 r6 r7 r8:α}{l:List α}:(r0::r1::r2::r3::r4::r5::r6::r7::r8::l)[8]? =some r8:=rfl
theorem Ho{α:Type _}{r0 r1 r2 r3 r4 r5 r6 r7 r8 r9:α}{l:List α}:(r0::r1::r2::r3::r4::r5::r6::r7::r8::r9::l)[9]? =some r9:=rfl
theorem GK{α:Type _}{r0 r1 r2 r3 r4 r5 r6 r7 r8 r9 r10:α}{l:List α}:(r0::r1::r2::r3::r4::r5::r6::r7::r8::r9::r10::l)[10]? =some r10:=rfl
theorem Gz{α:Type _}{r0 r1 r2 r3 r4 r5 r6 r7 r8 r9 r10 r11:α}{l:List α}:(r0::r1::r2::r3::r4::r5::r6::r7::r8::r9::r10::r11::l)[11]? =some r11:=rfl
theorem GU{α:Type _}{r0 r1 r2 r3 r4 r5 r6 r7 r8 r9 r10 r11 r12:α}{l:List α}:(r0::r1::r2::r3::r4::r5::r6::r7::r8::r9::r10::r11::r12::l)[12]? =some r12:=rfl
theorem GN{α:Type _}{r0 r1 r2 r3 r4 r5 r6 r7 r8 r9 r10 r11 r12 r13:α}{l:List α}:(r0::r1::r2::r3::r4::r5::r6::r7::r8::r9::r10::r11::r12::r13::l)[13]? =some r13:=rfl
theorem GY{α:Type _}{r0 r1 r2 r3 r4 r5 r6 r7 r8 r9 r10 r11 r12 r13 Uh:α}{l:List α}:(r0::r1::r2::r3::r4::r5::r6::r7::r8::r9::r10::r11::r12::r13::Uh::l)[14]? =some Uh:=rfl
theorem GH{α:Type _}{r0 r1 r2 r3 r4 r5 r6 r7 r8 r9 r10 r11 r12 r13 Uh r15:α}{l:List α}:(r0::r1::r2::r3::r4::r5::r6::r7::r8::r9::r10::r11::r12::r13::Uh::r15::l)[15]? =some r15:=rfl
theorem GX{α:Type _}{r0 r1 r2 r3 r4 r5 r6 r7 r8 r9 r10 r11 r12 r13 Uh r15 r16:α}{l:List α}:(r0::r1::r2::r3::r4::r5::r6::r7::r8::r9::r10::r11::r12::r13::Uh::r15::r16::l)[16]? =some r16:=rfl
theorem GV{α:Type _}{r0 r1 r2 r3 r4 r5 r6 r7 r8 r9 r10 r11 r12 r13 Uh r15 r16 r17:α}{l:List α}:(r0::r1::r2::r3::r4::r5::r6::r7::r8::r9::r10::r11::r12::r13::Uh::r15::r16::r17::l)[17]? =some r17:=rfl
section
variable {P:Program} {n:Nat} {o:Oper} {e:Env} {σ:aj} {H:List Res} {x y:Operand}
theorem mI{k:IntKind}{a:Int}(ho:EI o.op x:=by first|exact .inl rfl|exact .inr rfl)(hx:ev e x= .int k a:=by rfl):OpVal P n o e σ H (.int k a):=OpVal.l7 ho hx
theorem mB{b:Bool}(ho:EI o.op x:=by first|exact .inl rfl|exact .inr rfl)(hx:ev e x= .bool b:=by rfl):OpVal P n o e σ H (.bool b):=OpVal.moveB ho hx
theorem mS{a:Option Addr}{m c:Nat}(ho:EI o.op x:=by first|exact .inl rfl|exact .inr rfl)(hx:ev e x= .slice a m c:=by rfl):OpVal P n o e σ H (.slice a m c):=OpVal.Z8 ho hx
theorem mL{b k:Nat}(ho:EI o.op x:=by first|exact .inl rfl|exact .inr rfl)(hx:ev e x=loc b k:=by rfl):OpVal P n o e σ H (loc b k):=OpVal.cg_ ho hx
theorem mT{cs:Array Value}(ho:EI o.op x:=by first|exact .inl rfl|exact .inr rfl)(hx:ev e x= .tuple cs:=by rfl):OpVal P n o e σ H (.tuple cs):=OpVal.moveT ho hx
theorem fL{T i off b k:Nat}(ho:o.op= .fieldAddr T x i:=by rfl)(hf:foOf P T i=some off:=by exact foF)(hx:ev e x=loc b k:=by rfl):OpVal P n o e σ H (loc b (k+off)):=OpVal.Gi ho hf hx
theorem lL{T b k E i:Nat}{cs:Array Value}{u:Value}(ho:o.op= .load T x:=by rfl)(hA:aggOf P T=some false:=by exact agF)(hx:ev e x=loc b k:=by rfl)(hi:H[i]? =some (ω b cs E):=by first|with_reducible exact hq0|with_reducible exact hq1|with_reducible exact hq2|with_reducible exact hq3|with_reducible exact hq4|with_reducible exact hq5|with_reducible exact hq6|with_reducible exact hq7|with_reducible exact hq8|with_reducible exact Ho|with_reducible exact GK|with_reducible exact Gz|with_reducible exact GU|with_reducible exact GN|with_reducible exact GY|with_reducible exact GH|with_reducible exact GX|with_reducible exact GV|exact hq0|exact hq1|exact hq2|exact hq3|exact hq4|exact hq5|exact hq6|exact hq7|exact hq8|exact Ho|exact GK|exact Gz|exact GU|exact GN|exact GY|exact GH|exact GX|exact GV)(hk:cs[k]? =some u:=by rfl):OpVal P n o e σ H u:=OpVal.Aj ho hA hx hi hk
theorem lA{T b E i s:Nat}{cs:Array Value}(ho:o.op= .load T x:=by rfl)(hA:aggOf P T=some true:=by exact agF)(hz:szOf P T=some s:=by exact szF)(hx:ev e x=loc b 0:=by rfl)(hi:H[i]? =some (ω b cs E):=by first|with_reducible exact hq0|with_reducible exact hq1|with_reducible exact hq2|with_reducible exact hq3|with_reducible exact hq4|with_reducible exact hq5|with_reducible exact hq6|with_reducible exact hq7|with_reducible exact hq8|with_reducible exact Ho|with_reducible exact GK|with_reducible exact Gz|with_reducible exact GU|with_reducible exact GN|with_reducible exact GY|with_reducible exact GH|with_reducible exact GX|with_reducible exact GV|exact hq0|exact hq1|exact hq2|exact hq3|exact hq4|exact hq5|exact hq6|exact hq7|exact hq8|exact Ho|exact GK|exact Gz|exact GU|exact GN|exact GY|exact GH|exact GX|exact GV)(hl:cs.size=s:=by rfl):OpVal P n o e σ H (.agg cs):=OpVal.bd_ ho hA hz hx hi hl
theorem lB{T b k E i s:Nat}{cs:Array Value}{us:List Value}(ho:o.op= .load T x:=by rfl)(hA:aggOf P T=some true:=by exact agF)(hz:szOf P T=some s:=by exact szF)(hx:ev e x=loc b k:=by rfl)(hi:H[i]? =some (ω b cs E):=by first|with_reducible exact hq0|with_reducible exact hq1|with_reducible exact hq2|with_reducible exact hq3|with_reducible exact hq4|with_reducible exact hq5|with_reducible exact hq6|with_reducible exact hq7|with_reducible exact hq8|with_reducible exact Ho|with_reducible exact GK|with_reducible exact Gz|with_reducible exact GU|with_reducible exact GN|with_reducible exact GY|with_reducible exact GH|with_reducible exact GX|with_reducible exact GV|exact hq0|exact hq1|exact hq2|exact hq3|exact hq4|exact hq5|exact hq6|exact hq7|exact hq8|exact Ho|exact GK|exact Gz|exact GU|exact GN|exact GY|exact GH|exact GX|exact GV)(hk:(cs.toList.drop k).take s=us:=by rfl)(hl:us.length=s:=by rfl):OpVal P n o e σ H (.agg us.toArray):=OpVal.bu_ ho hA hz hx hi hl hk
theorem lC{t E m c:Nat}{a:Option Addr}(ho:o.op= .call {callee:= .builtin .len,args:= #[x],argTypes:= #[t]}:=by rfl)(ht:P.underlying t=some (.slice E):=by exact unF)(hx:ev e x= .slice a m c:=by rfl):OpVal P n o e σ H (.int .i64 (m:Nat)):=OpVal.lenC ho ht hx
theorem isF{v:Value}{m:Nat}(h:uo v m:=by first|assumption|exact RV.sl (RS.rv (by assumption))|exact RZ.isSl (by assumption)|exact ZOk.isSl (by assumption) (by assumption)|exact VwOk.sl (by assumption)):uo v m:=h
theorem iN{T E size m c m':Nat}{a:Option Addr}{k:IntKind}{i:Nat}(ho:o.op= .indexAddr T x y:=by rfl)(ht:P.underlying T=some (.slice E):=by exact unF)(hz:szOf P E=some size:=by exact szF)(hx:ev e x= .slice a m c:=by rfl)(hy:ev e y= .int k (i:Nat):=by rfl)(hs:uo (.slice a m c) m':=by first|assumption|exact RV.sl (RS.rv (by assumption))|exact RZ.isSl (by assumption)|exact ZOk.isSl (by assumption) (by assumption)|exact VwOk.sl (by assumption))(h1:i<m':=by omega):OpVal P n o e σ H (lF (.slice a m c) (i * size)):=OpVal.A_ ho ht hz hx hy hs h1
theorem iX{T E size m c m':Nat}{a:Option Addr}{k:IntKind}{i:Int}(ho:o.op= .indexAddr T x y:=by rfl)(ht:P.underlying T=some (.slice E):=by exact unF)(hz:szOf P E=some size:=by exact szF)(hx:ev e x= .slice a m c:=by rfl)(hy:ev e y= .int k i:=by rfl)(hs:uo (.slice a m c) m':=by first|assumption|exact RV.sl (RS.rv (by assumption))|exact RZ.isSl (by assumption)|exact ZOk.isSl (by assumption) (by assumption)|exact VwOk.sl (by assumption))(h1:0<=i/\i<m':=by omega):OpVal P n o e σ H (lF (.slice a m c) (i.toNat * size)):=OpVal.index ho ht hz hx hy hs h1.1 h1.2
theorem iA{T E size m b q:Nat}{k:IntKind}{i:Nat}(ho:o.op= .indexAddr T x y:=by rfl)(ht:P.underlying T=some (.array m E):=by exact unF)(hz:szOf P E=some size:=by exact szF)(hx:ev e x=loc b q:=by rfl)(hy:ev e y= .int k (i:Nat):=by rfl)(h1:i<m:=by omega):OpVal P n o e σ H (loc b (q+i * size)):=OpVal.ba_ ho ht hz hx hy h1
theorem fE{T i off m c k m':Nat}{a:Option Addr}(ho:o.op= .fieldAddr T x i:=by rfl)(hf:foOf P T i=some off:=by exact foF)(hx:ev e x=lF (.slice a m c) k:=by rfl)(hs:uo (.slice a m c) m':=by first|assumption|exact RV.sl (RS.rv (by assumption))|exact RZ.isSl (by assumption)|exact ZOk.isSl (by assumption) (by assumption)|exact VwOk.sl (by assumption))(hj:0<m':=by omega):OpVal P n o e σ H (lF (.slice a m c) (k+off)):=OpVal.c3_ ho hf hx hs hj
theorem l1{α:Type}{T i m c:Nat}{a:Option Addr}{enc:α->List Value}{u:Value}{l:List α}(ho:o.op= .load T x:=by rfl)(hA:aggOf P T=some false:=by exact agF)(hx:ev e x=lF (.slice a m c) (i * 1):=by rfl)(hR:RS σ 1 enc (.slice a m c) l:=by assumption)(hi:i<l.length:=by omega)(d:α:=by first|exact (0:Int)|exact false|exact aY|exact aQ|exact BSet.zero|exact (0:UInt8)|exact Arrow.zero|exact (0:Nat)|exact fH|exact ([]:List UInt8)|exact ([]:List Int))(hu:(enc (nth l i d))[0]? =some u:=by rfl):OpVal P n o e σ H u:=OpVal.dc_ d ho hA hx hR hi hu
theorem lS{α:Type}{T i m c size j:Nat}{a:Option Addr}{enc:α->List Value}{u:Value}{l:List α}(ho:o.op= .load T x:=by rfl)(hA:aggOf P T=some false:=by exact agF)(hx:ev e x=lF (.slice a m c) (i * size+j):=by rfl)(hR:RS σ size enc (.slice a m c) l:=by assumption)(hi:i<l.length:=by omega)(hj:j<size:=by omega)(d:α:=by first|exact (0:Int)|exact false|exact aY|exact aQ|exact BSet.zero|exact (0:UInt8)|exact Arrow.zero|exact (0:Nat)|exact fH|exact ([]:List UInt8)|exact ([]:List Int))(hu:(enc (nth l i d))[j]? =some u:=by rfl):OpVal P n o e σ H u:=OpVal.loadS d ho hA hx hR hi hj hu
theorem lT{α:Type}{T i m c size:Nat}{a:Option Addr}{enc:α->List Value}{l:List α}(ho:o.op= .load T x:=by rfl)(hA:aggOf P T=some true:=by exact agF)(hz:szOf P T=some size:=by exact szF)(hx:ev e x=lF (.slice a m c) (i * size):=by rfl)(hR:RS σ size enc (.slice a m c) l:=by assumption)(hi:i<l.length:=by omega)(h0:0<size:=by omega)(d:α:=by first|exact (0:Int)|exact false|exact aY|exact aQ|exact BSet.zero|exact (0:UInt8)|exact Arrow.zero|exact (0:Nat)|exact fH|exact ([]:List UInt8)|exact ([]:List Int)):OpVal P n o e σ H (.agg (enc (nth l i d)).toArray):=OpVal.du_ d ho hA hz hx hR hi h0
theorem o1{α:Type}{T E i m c q:Nat}{a:Option Addr}{enc:α->List Value}{u:Value}{l:List α}(ho:o.op= .load T x:=by rfl)(hA:aggOf P T=some false:=by exact agF)(hx:ev e x=lF (.slice a m c) (i * 1):=by rfl)(hq:H[q]? =some (ε E 1 enc (.slice a m c) l):=by first|with_reducible exact hq0|with_reducible exact hq1|with_reducible exact hq2|with_reducible exact hq3|with_reducible exact hq4|with_reducible exact hq5|with_reducible exact hq6|with_reducible exact hq7|with_reducible exact hq8|with_reducible exact Ho|with_reducible exact GK|with_reducible exact Gz|with_reducible exact GU|with_reducible exact GN|with_reducible exact GY|with_reducible exact GH|with_reducible exact GX|with_reducible exact GV|exact hq0|exact hq1|exact hq2|exact hq3|exact hq4|exact hq5|exact hq6|exact hq7|exact hq8|exact Ho|exact GK|exact Gz|exact GU|exact GN|exact GY|exact GH|exact GX|exact GV)(hi:i<l.length:=by omega)(hl: ∀x,(enc x).length=1:=by exact λ_=>rfl)(d:α:=by first|exact (0:Int)|exact false|exact aY|exact aQ|exact BSet.zero|exact (0:UInt8)|exact Arrow.zero|exact (0:Nat)|exact fH|exact ([]:List UInt8)|exact ([]:List Int))(hu:(enc (nth l i d))[0]? =some u:=by rfl):OpVal P n o e σ H u:=OpVal.c4_ d ho hA hx hq hl hi hu
theorem oT{α:Type}{T E i m c q size:Nat}{a:Option Addr}{enc:α->List Value}{l:List α}(ho:o.op= .load T x:=by rfl)(hA:aggOf P T=some true:=by exact agF)(hz:szOf P T=some size:=by exact szF)(hx:ev e x=lF (.slice a m c) (i * size):=by rfl)(hq:H[q]? =some (ε E size enc (.slice a m c) l):=by first|with_reducible exact hq0|with_reducible exact hq1|with_reducible exact hq2|with_reducible exact hq3|with_reducible exact hq4|with_reducible exact hq5|with_reducible exact hq6|with_reducible exact hq7|with_reducible exact hq8|with_reducible exact Ho|with_reducible exact GK|with_reducible exact Gz|with_reducible exact GU|with_reducible exact GN|with_reducible exact GY|with_reducible exact GH|with_reducible exact GX|with_reducible exact GV|exact hq0|exact hq1|exact hq2|exact hq3|exact hq4|exact hq5|exact hq6|exact hq7|exact hq8|exact Ho|exact GK|exact Gz|exact GU|exact GN|exact GY|exact GH|exact GX|exact GV)(hi:i<l.length:=by omega)(hl: ∀x,(enc x).length=size:=by exact λ_=>rfl)(h0:0<size:=by omega)(d:α:=by first|exact (0:Int)|exact false|exact aY|exact aQ|exact BSet.zero|exact (0:UInt8)|exact Arrow.zero|exact (0:Nat)|exact fH|exact ([]:List UInt8)|exact ([]:List Int)):OpVal P n o e σ H (.agg (enc (nth l i d)).toArray):=OpVal.loadOA d ho hA hz hx hq hl hi h0
theorem plF{T:TypeId}{v w:Option (Array (Nat×Nat))}(h:plOf P T=w:=by first|with_reducible exact pl25|with_reducible exact pl35|with_reducible exact pl79|with_reducible exact pl65|with_reducible exact pl49|with_reducible exact pl93|with_reducible exact pl129|with_reducible exact pl212|with_reducible exact pl210|with_reducible exact pl56|with_reducible exact pl187|with_reducible exact pl199|with_reducible exact pl110|with_reducible exact pl71)(h':w=v:=by rfl):plOf P T=v:=h.trans h'
theorem bL{T:TypeId}{parts:Array (Nat×Operand)}{pl:Array (Nat×Nat)}{z:Value}{cs:List Value}(ho:o.op= .build T parts:=by rfl)(hp:plOf P T=some pl:=by exact plF)(hz:zeroOf P T=some z:=by exact zeF)(hf:Lh (λi=>pl.toList[i]?) z.cells.toList (parts.toList.map λx=>(x.1,ev e x.2))=some cs:=by rfl):OpVal P n o e σ H (.agg cs.toArray):=OpVal.buildL ho hp hz hf
end
section
variable {X:Ctx} {ops:Array Oper} {Q:QP} {e:Env} {σ σr:aj} {H Hr:List Res} {late:List Nat} {fuel:Nat} {listed:Array Bool}
theorem TA.of(i:Nat){oi:Oper}{d:Nat}(hi:ops[i]? =some oi)(h:gdC X.n ops e oi=some (false,d))(k:TA X ops Q σr Hr late fuel (listed.setIfInBounds i true) (upd e d undef) σ H)(hs:Region.noSelect ops=true:=by kernel_rfl)(hf:Region.free .any ops listed i=true:=by kernel_rfl)(hr:(Region.ready .any ops listed).contains i=true:=by kernel_rfl)(hl:late.all (λj=>after? ops ops.size j i)=true:=by kernel_rfl):TA X ops Q σr Hr late (fuel+1) listed e σ H:=by
  obtain ⟨h1,h2,j,b,oj,dj,h3,h4,h5,h6,h7⟩:=vn_ h;refine TA.dk_ i hi hs hf hr hl (λa ha=> .inr ⟨?_,rfl⟩) h1 h2 k;have hy:=Xc ha h4 h5 h6;unfold Region.wanted;rw [h3];show (yielded ops a.tmps j == some b)=false;rw [hy];generalize e dj=v at h7;cases v
  case bool b'=>cases b<;>cases b'<;>first|rfl|exact Bool.noConfusion (show true=false from h7)
  all_goals (cases b<;>rfl)
theorem TA.oN(i:Nat){oi:Oper}{d:Nat}{v:Value}(hi:ops[i]? =some oi)(h:gdC X.n ops e oi=some (true,d))(hv:OpVal X.P X.n oi e σr Hr v)(k:TA X ops Q σr Hr late fuel (listed.setIfInBounds i true) (upd e d v) σ H)(hs:Region.noSelect ops=true:=by kernel_rfl)(hf:Region.free .any ops listed i=true:=by kernel_rfl)(hr:(Region.ready .any ops listed).contains i=true:=by kernel_rfl)(hl:late.all (λj=>after? ops ops.size j i)=true:=by kernel_rfl):TA X ops Q σr Hr late (fuel+1) listed e σ H:=by
  obtain ⟨h1,h2,j,b,oj,dj,h3,h4,h5,h6,h7⟩:=vn_ h;have hb:e dj= .bool b:=by
    generalize e dj=v at h7;cases v
    case bool b'=>cases b<;>cases b'<;>first|rfl|exact Bool.noConfusion (show false=true from h7)
    all_goals exact Bool.noConfusion (show false=true from h7)
  exact TA.on i hi h3 h4 h5 hv h1 k hs hf hr hl h6 hb h2
theorem TA.aw(i:Nat){oi:Oper}{v:Value}{d:Nat}(hi:ops[i]? =some oi)(hv:OpVal X.P X.n oi e (λ_=>none) [] v)(hd:plC X.n oi=some d)
    (k:TA X ops Q σr Hr late fuel (listed.setIfInBounds i true) (upd e d v) σ H) (hs:Region.noSelect ops=true:=by kernel_rfl) (hf:Region.free .any ops listed i=true:=by kernel_rfl) (hr:(Region.ready .any ops listed).contains i=true:=by kernel_rfl):TA X ops Q σr Hr late (fuel+1) listed e σ H:=
  TA.OU i hi hs hf hr (pm_ hd).1 hv (pm_ hd).2.1 (pm_ hd).2.2 k
end
section
variable {P:Program} {fn:Func} {n:Nat} {e:Env} {σ:aj} {H:List Res}
theorem rz{ex:Exit}{Post:Value->aj->List Res->Prop}{F:List Res}{rs:List ResultVar}{vs:List Value}(hr:fn.results=rs.toArray:=by exact rfl)(h:RVs P n e H rs vs:=by repeat (first|exact RVs.nil|(apply RVs.tmp;exact rfl)|(apply RVs.agg;exact agF)|(apply RVs.one;exact agF)|exact szF|exact rfl|with_reducible exact hq0|with_reducible exact hq1|with_reducible exact hq2|with_reducible exact hq3|with_reducible exact hq4|with_reducible exact hq5|with_reducible exact hq6|with_reducible exact hq7|with_reducible exact hq8|with_reducible exact Ho|with_reducible exact GK|with_reducible exact Gz|with_reducible exact GU|with_reducible exact GN|with_reducible exact GY|with_reducible exact GH|with_reducible exact GX|with_reducible exact GV|exact hq0|exact hq1|exact hq2|exact hq3|exact hq4|exact hq5|exact hq6|exact hq7|exact hq8|exact Ho|exact GK|exact Gz|exact GU|exact GN|exact GY|exact GH|exact GX|exact GV))(hp:Post (tupV vs) σ F:=by repeat (first|exact rfl|assumption|exact RS.nilF _ _ λ_=>rfl|exact RZ.nilF _ _|apply Exists.intro|apply And.intro))(hs:F.Sublist H:=by exact List.sublist_append_left _ _)(hex:ex= .ret\/ex= .normal:=by first|exact .inl rfl|exact .inr rfl):RetOk P fn n Post ex e σ H:=RetOk.mk' F hr hex h hs hp
theorem ry{ex:Exit}{Post:Value->aj->List Res->Prop}{rs:List ResultVar}{vs:List Value}(hr:fn.results=rs.toArray:=by exact rfl)(h:RVs P n e H rs vs:=by repeat (first|exact RVs.nil|(apply RVs.tmp;exact rfl)|(apply RVs.agg;exact agF)|(apply RVs.one;exact agF)|exact szF|exact rfl|with_reducible exact hq0|with_reducible exact hq1|with_reducible exact hq2|with_reducible exact hq3|with_reducible exact hq4|with_reducible exact hq5|with_reducible exact hq6|with_reducible exact hq7|with_reducible exact hq8|with_reducible exact Ho|with_reducible exact GK|with_reducible exact Gz|with_reducible exact GU|with_reducible exact GN|with_reducible exact GY|with_reducible exact GH|with_reducible exact GX|with_reducible exact GV|exact hq0|exact hq1|exact hq2|exact hq3|exact hq4|exact hq5|exact hq6|exact hq7|exact hq8|exact Ho|exact GK|exact Gz|exact GU|exact GN|exact GY|exact GH|exact GX|exact GV))(hp:Post (tupV vs) σ H:=by repeat (first|exact rfl|assumption|exact RS.nilF _ _ λ_=>rfl|exact RZ.nilF _ _|apply Exists.intro|apply And.intro))(hex:ex= .ret\/ex= .normal:=by first|exact .inl rfl|exact .inr rfl):RetOk P fn n Post ex e σ H:=RetOk.mk' H hr hex h (List.Sublist.refl _) hp
end
section
variable {X:Ctx} {ops:Array Oper} {Q:QP} {e:Env} {σ:aj} {H:List Res} {rest:List Oper} {o:Oper} {x y:Operand}
theorem TL.al{E d:Nat}{z:Value}(k: ∀b,TL X ops Q rest (upd e d (loc b 0)) σ (ω b z.cells E::H))(hg:o.guard=none:=by exact rfl)(ho:o.op= .alloc E:=by exact rfl)(hz:zeroOf X.P E=some z:=by exact zeF)(hd:o.dst=some d:=by exact rfl)(hn:Nat.blt d X.n=true:=by exact rfl):TL X ops Q (o::rest) e σ H:=φ hg (OpOk.alloc ho hz hd hn k)
theorem TL.bx{E d:Nat}{cs:Array Value}(k: ∀b,TL X ops Q rest (upd e d (loc b 0)) σ (ω b cs E::H))(hg:o.guard=none:=by exact rfl)(ho:o.op= .box E x:=by exact rfl)(hd:o.dst=some d:=by exact rfl)(hn:Nat.blt d X.n=true:=by exact rfl)(hx:ev e x= .agg cs:=by exact rfl):TL X ops Q (o::rest) e σ H:=φ hg (OpOk.boxA ho hd hn hx k)
theorem cM{P:Program}{f:FuncId}{fn:Func}{c:Code}{args:List Value}(n:Nat){Post:Value->aj->List Res->Prop}(hf:P.funcs[f]? =some fn)(h: ∀w0,TC ⟨P,w0,fJ H,σ,n,none,none⟩ (retQ P fn n Post) c (LC args) σ H)(hb:fn.body=some c:=by exact rfl)(hn:fn.ntmps=n:=by exact rfl)(ha:Nat.ble args.length n=true:=by exact rfl):Con P f args.toArray σ H Post:=Con.mk hf hb hn ha h
theorem jc{α:Type}{T E size d m:Nat}{K:Env->aj->List Res->Prop}{enc:α->List Value}{parts:Array (Nat×Operand)}{z:Value}(l:List α)(k: ∀a c,K (upd e d (.slice a l.length c)) σ (ε E size enc (.slice a l.length c) l::H))(x0:α:=by first|exact (0:Int)|exact false|exact aY|exact aQ|exact BSet.zero|exact (0:UInt8)|exact Arrow.zero|exact (0:Nat)|exact fH|exact ([]:List UInt8)|exact ([]:List Int))
    (ho:o.op= .buildSlice T m parts:=by rfl) (ht:X.P.underlying T=some (.slice E):=by exact unF) (hs:szOf X.P E=some size:=by exact szF) (hz:zeroOf X.P E=some z:=by exact zeF)
    (hd:o.dst=some d:=by rfl) (hn:Nat.blt d X.n=true:=by rfl) (hm:l.length=m:=by rfl) (h0:m * size≠0:=by decide) (hbig:m * size<=16777216:=by decide)
    (hx0:z.cells.toList=enc x0:=by rfl) (h00:0<size:=by decide)
    (hf:Lh (λi=>some (i * size,size)) ((List.replicate m x0).flatMap enc) (parts.toList.map λx=>(x.1,ev e x.2))=some (l.flatMap enc):=by rfl) (hmax:m<=281474976710656:=by decide) (hl: ∀x,(enc x).length=size:=by exact λ_=>rfl) (h1: ∀x, ∀u∈enc x,u.oneCell'=true:=by exact λ_=>List.all_eq_true.1 rfl):OpOk X o e σ H K:=
  OpOk.lit l ho ht hs hz hd hn hm hl h0 hbig x0 hx0 h00 hf hmax h1 k
theorem mk2{α:Type}{T E size jY d m:Nat}{K:Env->aj->List Res->Prop}{enc:α->List Value}{kl kc:IntKind}{z:Value}(x0:α)(k: ∀a c,K (upd e d (.slice a (List.replicate m x0).length c)) σ (ε E size enc (.slice a (List.replicate m x0).length c) (List.replicate m x0)::H))(ho:o.op= .makeSlice T x y:=by rfl)(ht:X.P.underlying T=some (.slice E):=by exact unF)(hs:szOf X.P E=some size:=by exact szF)(hby:byOf X.P E=some jY:=by exact byF)(hz:zeroOf X.P E=some z:=by exact zeF)
    (hd:o.dst=some d:=by rfl) (hn:Nat.blt d X.n=true:=by rfl) (hx:ev e x= .int kl (m:Nat):=by rfl) (hy:ev e y= .int kc (m:Nat):=by rfl) (hb:jY * m<=281474976710656:=by omega) (lW:0<jY:=by decide) (hl: ∀x,(enc x).length=size:=by exact λ_=>rfl) (h0:0<size:=by decide)
    (hz0:z.cells.toList=enc x0:=by rfl) (h1: ∀x, ∀u∈enc x,u.oneCell'=true:=by exact λ_=>List.all_eq_true.1 rfl):OpOk X o e σ H K:=OpOk.CV x0 ho ht hs hby hz hd hn hx hy hb lW hl h0 hz0 h1 k
theorem κ(i:Nat)(k:TL X ops Q rest e σ (QZ [i] H)):TL X ops Q rest e σ H:=TL.perm (ho_ [i] H) k
theorem TC.fr(i:Nat){c:Code}(k:TC X Q c e σ (QZ [i] H)):TC X Q c e σ H:=TC.perm (ho_ [i] H) k
theorem TC.dw{id:Nat}(late:List Nat)(h:TA X ops Q σ H late ops.size (Array.replicate ops.size false) e σ H)(hm:X.P.follows .mixedOrders=true:=by kernel_rfl)(hnd:ne_ ops=true:=by kernel_rfl):TC X Q (.region id ops true) e σ H:=TC.draw late hm h hnd
theorem sS{α:Type}{T E size i m c:Nat}{a:Option Addr}{F:List Res}{K:Env->aj->List Res->Prop}{enc:α->List Value}{u:Value}{l:List α}(q:α)(kk:K e σ (ε E size enc (.slice a m c) (l.set i q)::F))(ho:o.op= .store T x y:=by rfl)(hs:szOf X.P T=some size:=by exact szF)(hd:o.dst=none:=by rfl)(hx:ev e x=lF (.slice a m c) (i * size):=by rfl)(hv:ev e y=u:=by rfl)(hu:u.cells.toList=enc q:=by rfl)(hl: ∀x,(enc x).length=size:=by exact λ_=>rfl)
    (h1: ∀x, ∀u∈enc x,u.oneCell'=true:=by exact λ_=>List.all_eq_true.1 rfl) (h0:0<size:=by omega) (hi:i<l.length:=by omega):OpOk X o e σ (ε E size enc (.slice a m c) l::F) K:=OpOk.b8_ q ho hs hd hx hv hu hl h1 h0 hi kk
end
section
variable {X:Ctx} {ops:Array Oper} {Q:QP} {e:Env} {σ σr:aj} {H Hr:List Res} {late:List Nat} {fuel:Nat} {listed:Array Bool}
theorem Ω(i:Nat)(k:TA X ops Q σr Hr late fuel listed e σ (QZ [i] H)):TA X ops Q σr Hr late fuel listed e σ H:=λhnd w a hw hS hc ha=>k hnd w a (hw.perm (ho_ [i] H)) hS hc ha
theorem TZ.fr(i:Nat)(k:TZ X ops Q σr Hr late fuel listed e σ (QZ [i] H)):TZ X ops Q σr Hr late fuel listed e σ H:=λhnd w a hw ha=>k hnd w a (hw.perm (ho_ [i] H)) ha
theorem TA.la(i:Nat){oi:Oper}(hl:late.contains i=true)(hi:ops[i]? =some oi)(hg:oi.guard=none)(h:OpOk X oi e σ H λe' σ' H'=>TZ X ops Q σr Hr late fuel (listed.setIfInBounds i true) e' σ' H')(hr:Region.ready .any ops listed=[i]:=by kernel_rfl):TA X ops Q σr Hr late (fuel+1) listed e σ H:=TA.last i hr hl hi hg h
theorem TZ.la(i:Nat){oi:Oper}(hl:late.contains i=true)(hi:ops[i]? =some oi)(hg:oi.guard=none)(h:OpOk X oi e σ H λe' σ' H'=>TZ X ops Q σr Hr late fuel (listed.setIfInBounds i true) e' σ' H')(hr:Region.ready .any ops listed=[i]:=by kernel_rfl):TZ X ops Q σr Hr late (fuel+1) listed e σ H:=TZ.last i hr hl hi hg h
theorem TZ.w(i:Nat){oi:Oper}{v:Value}{d:Nat}(hl:late.contains i=true)(hi:ops[i]? =some oi)(hg:oi.guard=none)(hv:OpVal X.P X.n oi e σ H v)(hd:oi.dst=some d)(hn:Nat.blt d X.n=true)(k:TZ X ops Q σr Hr late fuel (listed.setIfInBounds i true) (upd e d v) σ H)(hr:Region.ready .any ops listed=[i]:=by kernel_rfl):TZ X ops Q σr Hr late (fuel+1) listed e σ H:=TZ.v i hr hl hi hg hv hd hn k
theorem TA.aN(l:List Nat)(h:TA.All X ops Q σr Hr late fuel listed e σ H l)(hr:Region.ready .any ops listed=l:=by kernel_rfl)(hl:l≠[]:=by simp):TA X ops Q σr Hr late (fuel+1) listed e σ H:=TA.actN l hr h hl
end
section
theorem iT{α:Type}{p:Prop}[Decidable p]{t u:Option α}{r:α}(h:decide p=true)(hh:iteO (decide p) t u=some r):p/\t=some r:=⟨Xf h,uZ h hh⟩
theorem iF{α:Type}{p:Prop}[Decidable p]{t u:Option α}{r:α}(h:decide p=false)(hh:iteO (decide p) t u=some r): ¬ p/\u=some r:=⟨df_ h,u_ h hh⟩
end
section
variable {P:Program} {n:Nat} {o:Oper} {e:Env} {σ:aj} {H:List Res} {v:Value}
theorem vF(h:OpVal P n o e σ H v:=by first|exact OpVal.lss rfl rfl rfl|exact OpVal.Gj rfl rfl rfl|exact OpVal.Jo rfl rfl rfl|exact OpVal.succ rfl rfl rfl (by omega)|exact OpVal.extract rfl rfl rfl|exact OpVal.neq rfl rfl rfl|exact OpVal.leq rfl rfl rfl|exact OpVal.gtr rfl rfl rfl|exact OpVal.geq rfl rfl rfl|exact OpVal.eql rfl rfl rfl|exact OpVal.not rfl rfl|exact OpVal.addW rfl rfl rfl|exact OpVal.subW rfl rfl rfl|exact OpVal.mulW rfl rfl rfl|exact OpVal.Ba rfl rfl|exact OpVal.Gi rfl foF rfl|exact OpVal.lenC rfl unF rfl|exact OpVal.IJ (.inl rfl) rfl|exact OpVal.IJ (.inr rfl) rfl|exact OpVal.bv_ (.inl rfl) rfl|exact OpVal.bv_ (.inr rfl) rfl|exact OpVal.Aj rfl agF rfl (i:=0) rfl rfl|exact OpVal.Aj rfl agF rfl (i:=1) rfl rfl|exact OpVal.Aj rfl agF rfl (i:=2) rfl rfl|exact OpVal.Aj rfl agF rfl (i:=3) rfl rfl|exact OpVal.Aj rfl agF rfl (i:=4) rfl rfl|exact OpVal.bd_ rfl agF szF rfl (i:=0) rfl rfl|exact OpVal.bd_ rfl agF szF rfl (i:=1) rfl rfl|exact OpVal.bd_ rfl agF szF rfl (i:=2) rfl rfl|exact OpVal.bd_ rfl agF szF rfl (i:=3) rfl rfl|exact OpVal.bd_ rfl agF szF rfl (i:=4) rfl rfl|exact mT|exact lL|exact lA|exact lB|exact iN|exact iX|exact iA|exact fE|exact l1|exact lS|exact lT|exact o1|exact oT|exact bL):OpVal P n o e σ H v:=h
theorem gF(h:OpVal P n o e σ H v:=by first|exact OpVal.l7 (.inl rfl) rfl|exact OpVal.l7 (.inr rfl) rfl|exact OpVal.Z8 (.inl rfl) rfl|exact OpVal.Z8 (.inr rfl) rfl|exact OpVal.moveB (.inl rfl) rfl|exact OpVal.moveB (.inr rfl) rfl|exact OpVal.cg_ (.inl rfl) rfl|exact OpVal.cg_ (.inr rfl) rfl|exact vF):OpVal P n o e σ H v:=h
end
section
variable {X:Ctx} {ops:Array Oper} {Q:QP} {e:Env} {σ:aj} {H:List Res} {rest:List Oper} {o:Oper} {d:Nat}
theorem TL.w2(h:plC X.n o=some d)(k: ∃v,OpVal X.P X.n o e σ H v/\TL X ops Q rest (upd e d v) σ H):TL X ops Q (o::rest) e σ H:=let ⟨_,hv,k⟩:=k;ι h hv k
theorem TL.m2{x:Operand}(h:mvC X.n o=some (x,d))(k: ∃v,ev e x=v/\TL X ops Q rest (upd e d v) σ H):TL X ops Q (o::rest) e σ H:=by
  obtain ⟨v,hv,k⟩:=k;subst hv;exact ι (UQ h).1 (OpVal.mv (UQ h).2) k
theorem tlid{l:List Oper}(h:TL X ops Q l e σ H):TL X ops Q l e σ H:=h
theorem tcid{c:Code}(h:TC X Q c e σ H):TC X Q c e σ H:=h
theorem evF{x:Operand}{v:Value}(h:ev e x=v:=by first|exact (rfl:_=Value.int _ _)|exact (rfl:_=Value.slice _ _ _)|exact (rfl:_=Value.bool _)|exact (rfl:_=loc _ _)|exact (rfl:_=Value.string _)|exact (rfl:_=Value.map _)):ev e x=v:=h
theorem TL.g2(h:gdC X.n ops e o=some (true,d))(k: ∃v,OpVal X.P X.n o e σ H v/\TL X ops Q rest (upd e d v) σ H):TL X ops Q (o::rest) e σ H:=let ⟨_,hv,k⟩:=k;TL.g h hv k
end
structure Wp (p:Prop):Prop where
  a:p
theorem st {G G':Prop} (k:G') (h:Wp G'->G:=by
  intro hk
  first
    |((with_reducible apply tlid);first|(with_reducible apply TL.nil)|(refine TL.m2 rfl ?_;refine ⟨_,evF,?_⟩)|(refine TL.w2 rfl ?_;refine ⟨_,vF,?_⟩)|refine TL.f rfl ?_ |refine φ rfl (OpOk.storeAll rfl szF rfl rfl rfl rfl rfl rfl ?_)|refine φ rfl (OpOk.c9_ rfl szF rfl rfl rfl rfl rfl ?_)|refine φ rfl (OpOk.iH rfl szF rfl rfl rfl rfl rfl ?_)|refine φ rfl (OpOk.storeB rfl szF rfl rfl rfl rfl rfl ?_)|(refine TL.g2 rfl ?_;refine ⟨_,gF,?_⟩)|refine TL.nil ?_)
    |((with_reducible apply tcid);first|(with_reducible apply TC.seq)|apply Ξ|(with_reducible apply TC.skip)|(with_reducible apply TC.block)|(with_reducible apply TC.exit)|refine TC.t rfl ?_ |refine TC.f rfl ?_)
    |refine TC.a8_ ?_
    |refine S.x (TC.a8_ ?_)
    |refine S.x (S.x (TC.a8_ ?_))
    |(refine TA.done ?_ ?_;kernel_rfl)
    |(refine TZ.done ?_ ?_;kernel_rfl)
  exact hk.a):G:=h ⟨k⟩
theorem R1 {G G':Prop} (k:G') (h:Wp G'->G:=by
  intro hk
  iterate 1 refine st ?_
  exact hk.a):G:=h ⟨k⟩
theorem R2 {G G':Prop} (k:G') (h:Wp G'->G:=by
  intro hk
  iterate 2 refine st ?_
  exact hk.a):G:=h ⟨k⟩
theorem R3 {G G':Prop} (k:G') (h:Wp G'->G:=by
  intro hk
  iterate 3 refine st ?_
  exact hk.a):G:=h ⟨k⟩
theorem R4 {G G':Prop} (k:G') (h:Wp G'->G:=by
  intro hk
  iterate 4 refine st ?_
  exact hk.a):G:=h ⟨k⟩
theorem R5 {G G':Prop} (k:G') (h:Wp G'->G:=by
  intro hk
  iterate 5 refine st ?_
  exact hk.a):G:=h ⟨k⟩
theorem R6 {G G':Prop} (k:G') (h:Wp G'->G:=by
  intro hk
  iterate 6 refine st ?_
  exact hk.a):G:=h ⟨k⟩
theorem R7 {G G':Prop} (k:G') (h:Wp G'->G:=by
  intro hk
  iterate 7 refine st ?_
  exact hk.a):G:=h ⟨k⟩
theorem R8 {G G':Prop} (k:G') (h:Wp G'->G:=by
  intro hk
  iterate 8 refine st ?_
  exact hk.a):G:=h ⟨k⟩
theorem R9 {G G':Prop} (k:G') (h:Wp G'->G:=by
  intro hk
  iterate 9 refine st ?_
  exact hk.a):G:=h ⟨k⟩
theorem R10 {G G':Prop} (k:G') (h:Wp G'->G:=by
  intro hk
  iterate 10 refine st ?_
  exact hk.a):G:=h ⟨k⟩
theorem R11 {G G':Prop} (k:G') (h:Wp G'->G:=by
  intro hk
  iterate 11 refine st ?_
  exact hk.a):G:=h ⟨k⟩
theorem R12 {G G':Prop} (k:G') (h:Wp G'->G:=by
  intro hk
  iterate 12 refine st ?_
  exact hk.a):G:=h ⟨k⟩
theorem R13 {G G':Prop} (k:G') (h:Wp G'->G:=by
  intro hk
  iterate 13 refine st ?_
  exact hk.a):G:=h ⟨k⟩
theorem R14 {G G':Prop} (k:G') (h:Wp G'->G:=by
  intro hk
  iterate 14 refine st ?_
  exact hk.a):G:=h ⟨k⟩
theorem R15 {G G':Prop} (k:G') (h:Wp G'->G:=by
  intro hk
  iterate 15 refine st ?_
  exact hk.a):G:=h ⟨k⟩
theorem R16 {G G':Prop} (k:G') (h:Wp G'->G:=by
  intro hk
  iterate 16 refine st ?_
  exact hk.a):G:=h ⟨k⟩
theorem R17 {G G':Prop} (k:G') (h:Wp G'->G:=by
  intro hk
  iterate 17 refine st ?_
  exact hk.a):G:=h ⟨k⟩
theorem R18 {G G':Prop} (k:G') (h:Wp G'->G:=by
  intro hk
  iterate 18 refine st ?_
  exact hk.a):G:=h ⟨k⟩
theorem R19 {G G':Prop} (k:G') (h:Wp G'->G:=by
  intro hk
  iterate 19 refine st ?_
  exact hk.a):G:=h ⟨k⟩
theorem R20 {G G':Prop} (k:G') (h:Wp G'->G:=by
  intro hk
  iterate 20 refine st ?_
  exact hk.a):G:=h ⟨k⟩
theorem R21 {G G':Prop} (k:G') (h:Wp G'->G:=by
  intro hk
  iterate 21 refine st ?_
  exact hk.a):G:=h ⟨k⟩
theorem R22 {G G':Prop} (k:G') (h:Wp G'->G:=by
  intro hk
  iterate 22 refine st ?_
  exact hk.a):G:=h ⟨k⟩
theorem R23 {G G':Prop} (k:G') (h:Wp G'->G:=by
  intro hk
  iterate 23 refine st ?_
  exact hk.a):G:=h ⟨k⟩
theorem R24 {G G':Prop} (k:G') (h:Wp G'->G:=by
  intro hk
  iterate 24 refine st ?_
  exact hk.a):G:=h ⟨k⟩
theorem R25 {G G':Prop} (k:G') (h:Wp G'->G:=by
  intro hk
  iterate 25 refine st ?_
  exact hk.a):G:=h ⟨k⟩
theorem R26 {G G':Prop} (k:G') (h:Wp G'->G:=by
  intro hk
  iterate 26 refine st ?_
  exact hk.a):G:=h ⟨k⟩
theorem R27 {G G':Prop} (k:G') (h:Wp G'->G:=by
  intro hk
  iterate 27 refine st ?_
  exact hk.a):G:=h ⟨k⟩
theorem R28 {G G':Prop} (k:G') (h:Wp G'->G:=by
  intro hk
  iterate 28 refine st ?_
  exact hk.a):G:=h ⟨k⟩
theorem R29 {G G':Prop} (k:G') (h:Wp G'->G:=by
  intro hk
  iterate 29 refine st ?_
  exact hk.a):G:=h ⟨k⟩
theorem R30 {G G':Prop} (k:G') (h:Wp G'->G:=by
  intro hk
  iterate 30 refine st ?_
  exact hk.a):G:=h ⟨k⟩
theorem R31 {G G':Prop} (k:G') (h:Wp G'->G:=by
  intro hk
  iterate 31 refine st ?_
  exact hk.a):G:=h ⟨k⟩
theorem R32 {G G':Prop} (k:G') (h:Wp G'->G:=by
  intro hk
  iterate 32 refine st ?_
  exact hk.a):G:=h ⟨k⟩
theorem R33 {G G':Prop} (k:G') (h:Wp G'->G:=by
  intro hk
  iterate 33 refine st ?_
  exact hk.a):G:=h ⟨k⟩
theorem R34 {G G':Prop} (k:G') (h:Wp G'->G:=by
  intro hk
  iterate 34 refine st ?_
  exact hk.a):G:=h ⟨k⟩
theorem R35 {G G':Prop} (k:G') (h:Wp G'->G:=by
  intro hk
  iterate 35 refine st ?_
  exact hk.a):G:=h ⟨k⟩
theorem R36 {G G':Prop} (k:G') (h:Wp G'->G:=by
  intro hk
  iterate 36 refine st ?_
  exact hk.a):G:=h ⟨k⟩
theorem R37 {G G':Prop} (k:G') (h:Wp G'->G:=by
  intro hk
  iterate 37 refine st ?_
  exact hk.a):G:=h ⟨k⟩
theorem R38 {G G':Prop} (k:G') (h:Wp G'->G:=by
  intro hk
  iterate 38 refine st ?_
  exact hk.a):G:=h ⟨k⟩
theorem R39 {G G':Prop} (k:G') (h:Wp G'->G:=by
  intro hk
  iterate 39 refine st ?_
  exact hk.a):G:=h ⟨k⟩
theorem R40 {G G':Prop} (k:G') (h:Wp G'->G:=by
  intro hk
  iterate 40 refine st ?_
  exact hk.a):G:=h ⟨k⟩
section
variable {X:Ctx} {Q:QP} {e e':Env} {σ:aj} {H H':List Res} {c:Code}
abbrev nO:Option Addr:=none
abbrev oO:Nat:=0
def LP{A B R:Type}(M:List Nat)(e:Env)(T:A->B->List (Nat×Value)×List Res)(K:A->B->Prop)(s:aj)(F:A->Option (A⊕R))(r:R)(m:Nat):Env->aj->List Res->Prop:=
  LoopP M e (λg:A×B=>(T g.1 g.2).1) (λg=>(T g.1 g.2).2) (λ_=>s) (λg=>iter F g.1=some r/\K g.1 g.2) (λg=>rQ F g.1) m
theorem TC.lk{A B R:Type}{F:A->Option (A⊕R)}{a0:A}{r:R}(h0:iter F a0=some r)(b0:B)(M:List Nat)(T:A->B->List (Nat×Value)×List Res)(K:A->B->Prop)(hk:K a0 b0)(hH:Sub (T a0 b0).2 H)
    (round: ∀(g:A) (b:B) (j:Env) (z:A⊕R),F g=some z->Rd F r (rQ F g) z->K g b->TC X (seqQ (LP M e T K σ F r (rQ F g)) Q) c (upds (mask M j e) (T g b).1) σ (T g b).2)
    (hS:Has e (T a0 b0).1:=by repeat (first|exact trivial|refine ⟨rfl,?_⟩)):TC X Q (.loop c) e σ H:=
  TC.Ak M (λg:A×B=>(T g.1 g.2).1) (λg=>(T g.1 g.2).2) (λ_=>σ) (λg=>iter F g.1=some r/\K g.1 g.2) (λg=>rQ F g.1) (a0,b0) hH rfl hS ⟨h0,hk⟩ λg j h=>Exists.elim (zQ h.1) λz hz=>round g.1 g.2 j z hz.1 hz.2 h.2
theorem TC.lp{A B R:Type}{F:A->Option (A⊕R)}{a0:A}{r:R}(h0:iter F a0=some r)(b0:B)(M:List Nat)(T:A->B->List (Nat×Value)×List Res)(hH:Sub (T a0 b0).2 H)
    (round: ∀(g:A) (b:B) (j:Env) (z:A⊕R),F g=some z->Rd F r (rQ F g) z->TC X (seqQ (LP M e T (λ_ _=>True) σ F r (rQ F g)) Q) c (upds (mask M j e) (T g b).1) σ (T g b).2)
    (hS:Has e (T a0 b0).1:=by repeat (first|exact trivial|refine ⟨rfl,?_⟩)):TC X Q (.loop c) e σ H:=
  TC.lk h0 b0 M T (λ_ _=>True) trivial hH (λg b j z h1 h2 _=>round g b j z h1 h2) hS
theorem nk{A B R:Type}{M:List Nat}{T:A->B->List (Nat×Value)×List Res}{K:A->B->Prop}{F:A->Option (A⊕R)}{r:R}{m:Nat}{z:A⊕R}{s:A}(hR:Rd F r m z)(h:nxt s=some z)(b:B)(hs:Sub (T s b).2 H')(hk:K s b)
    (hA:Agr M e' e:=by repeat (first|exact Agr.refl _ _|exact Agr.mask|refine Agr.upd rfl ?_ |refine Agr.RP rfl ?_ |refine Agr.upds rfl ?_)) (hS:Has e' (T s b).1:=by repeat (first|exact trivial|refine ⟨rfl,?_⟩)):LP M e T K σ F r m e' σ H':=
  ⟨hA,(s,b),(xP hR h).2,⟨(xP hR h).1,hk⟩,hS,hs,rfl⟩
theorem nxq{A B R:Type}{M:List Nat}{T:A->B->List (Nat×Value)×List Res}{F:A->Option (A⊕R)}{r:R}{m:Nat}{z:A⊕R}{s:A}(hR:Rd F r m z)(h:nxt s=some z)(b:B)(hs:Sub (T s b).2 H')
    (hA:Agr M e' e:=by repeat (first|exact Agr.refl _ _|exact Agr.mask|refine Agr.upd rfl ?_ |refine Agr.RP rfl ?_ |refine Agr.upds rfl ?_)) (hS:Has e' (T s b).1:=by repeat (first|exact trivial|refine ⟨rfl,?_⟩)):LP M e T (λ_ _=>True) σ F r m e' σ H':=
  nk hR h b hs trivial hA hS
end
theorem gd{α:Type}{p:Prop}[Decidable p]{t:Option α}{r:α}(h:grd p t=some r):p/\t=some r:=⟨grd_c h,grd_t h⟩
section
variable {X:Ctx} {o:Oper} {e:Env} {σ:aj} {H F:List Res} {K:Env->aj->List Res->Prop} {x y:Operand}
theorem ζ{E size n:Nat}{v:Value}{xs:List Value}{Q:QP}{c:Code}(i:Nat)(hi:H[i]? =some (Res.row E size v n xs))(k:n<=281474976710656->TC X Q c e σ H):TC X Q c e σ H:=TC.isSl hi λ_ h _=>k h
theorem TL.iS{E size n:Nat}{v:Value}{xs:List Value}{Q:QP}{ops:Array Oper}{l:List Oper}(i:Nat)(hi:H[i]? =some (Res.row E size v n xs))(k:uo v n->TL X ops Q l e σ H):TL X ops Q l e σ H:=TL.isSl hi λh _ _=>k h
theorem litF{α:Type}{T E size d m:Nat}{enc:α->List Value}{parts:Array (Nat×Operand)}{z:Value}(l:List α)(x0:α)(hl: ∀x,(enc x).length=size)(h1: ∀x, ∀u∈enc x,u.oneCell'=true)
    (k: ∀a c,K (upd e d (.slice a l.length c)) σ (ε E size enc (.slice a l.length c) l::H))
    (ho:o.op= .buildSlice T m parts:=by rfl) (ht:X.P.underlying T=some (.slice E):=by exact unF) (hs:szOf X.P E=some size:=by exact szF) (hz:zeroOf X.P E=some z:=by exact zeF)
    (hd:o.dst=some d:=by rfl) (hn:Nat.blt d X.n=true:=by rfl) (hm:l.length=m:=by rfl) (h0:m * size≠0:=by decide) (hbig:m * size<=16777216:=by decide)
    (hx0:z.cells.toList=enc x0:=by rfl) (h00:0<size:=by decide)
    (hf:Lh (λi=>some (i * size,size)) ((List.replicate m x0).flatMap enc) (parts.toList.map λx=>(x.1,ev e x.2))=some (l.flatMap enc):=by rfl) (hmax:m<=281474976710656:=by decide):OpOk X o e σ H K:=
  OpOk.lit l ho ht hs hz hd hn hm hl h0 hbig x0 hx0 h00 hf hmax h1 k
theorem apF{α:Type}{T E size jY d:Nat}{enc:α->List Value}{z v u:Value}{l l2:List α}{ty:TypeId}{p:Prop}(hsrc:rq_ σ F size enc u l2)(hp:p)
    (k: ∀a c,K (upd e d (.slice a (l++l2).length c)) σ (ε E size enc (.slice a (l++l2).length c) (l++l2)::F))
    (ho:o.op= .call {callee:= .builtin .append,args:= #[x,y],argTypes:= #[T,ty]}:=by rfl) (hty:ty=T:=by rfl) (ht:X.P.underlying T=some (.slice E):=by exact unF) (hs:szOf X.P E=some size:=by exact szF) (hby:byOf X.P E=some jY:=by exact byF) (hz:zeroOf X.P E=some z:=by exact zeF)
    (hd:o.dst=some d:=by rfl) (hn:Nat.blt d X.n=true:=by rfl) (hsz:0<size:=by decide) (hzs:z.cells.size=size:=by rfl) (hx:ev e x=v:=by rfl) (hy:ev e y=u:=by rfl) (hb0:p->(l.length+l2.length) * jY<=140737488355328:=by intro h;simpa using h) (lW:0<jY:=by decide):OpOk X o e σ (ε E size enc v l::F) K:=
  OpOk.bp_ ho hty ht hs hby hz hd hn hsz hzs hx hy hsrc (hb0 hp) lW k
end
end Go.E
end

noncomputable section
namespace Go.Proofs.YtcfgkcfcddfccaaGreatDoor
open Go Go.E
theorem and_one(a:Nat):a &&& 1=a % 2:=Nat.and_one_is_mod a
theorem np_(σ:aj)(s:BSet)(b:Nat)(hs:s.ok)(hb:b<256):Con Tryz.prog 125 #[vk s,.int .u8 (b:Nat)] σ [] (jq (.bool (s.has b)) σ):=by
  have hw:s.word (b / 64)<18446744073709551616:=BSet.word_lt hs _;have hw2:s.word (b / 64) / 2 ^ (b % 64)<18446744073709551616:=Nat.lt_of_le_of_lt (Nat.div_le_self _ _) hw;refine Con.mk (n:=14) Tryz.func125 rfl rfl rfl (λw0=> ?_);refine TC.seq ?_;refine Ξ ?_;refine φ rfl (OpOk.boxA rfl rfl rfl rfl (λb1=> ?_));refine TL.v rfl (OpVal.moveB (.inr rfl) rfl) rfl rfl ?_;refine TL.nil ?_;refine S.n ?_;refine TC.seq ?_;refine Ξ ?_;refine TL.v rfl (OpVal.l7 (.inl rfl) rfl) rfl rfl ?_;refine TL.v rfl (OpVal.quoN (b:=64) rfl rfl rfl (by omega) (by simp only [ED];omega)) rfl rfl ?_;refine TL.v rfl (OpVal.ba_ rfl Tryz.underlying47 Bh rfl rfl (by omega)) rfl rfl ?_;refine TL.v rfl (OpVal.b4_ rfl JA rfl (j:=0) rfl (by omega)) rfl rfl ?_;refine TL.v rfl (OpVal.l7 (.inl rfl) rfl) rfl rfl ?_;refine TL.v rfl (OpVal.remN (b:=64) rfl rfl rfl (by omega)) rfl rfl ?_;refine TL.v rfl (OpVal.shrN rfl rfl rfl (by show _<64;omega)) rfl rfl ?_;refine TL.v rfl (OpVal.andN (b:=1) rfl rfl rfl (by omega) (by omega)) rfl rfl ?_;refine TL.v rfl (OpVal.eqlN (b:=1) rfl rfl rfl) rfl rfl ?_;refine TL.v rfl (OpVal.moveB (.inr rfl) rfl) rfl rfl ?_;refine TL.nil ?_;refine S.n ?_;refine η ?_
  -- leaf 1 ret [] H=['q2']
  refine DL rfl (congrArg Value.bool ?_);unfold BSet.has;rw [decide_eq_decide,and_one]
theorem yc_(σ:aj)(k:Nat)(hk:k<64):Con Tryz.prog 173 #[.int .i64 (k:Nat)] σ [] (jq (.int .u64 ((2 ^ k:Nat):Int)) σ):=by
  have hp: ∀i,i<k->2 * 2 ^ i<18446744073709551616:=λi hi=>by
    have:2 * 2 ^ i=2 ^ (i+1):=by rw [Nat.pow_succ];omega
    rw [this];exact Nat.lt_of_le_of_lt (Nat.pow_le_pow_right (by omega) (show i+1<=63 by omega)) (by decide)
  refine Con.mk (n:=13) Tryz.func173 rfl rfl rfl (λw0=> ?_);refine TC.seq ?_;refine Ξ ?_;refine TL.v rfl (OpVal.l7 (.inr rfl) rfl) rfl rfl ?_;refine TL.nil ?_;refine S.n ?_;refine TC.seq ?_;refine Ξ ?_;refine TL.v rfl (OpVal.l7 (.inr rfl) rfl) rfl rfl ?_;refine TL.nil ?_;refine S.n ?_;refine TC.seq ?_;refine TC.seq ?_;refine Ξ ?_;refine TL.v rfl (OpVal.l7 (.inr rfl) rfl) rfl rfl ?_;refine TL.nil ?_;refine S.n ?_;refine TC.block ?_;refine TC.c1_ (α:=Nat) [3,4,5,6,7,8,9,10,11] (λi=>[(3,.int .u64 ((2 ^ i:Nat):Int)),(4,.int .i64 (i:Nat))]) (λ_=>_) (λ_=>_) (λi=>i<=k) (λi=>k - i) (0) (by first|exact True.intro|omega|(dsimp only;omega)|(simp;done)|(simp;omega)) (by repeat (first|exact trivial|refine ⟨rfl,?_⟩)) (by rfl) (by rfl) (λg1 j1 hg1=> ?_);have hp1:g1<k->2 * 2 ^ g1<18446744073709551616:=hp g1;refine TC.seq ?_;refine TC.seq ?_;refine Ξ ?_;refine TL.v rfl (OpVal.l7 (.inl rfl) rfl) rfl rfl ?_;refine TL.v rfl (OpVal.l7 (.inl rfl) rfl) rfl rfl ?_;refine TL.v rfl (OpVal.lss rfl rfl rfl) rfl rfl ?_;refine TL.nil ?_;refine S.n ?_;refine TC.ZH rfl (λh1=> ?_) (λh1=> ?_)
  · try simp only [iL,decide_eq_false_iff_not,Bool.not_eq_true',Bool.not_eq_false',Bool.not_eq_eq_eq_not,Bool.not_true,Bool.not_false,Int.not_lt,Int.not_le,Decidable.not_not]at h1
    refine TC.skip ?_;refine S.n ?_;refine TC.seq ?_;refine TC.block ?_;refine Ξ ?_;refine TL.v rfl (OpVal.l7 (.inl rfl) rfl) rfl rfl ?_;refine TL.v rfl (OpVal.mulN (a:=2) rfl rfl rfl (by simp only [ED];omega)) rfl rfl ?_;refine TL.v rfl (OpVal.l7 (.inr rfl) rfl) rfl rfl ?_;refine TL.nil ?_;refine B.n ?_;refine S.n ?_;refine Ξ ?_;refine TL.v rfl (OpVal.l7 (.inl rfl) rfl) rfl rfl ?_;refine TL.v rfl (OpVal.succ rfl rfl rfl (by omega)) rfl rfl ?_;refine TL.v rfl (OpVal.l7 (.inr rfl) rfl) rfl rfl ?_;refine TL.nil ?_;refine S.n ?_
    -- leaf 1 next [h1: True] H=[]
    refine ⟨by repeat (first|exact Agr.mask|refine Agr.upd rfl ?_ |refine Agr.RP rfl ?_),g1+1,?_,?_,?_,?_,?_⟩
    · omega
    · first|exact True.intro|omega|(dsimp only;omega)|(simp;done)|(simp;omega)
    · exact ⟨congrArg (λx:Nat=>Value.int .u64 (x:Int)) (by rw [Nat.pow_succ];omega),rfl,trivial⟩
    · rfl
    rfl
  try simp only [iL,decide_eq_false_iff_not,Bool.not_eq_true',Bool.not_eq_false',Bool.not_eq_eq_eq_not,Bool.not_true,Bool.not_false,Int.not_lt,Int.not_le,Decidable.not_not]at h1
  refine TC.exit ?_;refine S.x ?_;refine S.x ?_;refine TC.a8_ ?_;refine S.n ?_;refine TC.seq ?_;refine Ξ ?_;refine TL.v rfl (OpVal.l7 (.inl rfl) rfl) rfl rfl ?_;refine TL.v rfl (OpVal.l7 (.inr rfl) rfl) rfl rfl ?_;refine TL.nil ?_;refine S.n ?_;refine η ?_
  -- leaf 2 ret [h1: False] H=[]
  have:g1=k:=by omega
  subst this;exact DL rfl rfl
theorem z1_(σ:aj)(s:BSet)(b:Nat)(hs:s.ok)(hb:b<256):Con Tryz.prog 116 #[vk s,.int .i64 (b:Nat)] σ [] (jq (.bool (s.has b)) σ):=by
  have hw:s.word (b / 64)<18446744073709551616:=BSet.word_lt hs _;have hd:((b:Int)).tdiv 64=((b / 64:Nat):Int):=by rw [Int.tdiv_eq_ediv_of_nonneg (by omega)];omega
  have hp:0<2 ^ (b % 64):=Nat.pow_pos (by omega);have hq:s.word (b / 64) / 2 ^ (b % 64)<18446744073709551616:=Nat.lt_of_le_of_lt (Nat.div_le_self _ _) hw;refine Con.mk (n:=15) Tryz.func116 rfl rfl rfl (λw0=> ?_);refine TC.seq ?_;refine Ξ ?_;refine φ rfl (OpOk.boxA rfl rfl rfl rfl (λb1=> ?_));refine TL.v rfl (OpVal.moveB (.inr rfl) rfl) rfl rfl ?_;refine TL.nil ?_;refine S.n ?_;refine TC.seq ?_;refine TC.draw [] (by kernel_rfl) ?_;refine TA.OU 0 rfl (by kernel_rfl) (by kernel_rfl) (by kernel_rfl) rfl (OpVal.l7 (.inl rfl) rfl) rfl rfl ?_;refine TA.OU 1 rfl (by kernel_rfl) (by kernel_rfl) (by kernel_rfl) rfl (OpVal.quoN (b:=64) rfl rfl rfl (by omega) (by simp only [ED];omega)) rfl rfl ?_;refine TA.OU 2 rfl (by kernel_rfl) (by kernel_rfl) (by kernel_rfl) rfl (OpVal.ba_ rfl Tryz.underlying47 Bh rfl rfl (by omega)) rfl rfl ?_;refine TA.take 3 rfl (by kernel_rfl) (by kernel_rfl) (by kernel_rfl) (by kernel_rfl) rfl (OpVal.b4_ rfl JA rfl (j:=0) rfl (by omega)) rfl rfl ?_;refine TA.OU 4 rfl (by kernel_rfl) (by kernel_rfl) (by kernel_rfl) rfl (OpVal.l7 (.inl rfl) rfl) rfl rfl ?_;refine TA.OU 5 rfl (by kernel_rfl) (by kernel_rfl) (by kernel_rfl) rfl (OpVal.remN (b:=64) rfl rfl rfl (by omega)) rfl rfl ?_;refine TA.act 6 (by kernel_rfl) rfl rfl (OpOk.gI (yc_ _ (b % 64) (by omega)) rfl rfl pf173 rfl rfl rfl ⟨(λw h=>qj (by first|exact aj.le.refl _|assumption) (λr hr=>hr) w h),?_⟩);refine TA.OU 7 rfl (by kernel_rfl) (by kernel_rfl) (by kernel_rfl) rfl (OpVal.quoN rfl rfl rfl (by omega) (by simp only [ED];omega)) rfl rfl ?_;refine TA.OU 8 rfl (by kernel_rfl) (by kernel_rfl) (by kernel_rfl) rfl (OpVal.remN (b:=2) rfl rfl rfl (by omega)) rfl rfl ?_;refine TA.OU 9 rfl (by kernel_rfl) (by kernel_rfl) (by kernel_rfl) rfl (OpVal.eqlN (b:=1) rfl rfl rfl) rfl rfl ?_;refine TA.OU 10 rfl (by kernel_rfl) (by kernel_rfl) (by kernel_rfl) rfl (OpVal.moveB (.inr rfl) rfl) rfl rfl ?_;refine TA.done (by kernel_rfl) ?_;refine S.n ?_;refine η ?_
  -- leaf 1 ret [] H=['q2']
  refine DL rfl (congrArg Value.bool ?_);unfold BSet.has;rfl
def qg_(s n:Int):Bool:=decide (0<=s) && decide (s<n)
def UU(n:Int)(l:ah)(i:Nat):Bool:=qg_ (nth l i 0) n && !(decide (0<i) && decide (nth l i 0<=nth l (i - 1) 0))
def XU(l:ah)(n:Int):Bool:=(List.range l.length).all (UU n l)
theorem uo_{l:ah}{st:Int}{k:Nat}(hk:k<l.length)(h:UU st l k=false):XU l st=false:=by
  unfold XU;rw [List.all_eq_false];exact ⟨k,by simpa using hk,by simp [h]⟩
theorem w7_{l:ah}{st:Int}{k:Nat}(hk:l.length<=k)(h: ∀i,i<k->UU st l i=true):XU l st=true:=by
  unfold XU;rw [List.all_eq_true];intro i hi;exact h i (by have:=List.mem_range.1 hi;omega)
theorem rn_{p:Nat->Bool}{k:Nat}(h: ∀i,i<k->p i=true)(hk:p k=true): ∀i,i<k+1->p i=true:=λi hi=>by
  rcases Nat.lt_succ_iff_lt_or_eq.1 hi with h'|rfl
  · exact h i h'
  exact hk
def Lj(n:Int)(x:Arrow):Bool:=qg_ x.frm n && qg_ x.to n && !decide (x.set=BSet.zero)
def Ae(n:Nfa):Bool:=decide (0<=n.states) && decide (n.states<=4096) && decide ((n.edges.length:Int)<=65536) && XU n.starts n.states && XU n.ends n.states && n.edges.all (Lj n.states)
def Dx(b:Bool):Int:=if b then 0 else 1
theorem qs_{n:Nfa}{k:Nat}(hk:k<n.edges.length)(h:Lj n.states (nth n.edges k Arrow.zero)=false):n.edges.all (Lj n.states)=false:=by
  rw [List.all_eq_false];exact ⟨_,List.mem_of_getElem? (getD_some n.edges hk Arrow.zero),by simp [h]⟩
theorem x3_{n:Nfa}(h: ∀i,i<n.edges.length->Lj n.states (nth n.edges i Arrow.zero)=true):n.edges.all (Lj n.states)=true:=by
  rw [List.all_eq_true];intro x hx;obtain ⟨j,hj,rfl⟩:=List.mem_iff_getElem.1 hx;have h2:=getD_some n.edges hj Arrow.zero;rw [List.getElem?_eq_getElem hj,Option.some.injEq]at h2;rw [h2];exact h j hj
theorem qz_{α:Type}(l:List α){k:Nat}(hk:k<l.length)(d:α):l.take (k+1)=l.take k++[nth l k d]:=by
  rw [List.take_add_one,getD_some l hk d];rfl
theorem nk_(σ:aj)(s n:Int):Con Tryz.prog 145 #[.int .i64 s,.int .i64 n] σ [] (jq (.bool (qg_ s n)) σ):=by
  refine Con.mk (n:=12) Tryz.func145 rfl rfl rfl (λw0=> ?_);refine TC.seq ?_;refine Ξ ?_;refine TL.v rfl (OpVal.moveB (.inr rfl) rfl) rfl rfl ?_;refine TL.nil ?_;refine S.n ?_;refine TC.seq ?_;refine Ξ ?_;refine TL.v rfl (OpVal.l7 (.inl rfl) rfl) rfl rfl ?_;refine TL.v rfl (OpVal.leq rfl rfl rfl) rfl rfl ?_;refine TL.v rfl (OpVal.moveB (.inl rfl) rfl) rfl rfl ?_;refine δ 7 rfl (λh1=> ?_) (λh1=> ?_)
  · try simp only [iL,decide_eq_false_iff_not,Bool.not_eq_true',Bool.not_eq_false',Bool.not_eq_eq_eq_not,Bool.not_true,Bool.not_false,Int.not_lt,Int.not_le,Decidable.not_not]at h1
    refine TL.gv rfl rfl rfl rfl rfl (OpVal.l7 (.inl rfl) rfl) rfl rfl ?_;refine TL.gv rfl rfl rfl rfl rfl (OpVal.l7 (.inl rfl) rfl) rfl rfl ?_;refine TL.gv rfl rfl rfl rfl rfl (OpVal.lss rfl rfl rfl) rfl rfl ?_;refine TL.v rfl (OpVal.Gj rfl rfl rfl) rfl rfl ?_;refine TL.v rfl (OpVal.moveB (.inr rfl) rfl) rfl rfl ?_;refine TL.nil ?_;refine S.n ?_;refine η ?_
    -- leaf 1 ret [h1: t7=True] H=[]
    refine DL rfl (congrArg Value.bool ?_);simp [qg_, *]<;>omega
  try simp only [iL,decide_eq_false_iff_not,Bool.not_eq_true',Bool.not_eq_false',Bool.not_eq_eq_eq_not,Bool.not_true,Bool.not_false,Int.not_lt,Int.not_le,Decidable.not_not]at h1
  refine TL.goff rfl rfl rfl rfl rfl rfl rfl rfl ?_;refine TL.goff rfl rfl rfl rfl rfl rfl rfl rfl ?_;refine TL.goff rfl rfl rfl rfl rfl rfl rfl rfl ?_;refine TL.v rfl (OpVal.Jo rfl rfl rfl) rfl rfl ?_;refine TL.v rfl (OpVal.moveB (.inr rfl) rfl) rfl rfl ?_;refine TL.nil ?_;refine S.n ?_;refine η ?_
  -- leaf 2 ret [h1: t7=False] H=[]
  refine DL rfl (congrArg Value.bool ?_);simp [qg_, *]<;>omega
theorem vh_ (σ : aj) (a : Option Addr) (c : Nat) (l : ah) (st : Int) (hl : RS σ 1 ak (.slice a l.length c) l) :
    Con Tryz.prog 144 #[.slice a l.length c,.int .i64 st] σ [] (jq (.bool (XU l st)) σ):=by
  have hb:=hl.rv.big;refine Con.mk (n:=32) Tryz.func144 rfl rfl rfl (λw0=> ?_);refine TC.seq ?_;refine Ξ ?_;refine TL.v rfl (OpVal.moveB (.inr rfl) rfl) rfl rfl ?_;refine TL.nil ?_;refine S.n ?_;refine TC.seq ?_;refine TC.seq ?_;refine Ξ ?_;refine TL.v rfl (OpVal.Z8 (.inl rfl) rfl) rfl rfl ?_;refine TL.v rfl (OpVal.lenC rfl Tryz.underlying31 rfl) rfl rfl ?_;refine TL.v rfl (OpVal.l7 (.inl rfl) rfl) rfl rfl ?_;refine TL.nil ?_;refine S.n ?_;refine TC.block ?_;refine TC.c1_ (α:=Nat) [4,5,6,9,10,11,12,13,14,15,16,17,18,19,20,21,22,23,24,25,26,27,28,29,30,31] (λk=>[(9,.int .i64 (k:Nat))]) (λ_=>_) (λ_=>_) (λk=>k<=l.length/\ ∀i,i<k->UU st l i=true) (λk=>l.length - k) (0) (by first|exact True.intro|omega|(dsimp only;omega)|(simp;done)|(simp;omega)) (by repeat (first|exact trivial|refine ⟨rfl,?_⟩)) (by rfl) (by rfl) (λg1 j1 hg1=> ?_);obtain ⟨hk,hi⟩:=hg1;refine TC.seq ?_;refine Ξ ?_;refine TL.v rfl (OpVal.lss rfl rfl rfl) rfl rfl ?_;refine TL.nil ?_;refine S.n ?_;refine TC.seq ?_;refine TC.ZH rfl (λh1=> ?_) (λh1=> ?_)
  · try simp only [iL, decide_eq_false_iff_not, Bool.not_eq_true', Bool.not_eq_false', Bool.not_eq_eq_eq_not, Bool.not_true, Bool.not_false, Int.not_lt, Int.not_le, Decidable.not_not] at h1
    refine TC.skip ?_;refine S.n ?_;refine TC.seq ?_;refine TC.block ?_;refine TC.seq ?_;refine Ξ ?_;refine TL.v rfl (OpVal.l7 (.inl rfl) rfl) rfl rfl ?_;refine TL.v rfl (OpVal.A_ rfl Tryz.underlying31 oq rfl rfl (by first|assumption|exact (RS.rv (by assumption)).sl) (by omega)) rfl rfl ?_;refine TL.v rfl (OpVal.dc_ (0:Int) rfl CW rfl (by assumption) (by omega) rfl) rfl rfl ?_;refine TL.v rfl (OpVal.l7 (.inr rfl) rfl) rfl rfl ?_;refine TL.v rfl (OpVal.l7 (.inr rfl) rfl) rfl rfl ?_;refine TL.nil ?_;refine S.n ?_;refine TC.seq ?_;refine Ξ ?_;refine TL.v rfl (OpVal.l7 (.inl rfl) rfl) rfl rfl ?_;refine TL.v rfl (OpVal.l7 (.inl rfl) rfl) rfl rfl ?_;refine φ rfl (OpOk.gI (nk_ _ _ _) rfl rfl La rfl rfl rfl ?_);refine TL.v rfl (OpVal.not rfl rfl) rfl rfl ?_;refine TL.v rfl (OpVal.moveB (.inl rfl) rfl) rfl rfl ?_;refine δ 18 rfl (λh2=> ?_) (λh2=> ?_)
    · try simp only [iL,decide_eq_false_iff_not,Bool.not_eq_true',Bool.not_eq_false',Bool.not_eq_eq_eq_not,Bool.not_true,Bool.not_false,Int.not_lt,Int.not_le,Decidable.not_not]at h2
      refine TL.goff rfl rfl rfl rfl rfl rfl rfl rfl ?_;refine TL.goff rfl rfl rfl rfl rfl rfl rfl rfl ?_;refine TL.goff rfl rfl rfl rfl rfl rfl rfl rfl ?_;refine TL.ZI rfl rfl rfl rfl rfl rfl rfl ?_;refine TL.ZI rfl rfl rfl rfl rfl rfl rfl ?_;refine TL.ZI rfl rfl rfl rfl rfl rfl rfl ?_;refine TL.ZI rfl rfl rfl rfl rfl rfl rfl ?_;refine TL.ZI rfl rfl rfl rfl rfl rfl rfl ?_;refine TL.ZI rfl rfl rfl rfl rfl rfl rfl ?_;refine TL.ZI rfl rfl rfl rfl rfl rfl rfl ?_;refine TL.goff rfl rfl rfl rfl rfl rfl rfl rfl ?_;refine TL.v rfl (OpVal.Gj rfl rfl rfl) rfl rfl ?_;refine TL.nil ?_;refine S.n ?_;refine TC.cond rfl (λ_=> ?_) (λh=>Bool.noConfusion h);refine TC.seq ?_;refine Ξ ?_;refine TL.v rfl (OpVal.moveB (.inr rfl) rfl) rfl rfl ?_;refine TL.nil ?_;refine S.n ?_;refine η ?_;refine B.r ?_;refine S.r ?_;refine S.r ?_;refine B.r ?_;refine S.r ?_
      -- leaf 1 ret [h1: True; h2: t18=True] H=[]
      refine DL rfl (congrArg Value.bool ?_);exact (uo_ (k:=g1) (by omega) (by simp [UU,h2])).symm
    try simp only [iL,decide_eq_false_iff_not,Bool.not_eq_true',Bool.not_eq_false',Bool.not_eq_eq_eq_not,Bool.not_true,Bool.not_false,Int.not_lt,Int.not_le,Decidable.not_not]at h2
    refine TL.gv rfl rfl rfl rfl rfl (OpVal.l7 (.inl rfl) rfl) rfl rfl ?_;refine TL.gv rfl rfl rfl rfl rfl (OpVal.gtr rfl rfl rfl) rfl rfl ?_;refine TL.gv rfl rfl rfl rfl rfl (OpVal.moveB (.inl rfl) rfl) rfl rfl ?_;refine δ 21 rfl (λh3=> ?_) (λh3=> ?_)
    · try simp only [iL,decide_eq_false_iff_not,Bool.not_eq_true',Bool.not_eq_false',Bool.not_eq_eq_eq_not,Bool.not_true,Bool.not_false,Int.not_lt,Int.not_le,Decidable.not_not]at h3
      refine TL.gv rfl rfl rfl rfl rfl (OpVal.l7 (.inl rfl) rfl) rfl rfl ?_;refine TL.gv rfl rfl rfl rfl rfl (OpVal.Z8 (.inl rfl) rfl) rfl rfl ?_;refine TL.gv rfl rfl rfl rfl rfl (OpVal.l7 (.inl rfl) rfl) rfl rfl ?_;refine TL.gv rfl rfl rfl rfl rfl (OpVal.sub rfl rfl rfl (by omega) (by omega)) rfl rfl ?_;refine TL.gv rfl rfl rfl rfl rfl (OpVal.index rfl Tryz.underlying31 oq rfl rfl (by first|assumption|exact (RS.rv (by assumption)).sl) (by omega) (by omega)) rfl rfl ?_;refine TL.gv rfl rfl rfl rfl rfl (OpVal.dc_ (0:Int) rfl CW rfl (by assumption) (by omega) rfl) rfl rfl ?_;refine TL.gv rfl rfl rfl rfl rfl (OpVal.leq rfl rfl rfl) rfl rfl ?_;refine TL.gv rfl rfl rfl rfl rfl (OpVal.Gj rfl rfl rfl) rfl rfl ?_;refine TL.v rfl (OpVal.Jo rfl rfl rfl) rfl rfl ?_;refine TL.nil ?_;refine S.n ?_;refine TC.ZH rfl (λh4=> ?_) (λh4=> ?_)
      · try simp only [iL,decide_eq_false_iff_not,Bool.not_eq_true',Bool.not_eq_false',Bool.not_eq_eq_eq_not,Bool.not_true,Bool.not_false,Int.not_lt,Int.not_le,Decidable.not_not]at h4
        refine TC.seq ?_;refine Ξ ?_;refine TL.v rfl (OpVal.moveB (.inr rfl) rfl) rfl rfl ?_;refine TL.nil ?_;refine S.n ?_;refine η ?_;refine B.r ?_;refine S.r ?_;refine S.r ?_;refine B.r ?_;refine S.r ?_
        -- leaf 2 ret [h1: True; h2: t18=False; h3: t21=True; h4: True] H=[]
        refine DL rfl (congrArg Value.bool ?_);exact (uo_ (k:=g1) (by omega) (by rw [show ((g1:Int) - 1).toNat=g1 - 1 from by omega]at h4;simp [UU,h2,h4];omega)).symm
      try simp only [iL,decide_eq_false_iff_not,Bool.not_eq_true',Bool.not_eq_false',Bool.not_eq_eq_eq_not,Bool.not_true,Bool.not_false,Int.not_lt,Int.not_le,Decidable.not_not]at h4
      refine TC.skip ?_;refine B.n ?_;refine S.n ?_;refine Ξ ?_;refine TL.v rfl (OpVal.succ rfl rfl rfl (by omega)) rfl rfl ?_;refine TL.v rfl (OpVal.l7 (.inl rfl) rfl) rfl rfl ?_;refine TL.nil ?_;refine S.n ?_
      -- leaf 3 next [h1: True; h2: t18=False; h3: t21=True; h4: False] H=[]
      refine ⟨by repeat (first|exact Agr.mask|refine Agr.upd rfl ?_ |refine Agr.RP rfl ?_),g1+1,?_,?_,?_,?_,?_⟩
      · omega
      · exact ⟨by omega,rn_ hi (by rw [show ((g1:Int) - 1).toNat=g1 - 1 from by omega]at h4;simp [UU,h2];omega)⟩
      · repeat (first|exact trivial|refine ⟨rfl,?_⟩)
      · rfl
      rfl
    try simp only [iL,decide_eq_false_iff_not,Bool.not_eq_true',Bool.not_eq_false',Bool.not_eq_eq_eq_not,Bool.not_true,Bool.not_false,Int.not_lt,Int.not_le,Decidable.not_not]at h3
    refine TL.goff rfl rfl rfl rfl rfl rfl rfl rfl ?_;refine TL.goff rfl rfl rfl rfl rfl rfl rfl rfl ?_;refine TL.goff rfl rfl rfl rfl rfl rfl rfl rfl ?_;refine TL.goff rfl rfl rfl rfl rfl rfl rfl rfl ?_;refine TL.goff rfl rfl rfl rfl rfl rfl rfl rfl ?_;refine TL.goff rfl rfl rfl rfl rfl rfl rfl rfl ?_;refine TL.goff rfl rfl rfl rfl rfl rfl rfl rfl ?_;refine TL.gv rfl rfl rfl rfl rfl (OpVal.Jo rfl rfl rfl) rfl rfl ?_;refine TL.v rfl (OpVal.Jo rfl rfl rfl) rfl rfl ?_;refine TL.nil ?_;refine S.n ?_;refine TC.cond rfl (λh=>Bool.noConfusion h) (λ_=> ?_);refine TC.skip ?_;refine B.n ?_;refine S.n ?_;refine Ξ ?_;refine TL.v rfl (OpVal.succ rfl rfl rfl (by omega)) rfl rfl ?_;refine TL.v rfl (OpVal.l7 (.inl rfl) rfl) rfl rfl ?_;refine TL.nil ?_;refine S.n ?_
    -- leaf 4 next [h1: True; h2: t18=False; h3: t21=False] H=[]
    refine ⟨by repeat (first|exact Agr.mask|refine Agr.upd rfl ?_ |refine Agr.RP rfl ?_),g1+1,?_,?_,?_,?_,?_⟩
    · omega
    · exact ⟨by omega,rn_ hi (by simp [UU,h2];omega)⟩
    · repeat (first|exact trivial|refine ⟨rfl,?_⟩)
    · rfl
    rfl
  try simp only [iL,decide_eq_false_iff_not,Bool.not_eq_true',Bool.not_eq_false',Bool.not_eq_eq_eq_not,Bool.not_true,Bool.not_false,Int.not_lt,Int.not_le,Decidable.not_not]at h1
  refine TC.exit ?_;refine S.x ?_;refine S.x ?_;refine TC.a8_ ?_;refine S.n ?_;refine TC.seq ?_;refine Ξ ?_;refine TL.v rfl (OpVal.moveB (.inr rfl) rfl) rfl rfl ?_;refine TL.nil ?_;refine S.n ?_;refine η ?_
  -- leaf 5 ret [h1: False] H=[]
  refine DL rfl (congrArg Value.bool ?_);exact (w7_ (k:=g1) (by omega) hi).symm
theorem yw_(σ:aj)(n:Nfa)(p:NfaP)(hn:RNfa σ n p):Con Tryz.prog 82 #[nfaV n p] σ [] (jq (.int .i64 (Dx (Ae n))) σ):=by
  have hb:=hn.d.rv.big;have hd:=hn.d;refine Con.mk (n:=61) Tryz.func82 rfl rfl rfl (λw0=> ?_);refine TC.seq ?_;refine Ξ ?_;refine φ rfl (OpOk.boxA rfl rfl rfl rfl (λb1=> ?_));refine TL.v rfl (OpVal.l7 (.inr rfl) rfl) rfl rfl ?_;refine TL.nil ?_;refine S.n ?_;refine TC.seq ?_;refine TC.seq ?_;refine Ξ ?_;refine TL.v rfl (OpVal.Gi rfl Yi rfl) rfl rfl ?_;refine TL.v rfl (OpVal.Aj rfl CW rfl (i:=0) rfl rfl) rfl rfl ?_;refine TL.v rfl (OpVal.lss rfl rfl rfl) rfl rfl ?_;refine TL.v rfl (OpVal.moveB (.inl rfl) rfl) rfl rfl ?_;refine δ 8 rfl (λh3=> ?_) (λh3=> ?_)
  · try simp only [iL,decide_eq_false_iff_not,Bool.not_eq_true',Bool.not_eq_false',Bool.not_eq_eq_eq_not,Bool.not_true,Bool.not_false,Int.not_lt,Int.not_le,Decidable.not_not]at h3
    refine TL.goff rfl rfl rfl rfl rfl rfl rfl rfl ?_;refine TL.goff rfl rfl rfl rfl rfl rfl rfl rfl ?_;refine TL.goff rfl rfl rfl rfl rfl rfl rfl rfl ?_;refine TL.v rfl (OpVal.Gj rfl rfl rfl) rfl rfl ?_;refine TL.v rfl (OpVal.moveB (.inl rfl) rfl) rfl rfl ?_;refine TL.goff rfl rfl rfl rfl rfl rfl rfl rfl ?_;refine TL.goff rfl rfl rfl rfl rfl rfl rfl rfl ?_;refine TL.goff rfl rfl rfl rfl rfl rfl rfl rfl ?_;refine TL.goff rfl rfl rfl rfl rfl rfl rfl rfl ?_;refine TL.v rfl (OpVal.Gj rfl rfl rfl) rfl rfl ?_;refine TL.nil ?_;refine S.n ?_;refine TC.cond rfl (λ_=> ?_) (λh=>Bool.noConfusion h);refine TC.seq ?_;refine Ξ ?_;refine TL.v rfl (OpVal.l7 (.inr rfl) rfl) rfl rfl ?_;refine TL.nil ?_;refine S.n ?_;refine η ?_;refine S.r ?_
    -- leaf 1 ret [h3: t8=True] H=['q2']
    refine DL rfl (congrArg (Value.int _) ?_);exact (congrArg Dx (show Ae n=false from by simp only [Ae,Bool.and_eq_false_iff,decide_eq_false_iff_not];omega)).symm
  try simp only [iL,decide_eq_false_iff_not,Bool.not_eq_true',Bool.not_eq_false',Bool.not_eq_eq_eq_not,Bool.not_true,Bool.not_false,Int.not_lt,Int.not_le,Decidable.not_not]at h3
  refine TL.gv rfl rfl rfl rfl rfl (OpVal.Gi rfl Yi rfl) rfl rfl ?_;refine TL.gv rfl rfl rfl rfl rfl (OpVal.Aj rfl CW rfl (i:=0) rfl rfl) rfl rfl ?_;refine TL.gv rfl rfl rfl rfl rfl (OpVal.gtr rfl rfl rfl) rfl rfl ?_;refine TL.v rfl (OpVal.Jo rfl rfl rfl) rfl rfl ?_;refine TL.v rfl (OpVal.moveB (.inl rfl) rfl) rfl rfl ?_;refine δ 13 rfl (λh4=> ?_) (λh4=> ?_)
  · try simp only [iL,decide_eq_false_iff_not,Bool.not_eq_true',Bool.not_eq_false',Bool.not_eq_eq_eq_not,Bool.not_true,Bool.not_false,Int.not_lt,Int.not_le,Decidable.not_not]at h4
    refine TL.goff rfl rfl rfl rfl rfl rfl rfl rfl ?_;refine TL.goff rfl rfl rfl rfl rfl rfl rfl rfl ?_;refine TL.goff rfl rfl rfl rfl rfl rfl rfl rfl ?_;refine TL.goff rfl rfl rfl rfl rfl rfl rfl rfl ?_;refine TL.v rfl (OpVal.Gj rfl rfl rfl) rfl rfl ?_;refine TL.nil ?_;refine S.n ?_;refine TC.cond rfl (λ_=> ?_) (λh=>Bool.noConfusion h);refine TC.seq ?_;refine Ξ ?_;refine TL.v rfl (OpVal.l7 (.inr rfl) rfl) rfl rfl ?_;refine TL.nil ?_;refine S.n ?_;refine η ?_;refine S.r ?_
    -- leaf 2 ret [h3: t8=False; h4: t13=True] H=['q2']
    refine DL rfl (congrArg (Value.int _) ?_);exact (congrArg Dx (show Ae n=false from by simp only [Ae,Bool.and_eq_false_iff,decide_eq_false_iff_not];omega)).symm
  try simp only [iL,decide_eq_false_iff_not,Bool.not_eq_true',Bool.not_eq_false',Bool.not_eq_eq_eq_not,Bool.not_true,Bool.not_false,Int.not_lt,Int.not_le,Decidable.not_not]at h4
  refine TL.gv rfl rfl rfl rfl rfl (OpVal.Gi rfl w6_ rfl) rfl rfl ?_;refine TL.gv rfl rfl rfl rfl rfl (OpVal.Aj rfl Jl rfl (i:=0) rfl rfl) rfl rfl ?_;refine TL.gv rfl rfl rfl rfl rfl (OpVal.lenC rfl Tryz.underlying63 rfl) rfl rfl ?_;refine TL.gv rfl rfl rfl rfl rfl (OpVal.gtr rfl rfl rfl) rfl rfl ?_;refine TL.v rfl (OpVal.Jo rfl rfl rfl) rfl rfl ?_;refine TL.nil ?_;refine S.n ?_;refine TC.ZH rfl (λh5=> ?_) (λh5=> ?_)
  · try simp only [iL,decide_eq_false_iff_not,Bool.not_eq_true',Bool.not_eq_false',Bool.not_eq_eq_eq_not,Bool.not_true,Bool.not_false,Int.not_lt,Int.not_le,Decidable.not_not]at h5
    refine TC.seq ?_;refine Ξ ?_;refine TL.v rfl (OpVal.l7 (.inr rfl) rfl) rfl rfl ?_;refine TL.nil ?_;refine S.n ?_;refine η ?_;refine S.r ?_
    -- leaf 3 ret [h3: t8=False; h4: t13=False; h5: True] H=['q2']
    refine DL rfl (congrArg (Value.int _) ?_);exact (congrArg Dx (show Ae n=false from by simp only [Ae,Bool.and_eq_false_iff,decide_eq_false_iff_not];omega)).symm
  try simp only [iL,decide_eq_false_iff_not,Bool.not_eq_true',Bool.not_eq_false',Bool.not_eq_eq_eq_not,Bool.not_true,Bool.not_false,Int.not_lt,Int.not_le,Decidable.not_not]at h5
  refine TC.skip ?_;refine S.n ?_;refine TC.seq ?_;refine TC.seq ?_;refine Ξ ?_;refine TL.v rfl (OpVal.Gi rfl fo65_1 rfl) rfl rfl ?_;refine TL.v rfl (OpVal.Aj rfl pV rfl (i:=0) rfl rfl) rfl rfl ?_;refine TL.v rfl (OpVal.Gi rfl Yi rfl) rfl rfl ?_;refine TL.v rfl (OpVal.Aj rfl CW rfl (i:=0) rfl rfl) rfl rfl ?_;refine φ rfl (OpOk.gI (vh_ _ _ _ _ _ hn.s) rfl rfl UD rfl rfl rfl ?_);refine TL.v rfl (OpVal.not rfl rfl) rfl rfl ?_;refine TL.v rfl (OpVal.moveB (.inl rfl) rfl) rfl rfl ?_;refine δ 25 rfl (λh6=> ?_) (λh6=> ?_)
  · try simp only [iL,decide_eq_false_iff_not,Bool.not_eq_true',Bool.not_eq_false',Bool.not_eq_eq_eq_not,Bool.not_true,Bool.not_false,Int.not_lt,Int.not_le,Decidable.not_not]at h6
    refine TL.goff rfl rfl rfl rfl rfl rfl rfl rfl ?_;refine TL.goff rfl rfl rfl rfl rfl rfl rfl rfl ?_;refine TL.goff rfl rfl rfl rfl rfl rfl rfl rfl ?_;refine TL.goff rfl rfl rfl rfl rfl rfl rfl rfl ?_;refine TL.goff rfl rfl rfl rfl rfl rfl rfl rfl ?_;refine TL.goff rfl rfl rfl rfl rfl rfl rfl rfl ?_;refine TL.v rfl (OpVal.Gj rfl rfl rfl) rfl rfl ?_;refine TL.nil ?_;refine S.n ?_;refine TC.cond rfl (λ_=> ?_) (λh=>Bool.noConfusion h);refine TC.seq ?_;refine Ξ ?_;refine TL.v rfl (OpVal.l7 (.inr rfl) rfl) rfl rfl ?_;refine TL.nil ?_;refine S.n ?_;refine η ?_;refine S.r ?_
    -- leaf 4 ret [h3: t8=False; h4: t13=False; h5: False; h6: t25=True] H=['q2']
    refine DL rfl (congrArg (Value.int _) ?_);exact (congrArg Dx (show Ae n=false from by simp [Ae,h6])).symm
  try simp only [iL,decide_eq_false_iff_not,Bool.not_eq_true',Bool.not_eq_false',Bool.not_eq_eq_eq_not,Bool.not_true,Bool.not_false,Int.not_lt,Int.not_le,Decidable.not_not]at h6
  refine TL.gv rfl rfl rfl rfl rfl (OpVal.Gi rfl fo65_2 rfl) rfl rfl ?_;refine TL.gv rfl rfl rfl rfl rfl (OpVal.Aj rfl pV rfl (i:=0) rfl rfl) rfl rfl ?_;refine TL.gv rfl rfl rfl rfl rfl (OpVal.Gi rfl Yi rfl) rfl rfl ?_;refine TL.gv rfl rfl rfl rfl rfl (OpVal.Aj rfl CW rfl (i:=0) rfl rfl) rfl rfl ?_;refine TL.gon rfl rfl rfl rfl rfl (OpOk.gI (vh_ _ _ _ _ _ (by first|exact hn.s|exact hn.e)) rfl rfl UD rfl rfl rfl ?_);refine TL.gv rfl rfl rfl rfl rfl (OpVal.not rfl rfl) rfl rfl ?_;refine TL.v rfl (OpVal.Jo rfl rfl rfl) rfl rfl ?_;refine TL.nil ?_;refine S.n ?_;refine TC.cond rfl (λh7=> ?_) (λh7=> ?_)
  · try simp only [iL,decide_eq_false_iff_not,Bool.not_eq_true',Bool.not_eq_false',Bool.not_eq_eq_eq_not,Bool.not_true,Bool.not_false,Int.not_lt,Int.not_le,Decidable.not_not]at h7
    refine TC.seq ?_;refine Ξ ?_;refine TL.v rfl (OpVal.l7 (.inr rfl) rfl) rfl rfl ?_;refine TL.nil ?_;refine S.n ?_;refine η ?_;refine S.r ?_
    -- leaf 5 ret [h3: t8=False; h4: t13=False; h5: False; h6: t25=False; h7: True] H=['q2']
    refine DL rfl (congrArg (Value.int _) ?_);exact (congrArg Dx (show Ae n=false from by simp [Ae,h7])).symm
  try simp only [iL,decide_eq_false_iff_not,Bool.not_eq_true',Bool.not_eq_false',Bool.not_eq_eq_eq_not,Bool.not_true,Bool.not_false,Int.not_lt,Int.not_le,Decidable.not_not]at h7
  refine TC.skip ?_;refine S.n ?_;refine TC.seq ?_;refine TC.seq ?_;refine Ξ ?_;refine TL.v rfl (OpVal.Gi rfl w6_ rfl) rfl rfl ?_;refine TL.v rfl (OpVal.Aj rfl Jl rfl (i:=0) rfl rfl) rfl rfl ?_;refine TL.v rfl (OpVal.lenC rfl Tryz.underlying63 rfl) rfl rfl ?_;refine TL.v rfl (OpVal.l7 (.inl rfl) rfl) rfl rfl ?_;refine TL.nil ?_;refine S.n ?_;refine TC.block ?_;refine TC.c1_ (α:=Nat) [2,4,36,37,38,39,40,41,42,43,44,45,46,47,48,49,50,51,52,53,54,55,56,57,58,59,60] (λk=>[(36,.int .i64 (k:Nat))]) (λ_=>_) (λ_=>_) (λk=>k<=n.edges.length/\ ∀i,i<k->Lj n.states (nth n.edges i Arrow.zero)=true) (λk=>n.edges.length - k) (0) (by first|exact True.intro|omega|(dsimp only;omega)|(simp;done)|(simp;omega)) (by repeat (first|exact trivial|refine ⟨rfl,?_⟩)) (by rfl) (by rfl) (λg1 j1 hg1=> ?_);obtain ⟨hk,hi⟩:=hg1;refine TC.seq ?_;refine Ξ ?_;refine TL.v rfl (OpVal.lss rfl rfl rfl) rfl rfl ?_;refine TL.nil ?_;refine S.n ?_;refine TC.seq ?_;refine TC.ZH rfl (λh8=> ?_) (λh8=> ?_)
  · try simp only [iL,decide_eq_false_iff_not,Bool.not_eq_true',Bool.not_eq_false',Bool.not_eq_eq_eq_not,Bool.not_true,Bool.not_false,Int.not_lt,Int.not_le,Decidable.not_not]at h8
    refine TC.skip ?_;refine S.n ?_;refine TC.seq ?_;refine TC.block ?_;refine TC.seq ?_;refine Ξ ?_;refine TL.v rfl (OpVal.A_ rfl Tryz.underlying63 zw_ rfl rfl (by first|assumption|exact (RS.rv (by assumption)).sl) (by omega)) rfl rfl ?_;refine TL.v rfl (OpVal.du_ Arrow.zero rfl Xk zw_ rfl (by assumption) (by omega) (by omega)) rfl rfl ?_;refine φ rfl (OpOk.alloc rfl TS rfl rfl (λb9=> ?_));refine φ rfl (OpOk.storeAll rfl zw_ rfl rfl rfl rfl rfl rfl ?_);refine TL.nil ?_;refine S.n ?_;refine TC.seq ?_;refine Ξ ?_;refine TL.v rfl (OpVal.Gi rfl yx_ rfl) rfl rfl ?_;refine TL.v rfl (OpVal.Aj rfl CW rfl (i:=0) rfl rfl) rfl rfl ?_;refine TL.v rfl (OpVal.Gi rfl Yi rfl) rfl rfl ?_;refine TL.v rfl (OpVal.Aj rfl CW rfl (i:=1) rfl rfl) rfl rfl ?_;refine φ rfl (OpOk.gI (nk_ _ _ _) rfl rfl La rfl rfl rfl ?_);refine TL.v rfl (OpVal.not rfl rfl) rfl rfl ?_;refine TL.v rfl (OpVal.moveB (.inl rfl) rfl) rfl rfl ?_;refine δ 46 rfl (λh11=> ?_) (λh11=> ?_)
    · try simp only [iL,decide_eq_false_iff_not,Bool.not_eq_true',Bool.not_eq_false',Bool.not_eq_eq_eq_not,Bool.not_true,Bool.not_false,Int.not_lt,Int.not_le,Decidable.not_not]at h11
      refine TL.goff rfl rfl rfl rfl rfl rfl rfl rfl ?_;refine TL.goff rfl rfl rfl rfl rfl rfl rfl rfl ?_;refine TL.goff rfl rfl rfl rfl rfl rfl rfl rfl ?_;refine TL.goff rfl rfl rfl rfl rfl rfl rfl rfl ?_;refine TL.goff rfl rfl rfl rfl rfl rfl rfl rfl ?_;refine TL.goff rfl rfl rfl rfl rfl rfl rfl rfl ?_;refine TL.v rfl (OpVal.Gj rfl rfl rfl) rfl rfl ?_;refine TL.v rfl (OpVal.moveB (.inl rfl) rfl) rfl rfl ?_;refine TL.goff rfl rfl rfl rfl rfl rfl rfl rfl ?_;refine TL.goff rfl rfl rfl rfl rfl rfl rfl rfl ?_;refine TL.goff rfl rfl rfl rfl rfl rfl rfl rfl ?_;refine TL.goff rfl rfl rfl rfl rfl rfl rfl rfl ?_;refine TL.v rfl (OpVal.Gj rfl rfl rfl) rfl rfl ?_;refine TL.nil ?_;refine S.n ?_;refine TC.cond rfl (λ_=> ?_) (λh=>Bool.noConfusion h);refine TC.seq ?_;refine Ξ ?_;refine TL.v rfl (OpVal.l7 (.inr rfl) rfl) rfl rfl ?_;refine TL.nil ?_;refine S.n ?_;refine η ?_;refine B.r ?_;refine S.r ?_;refine S.r ?_;refine B.r ?_;refine S.r ?_
      -- leaf 6 ret [h3: t8=False; h4: t13=False; h5: False; h6: t25=False; h7: False; h8: True; h11: t46=True] H=['q10', 'q2']
      refine DL rfl (congrArg (Value.int _) ?_);exact (congrArg Dx (show Ae n=false from by rw [Ae,qs_ (n:=n) (k:=g1) (by omega) (by simp [Lj,h11]),Bool.and_false])).symm
    try simp only [iL,decide_eq_false_iff_not,Bool.not_eq_true',Bool.not_eq_false',Bool.not_eq_eq_eq_not,Bool.not_true,Bool.not_false,Int.not_lt,Int.not_le,Decidable.not_not]at h11
    refine TL.gv rfl rfl rfl rfl rfl (OpVal.Gi rfl x5_ rfl) rfl rfl ?_;refine TL.gv rfl rfl rfl rfl rfl (OpVal.Aj rfl CW rfl (i:=0) rfl rfl) rfl rfl ?_;refine TL.gv rfl rfl rfl rfl rfl (OpVal.Gi rfl Yi rfl) rfl rfl ?_;refine TL.gv rfl rfl rfl rfl rfl (OpVal.Aj rfl CW rfl (i:=1) rfl rfl) rfl rfl ?_;refine TL.gon rfl rfl rfl rfl rfl (OpOk.gI (nk_ _ _ _) rfl rfl La rfl rfl rfl ?_);refine TL.gv rfl rfl rfl rfl rfl (OpVal.not rfl rfl) rfl rfl ?_;refine TL.v rfl (OpVal.Jo rfl rfl rfl) rfl rfl ?_;refine TL.v rfl (OpVal.moveB (.inl rfl) rfl) rfl rfl ?_;refine δ 54 rfl (λh12=> ?_) (λh12=> ?_)
    · try simp only [iL,decide_eq_false_iff_not,Bool.not_eq_true',Bool.not_eq_false',Bool.not_eq_eq_eq_not,Bool.not_true,Bool.not_false,Int.not_lt,Int.not_le,Decidable.not_not]at h12
      refine TL.goff rfl rfl rfl rfl rfl rfl rfl rfl ?_;refine TL.goff rfl rfl rfl rfl rfl rfl rfl rfl ?_;refine TL.goff rfl rfl rfl rfl rfl rfl rfl rfl ?_;refine TL.goff rfl rfl rfl rfl rfl rfl rfl rfl ?_;refine TL.v rfl (OpVal.Gj rfl rfl rfl) rfl rfl ?_;refine TL.nil ?_;refine S.n ?_;refine TC.cond rfl (λ_=> ?_) (λh=>Bool.noConfusion h);refine TC.seq ?_;refine Ξ ?_;refine TL.v rfl (OpVal.l7 (.inr rfl) rfl) rfl rfl ?_;refine TL.nil ?_;refine S.n ?_;refine η ?_;refine B.r ?_;refine S.r ?_;refine S.r ?_;refine B.r ?_;refine S.r ?_
      -- leaf 7 ret [h3: t8=False; h4: t13=False; h5: False; h6: t25=False; h7: False; h8: True; h11: t46=False; h12: t54=True] H=['q10', 'q2']
      refine DL rfl (congrArg (Value.int _) ?_);exact (congrArg Dx (show Ae n=false from by rw [Ae,qs_ (n:=n) (k:=g1) (by omega) (by simp [Lj,h11,h12]),Bool.and_false])).symm
    try simp only [iL,decide_eq_false_iff_not,Bool.not_eq_true',Bool.not_eq_false',Bool.not_eq_eq_eq_not,Bool.not_true,Bool.not_false,Int.not_lt,Int.not_le,Decidable.not_not]at h12
    refine TL.gv rfl rfl rfl rfl rfl (OpVal.Gi rfl yp_ rfl) rfl rfl ?_;refine TL.gv rfl rfl rfl rfl rfl (OpVal.bu_ rfl Jm PL rfl (i:=0) rfl rfl rfl) rfl rfl ?_;refine TL.gv rfl rfl rfl rfl rfl (OpVal.a4_ rfl Tryz.underlying47 Bh PK rfl) rfl rfl ?_;refine TL.gv rfl rfl rfl rfl rfl (OpVal.da_ rfl Tryz.underlying47 Tryz.underlying45 JA Bh eg47 rfl rfl rfl rfl) rfl rfl ?_;refine TL.v rfl (OpVal.Jo rfl rfl rfl) rfl rfl ?_;refine TL.nil ?_;refine S.n ?_;refine TC.ZH rfl (λh13=> ?_) (λh13=> ?_)
    · try simp only [iL,decide_eq_false_iff_not,Bool.not_eq_true',Bool.not_eq_false',Bool.not_eq_eq_eq_not,Bool.not_true,Bool.not_false,Int.not_lt,Int.not_le,Decidable.not_not]at h13
      refine TC.seq ?_;refine Ξ ?_;refine TL.v rfl (OpVal.l7 (.inr rfl) rfl) rfl rfl ?_;refine TL.nil ?_;refine S.n ?_;refine η ?_;refine B.r ?_;refine S.r ?_;refine S.r ?_;refine B.r ?_;refine S.r ?_
      -- leaf 8 ret [h3: t8=False; h4: t13=False; h5: False; h6: t25=False; h7: False; h8: True; h11: t46=False; h12: t54=False; h13: True] H=['q10', 'q2']
      refine DL rfl (congrArg (Value.int _) ?_);exact (congrArg Dx (show Ae n=false from by rw [Ae,qs_ (n:=n) (k:=g1) (by omega) (by simp [Lj,(BSet.bw_ _).1 h13]),Bool.and_false])).symm
    try simp only [iL,decide_eq_false_iff_not,Bool.not_eq_true',Bool.not_eq_false',Bool.not_eq_eq_eq_not,Bool.not_true,Bool.not_false,Int.not_lt,Int.not_le,Decidable.not_not]at h13
    refine TC.skip ?_;refine B.n ?_;refine S.n ?_;refine Ξ ?_;refine TL.v rfl (OpVal.succ rfl rfl rfl (by omega)) rfl rfl ?_;refine TL.v rfl (OpVal.l7 (.inl rfl) rfl) rfl rfl ?_;refine TL.dropN 1 rfl ?_;refine TL.nil ?_;refine S.n ?_
    -- leaf 9 next [h3: t8=False; h4: t13=False; h5: False; h6: t25=False; h7: False; h8: True; h11: t46=False; h12: t54=False; h13: False] H=['q2']
    refine ⟨by repeat (first|exact Agr.mask|refine Agr.upd rfl ?_ |refine Agr.RP rfl ?_),g1+1,?_,?_,?_,?_,?_⟩
    · omega
    · exact ⟨by omega,rn_ (p:=λi=>Lj n.states (nth n.edges i Arrow.zero)) hi (by simp only [Lj,h11,h12,Bool.true_and,Bool.not_eq_true',decide_eq_false_iff_not];exact λhx=>h13 ((BSet.bw_ _).2 hx))⟩
    · repeat (first|exact trivial|refine ⟨rfl,?_⟩)
    · rfl
    rfl
  try simp only [iL,decide_eq_false_iff_not,Bool.not_eq_true',Bool.not_eq_false',Bool.not_eq_eq_eq_not,Bool.not_true,Bool.not_false,Int.not_lt,Int.not_le,Decidable.not_not]at h8
  refine TC.exit ?_;refine S.x ?_;refine S.x ?_;refine TC.a8_ ?_;refine S.n ?_;refine TC.seq ?_;refine Ξ ?_;refine TL.v rfl (OpVal.l7 (.inr rfl) rfl) rfl rfl ?_;refine TL.nil ?_;refine S.n ?_;refine η ?_
  -- leaf 10 ret [h3: t8=False; h4: t13=False; h5: False; h6: t25=False; h7: False; h8: False] H=['q2']
  refine DL rfl (congrArg (Value.int _) ?_);have he:=x3_ (n:=n) (λi h=>hi i (by omega));simp [Dx,Ae,h3,h4,h5,h6,h7,he]
def PE(l:T_1)(k:Nat):Nat->Bool:=λi=>(l.take k).any λu=>decide (i=u.toNat)
theorem y2_(l:T_1):BSet.make (PE l 0)=BSet.zero:=by
  rw [show PE l 0=λ_=>false from by funext i;simp [PE]];exact BSet.a3_
theorem yv_{l:T_1}{k:Nat}(h:k<l.length):(λi=>PE l k i || decide (i=(nth l k 0).toNat))=PE l (k+1):=by
  funext i;simp [PE,qz_ l h 0]
theorem aaw_(l:T_1):BSet.make (PE l l.length)=BSet.ofL l:=by
  unfold PE BSet.ofL;rw [List.take_length]
theorem wn_{a:Nat}(h:a<64):2 ^ a<18446744073709551616:=Nat.lt_of_le_of_lt (Nat.pow_le_pow_right (by omega) (show a<=63 by omega)) (by decide)
theorem u0_(σ:aj)(a:Option Addr)(c:Nat)(l:T_1)(hsz:l.length<=1000000000000):
    Con Tryz.prog 50 #[.slice a l.length c] σ [ε 5 1 jo (.slice a l.length c) l] (jq (vk (BSet.ofL l)) σ):=by
  refine Con.mk (n:=23) Tryz.func50 rfl rfl rfl (λw0=> ?_);refine TC.seq ?_;refine Ξ ?_;refine φ rfl (OpOk.alloc rfl PK rfl rfl (λb1=> ?_));refine TL.nil ?_;refine S.n ?_;refine TC.seq ?_;refine Ξ ?_;refine φ rfl (OpOk.alloc rfl PK rfl rfl (λb3=> ?_));refine TL.nil ?_;refine S.n ?_;refine TC.seq ?_;refine TC.seq ?_;refine Ξ ?_;refine TL.v rfl (OpVal.Z8 (.inl rfl) rfl) rfl rfl ?_;refine TL.v rfl (OpVal.lenC rfl Tryz.underlying84 rfl) rfl rfl ?_;refine TL.v rfl (OpVal.l7 (.inl rfl) rfl) rfl rfl ?_;refine TL.nil ?_;refine S.n ?_;refine TC.block ?_;refine TC.c1_ (α:=Nat) [5,8,9,10,11,12,13,14,15,16,17,18,19,20,21] (λk=>[(8,.int .i64 (k:Nat))]) (λk=>[ω b3 (setA (BSet.make (PE l k))) 47,ω b1 (setA BSet.zero) 47,ε 5 1 jo (.slice a l.length c) l]) (λ_=>_) (λk=>k<=l.length) (λk=>l.length - k) (0) (by first|exact True.intro|omega|(dsimp only;omega)|(simp;done)|(simp;omega)) (by repeat (first|exact trivial|refine ⟨rfl,?_⟩)) (by rw [y2_];rfl) (by rfl) (λg1 j1 hg1=> ?_);have hu:(nth l g1 (0:UInt8)).toNat<256:=UInt8.toNat_lt _;have hp:=wn_ (Nat.mod_lt (nth l g1 (0:UInt8)).toNat (show 0<64 by omega));have hw:=BSet.word_lt (BSet.dx_ (PE l g1)) ((nth l g1 (0:UInt8)).toNat / 64);refine TC.seq ?_;refine Ξ ?_;refine TL.v rfl (OpVal.lss rfl rfl rfl) rfl rfl ?_;refine TL.nil ?_;refine S.n ?_;refine TC.seq ?_;refine TC.ZH rfl (λh5=> ?_) (λh5=> ?_)
  · try simp only [iL,decide_eq_false_iff_not,Bool.not_eq_true',Bool.not_eq_false',Bool.not_eq_eq_eq_not,Bool.not_true,Bool.not_false,Int.not_lt,Int.not_le,Decidable.not_not]at h5
    refine TC.skip ?_;refine S.n ?_;refine TC.seq ?_;refine TC.block ?_;refine TC.seq ?_;refine Ξ ?_;refine TL.isSl (i:=2) rfl (λhs6 _ _=> ?_);refine TL.v rfl (OpVal.A_ rfl Tryz.underlying84 sz5 rfl rfl (by first|assumption|exact (RS.rv (by assumption)).sl) (by omega)) rfl rfl ?_;refine TL.v rfl (OpVal.c4_ (0:UInt8) rfl ag5 rfl (q:=2) rfl st_ (by omega) rfl) rfl rfl ?_;refine TL.v rfl (OpVal.l7 (.inr rfl) rfl) rfl rfl ?_;refine TL.nil ?_;refine S.n ?_;refine Ξ ?_;refine TL.v rfl (OpVal.l7 (.inl rfl) rfl) rfl rfl ?_;refine TL.v rfl (OpVal.quoN (b:=64) rfl rfl rfl (by omega) (by simp only [ED];omega)) rfl rfl ?_;refine TL.v rfl (OpVal.ba_ rfl Tryz.underlying47 Bh rfl rfl (by omega)) rfl rfl ?_;refine TL.v rfl (OpVal.b4_ rfl JA rfl (j:=0) rfl (by omega)) rfl rfl ?_;refine TL.v rfl (OpVal.l7 (.inl rfl) rfl) rfl rfl ?_;refine TL.v rfl (OpVal.remN (b:=64) rfl rfl rfl (by omega)) rfl rfl ?_;refine TL.v rfl (OpVal.shlN (a:=1) rfl rfl rfl (by show _<64;omega) (by simp only [ED];omega)) rfl rfl ?_;refine TL.v rfl (OpVal.orN rfl rfl rfl (by omega) (by omega)) rfl rfl ?_;refine TL.v rfl (OpVal.ba_ rfl Tryz.underlying47 Bh rfl rfl (by omega)) rfl rfl ?_;refine φ rfl (OpOk.ca_ rfl Bh rfl rfl rfl (by omega) (Nat.or_lt_two_pow (n:=64) hw (by omega)) ?_);refine TL.nil ?_;refine B.n ?_;refine S.n ?_;refine Ξ ?_;refine TL.v rfl (OpVal.succ rfl rfl rfl (by omega)) rfl rfl ?_;refine TL.v rfl (OpVal.l7 (.inl rfl) rfl) rfl rfl ?_;refine TL.nil ?_;refine S.n ?_
    -- leaf 1 next [h5: True] H=['q4', 'q2', 'r0']
    refine ⟨by repeat (first|exact Agr.mask|refine Agr.upd rfl ?_ |refine Agr.RP rfl ?_),g1+1,?_,?_,?_,?_,?_⟩
    · omega
    · first|exact True.intro|omega|(dsimp only;omega)|(simp;done)|(simp;omega)
    · repeat (first|exact trivial|refine ⟨rfl,?_⟩)
    · rw [BSet.d9_ _ hu,yv_ (by omega)]
    rfl
  try simp only [iL,decide_eq_false_iff_not,Bool.not_eq_true',Bool.not_eq_false',Bool.not_eq_eq_eq_not,Bool.not_true,Bool.not_false,Int.not_lt,Int.not_le,Decidable.not_not]at h5
  refine TC.exit ?_;refine S.x ?_;refine S.x ?_;refine TC.a8_ ?_;refine S.n ?_;refine TC.seq ?_;refine Ξ ?_;refine TL.v rfl (OpVal.bd_ rfl Jm PL rfl (i:=0) rfl rfl) rfl rfl ?_;refine TL.front 1 rfl rfl ?_;refine φ rfl (OpOk.storeAll rfl PL rfl rfl rfl rfl rfl rfl ?_);refine TL.nil ?_;refine S.n ?_;refine η ?_
  -- leaf 2 ret [h5: False] H=['q2', 'q4', 'r0']
  obtain rfl:g1=l.length:=by omega
  rw [aaw_];exact aav_ 0 rfl Jm PL rfl rfl rfl rfl
end Go.Proofs.YtcfgkcfcddfccaaGreatDoor
end

noncomputable section
namespace Go.E
open Go
structure IStore where
  rows:List (List Int)
  places:FM (List UInt8) Int
structure ITable where
  of:IStore
structure RTable where
  l:List (List Int)
def ITable.zero:ITable:=⟨⟨[],FM.emp⟩⟩
def RTable.zero:RTable:=⟨[]⟩
section
variable {β:Type} {E' E size:Nat} {enc:β->List Value} {v:Value}
theorem vy_{σ:aj}{H:List Res}{q i:Nat}{z:List (NP β)}(hq:H[q]? =some (Res.dl_ E' E size enc v z i))(w:World)(h:kH σ H w):kH σ [ε E' 1 Dc v z] w:=
  ⟨h.1,λr hr=>by
    simp at hr;subst hr;exact h.2 _ (List.mem_of_getElem? hq) _ (iU ..)⟩
theorem JI{σ:aj}{H:List Res}{q i:Nat}{z:List (NP β)}{l:List (List β)}(hq:H[q]? =some (Res.dl_ E' E size enc v z i))(hZ:Zn z l)(w:World)(h:kH σ H w):uo v l.length/\l.length<=281474976710656:=by
  have:=ol_ (H:=H) (vy_ hq w h);rw [hZ.len]at this;exact this
end
theorem TC.OV{X:Ctx}{Q:QP}{id:Nat}{ops:Array Oper}{e:Env}{σ:aj}{H Hr:List Res}(hs: ∀r∈Hr,r∈H)(late:List Nat)(hm:X.P.follows .mixedOrders=true)(h:TA X ops Q σ Hr late ops.size (Array.replicate ops.size false) e σ H)(hnd:ne_ ops=true:=by kernel_rfl):TC X Q (.region id ops true) e σ H:=λw a hw ha=>
  Go.wpIn_mono (wpIn_region_any hm (i9_ _ _ _ _ (h (pv_ hnd) w.drew a hw.drew (qj (aj.le.refl _) hs _ hw.drew.sees) (mg_ _ _) ha))) λex a w h=>by
    cases ex<;>first|exact h|exact h.elim
section
variable {P:Program} {n:Nat} {e:Env} {σ:aj} {H:List Res} {o:Oper} {x y:Operand} {T T':TypeId} {k:IntKind} {a b:Int}
theorem OpVal.quoW(ho:o.op= .binOp .quo T x y T')(hx:ev e x= .int k a)(hy:ev e y= .int k b)(h:b≠0):OpVal P n o e σ H (.int k (k.wrap (a.tdiv b))):= .bin ho hx hy λw=>by simp [binOp,Op.intDiv,h]
end
theorem jn_: ∀l m:List UInt8,Op.bytesLess l m=decide (Lib.compareBytes l m<0)
  |[],[]=>by simp [Op.bytesLess,Lib.compareBytes]
  |_::_,[]=>by simp [Op.bytesLess,Lib.compareBytes]
  |[],_::_=>by simp [Op.bytesLess,Lib.compareBytes]
  | a :: x, b :: y => by
    simp only [Op.bytesLess,Lib.compareBytes,jn_ x y]
    by_cases h:a<b
    · simp [h]
    by_cases h':b<a
    · have: ¬ a=b:=λe=>by subst e;exact h h'
      simp [h,h',this]
    have:a=b:=UInt8.le_antisymm (UInt8.not_lt.1 h') (UInt8.not_lt.1 h);subst this;simp [h]
theorem OpVal.lssBs{P:Program}{n:Nat}{e:Env}{σ:aj}{H:List Res}{o:Oper}{x y:Operand}{l m:List UInt8}{T T':TypeId}(ho:o.op= .binOp .lss T x y T')(hx:ev e x= .string (bs l))(hy:ev e y= .string (bs m)):OpVal P n o e σ H (.bool (decide (Lib.compareBytes l m<0))):=λw _=>by
  simp only [execOp,ho,hx,hy,Sem.run_bind,gm_,Result.andThen_ok,binOp,Op.stringOp,ByteArray.toList_eq,l8_,jn_,Sem.run_pure]
theorem OpVal.br_{P:Program}{n:Nat}{e:Env}{σ:aj}{H:List Res}{o:Oper}{x:Operand}{T b E i j off:Nat}{cs:Array Value}(s:BSet)(ho:o.op= .load T x)(hA:aggOf P T=some false)(hx:ev e x=loc b (off+i * 1))(hi:H[j]? =some (ω b cs E))(hk:i<4)
    (hc:(cs.toList.drop off).take 4=s.vals):OpVal P n o e σ H (.int .u64 ((s.word i:Nat):Int)):=by
  refine OpVal.Aj ho hA hx hi ?_;have h1:((cs.toList.drop off).take 4)[i]? =some (.int .u64 ((s.word i:Nat):Int)):=by
    rw [hc]
    match i,hk with
    |0,_=>rfl
    |1,_=>rfl
    |2,_=>rfl
    |3,_=>rfl
  rw [List.getElem?_take,if_pos hk,List.getElem?_drop]at h1;rw [Nat.mul_one];simpa using h1
end Go.E
end

noncomputable section
namespace Go.Proofs.YtcfgkcfcddfccaaGreatDoor
open Go Go.E Go.E.OpVal Go.E.OpOk Go.Proofs.Tryz
open List (replicate)
theorem sU:prog.underlying 31=some (.slice 3):=underlying31
theorem um:prog.underlying 3=some (.int IntKind.i64):=underlying3
theorem yw:prog.underlying 5=some (.int IntKind.u8):=underlying5
theorem kR:prog.underlying 9=some .string:=underlying9
theorem AQ:prog.underlying 106=some (.map 9 3):=underlying106
theorem jZ:prog.underlying 32=some (.slice 31):=underlying32
theorem KE:prog.underlying 47=some (.array 4 45):=underlying47
theorem PG:prog.underlying 22=some (.slice 79):=underlying22
theorem PD:prog.underlying 23=some (.slice 49):=underlying23
theorem PI:prog.underlying 54=some (.slice 9):=underlying54
theorem ag106:aggOf Tryz.prog 106=some false:=by kernel_rfl
theorem vj_:aggOf Tryz.prog 32=some false:=by kernel_rfl
theorem mG:byOf Tryz.prog 31=some 24:=by kernel_rfl
theorem by5:byOf Tryz.prog 5=some 1:=by kernel_rfl
theorem fo210_0:foOf Tryz.prog 210 0=some 0:=by kernel_rfl
theorem fo210_1:foOf Tryz.prog 210 1=some 1:=by kernel_rfl
theorem fo212_0:foOf Tryz.prog 212 0=some 0:=by kernel_rfl
theorem pf128:plainF Tryz.prog 128=true:=by kernel_rfl
theorem UC:plainF Tryz.prog 147=true:=by kernel_rfl
theorem UA:plainF Tryz.prog 148=true:=by kernel_rfl
theorem Uz:plainF Tryz.prog 149=true:=by kernel_rfl
theorem Uy:plainF Tryz.prog 150=true:=by kernel_rfl
theorem Ul:plainF Tryz.prog 189=true:=by kernel_rfl
theorem Uk:plainF Tryz.prog 190=true:=by kernel_rfl
theorem KY:plainF Tryz.prog 60=true:=by kernel_rfl
theorem pl210:plOf Tryz.prog 210=some #[(0,1),(1,1)]:=by kernel_rfl
theorem pl212:plOf Tryz.prog 212=some #[(0,2)]:=by kernel_rfl
theorem jy:szOf Tryz.prog 31=some 1:=by kernel_rfl
theorem jM:szOf Tryz.prog 32=some 1:=by kernel_rfl
theorem ze210:zeroOf Tryz.prog 210=some (.agg #[aW,.map none]):=by kernel_rfl
theorem ze212:zeroOf Tryz.prog 212=some (.agg #[aW,.map none]):=by kernel_rfl
theorem ku:zeroOf Tryz.prog 31=some (aW):=by kernel_rfl
theorem ze5:zeroOf Tryz.prog 5=some (.int .u8 0):=by kernel_rfl
def Im_(x0:Int):Option (Bool):=
 some (decide (x0≠x0))
theorem K4_{σ:aj}{x0:Int}{r:Bool}(hh:Im_ x0=some r):
  Con prog 190 #[.int .i64 x0] σ [] (jq (.bool r) σ):=by
 dsimp only [Im_]at hh;refine cM 6 Tryz.func190 (λw0=> ?_);refine R11 ?_;refine η ?_;obtain rfl:=so hh;exact rq [2] ⟨z,z,z⟩
def Tf(x0:Int)(x1:Int):Option (Int):=
 bnd (Im_ x0) (λv3=>bnd (Im_ x1) (λv6=>iteO v3 (iteO v6 (some 0) (some (-1))) (iteO v6 (some 1) (iteO (decide (x0<x1)) (some (-1)) (iteO (decide (x1<x0)) (some 1) (some 0))))))
theorem B4_{σ:aj}{x0:Int}{x1:Int}{r:Int}(hh:Tf x0 x1=some r):
  Con prog 143 #[.int .i64 x0,.int .i64 x1] σ [] (jq (.int .i64 r) σ):=by
 dsimp only [Tf]at hh;refine cM 20 Tryz.func143 (λw0=> ?_);refine R7 ?_;obtain ⟨v3,u3,hh⟩:=bg hh;refine φ z (gI (K4_ u3) z z Uk z z z ?_);refine R5 ?_;obtain ⟨v6,u6,hh⟩:=bg hh;refine φ z (gI (K4_ u6) z z Uk z z z ?_);refine R7 ?_;refine TC.cB z hh (λgW hh=> ?_) (λgW hh=> ?_)
 ·refine R5 ?_;refine TC.cB z hh (λwC hh=> ?_) (λwC hh=> ?_)
  ·refine R4 ?_;refine η ?_;obtain rfl:=so hh;exact rq [4] ⟨z,z,z⟩
  refine R5 ?_;refine η ?_;obtain rfl:=so hh;exact rq [4] ⟨z,z,z⟩
 refine R6 ?_;refine TC.cB z hh (λnC hh=> ?_) (λnC hh=> ?_)
 ·refine R4 ?_;refine η ?_;obtain rfl:=so hh;exact rq [4] ⟨z,z,z⟩
 refine R8 ?_;refine π z hh (λgV hh=> ?_) (λgV hh=> ?_)
 ·refine R4 ?_;refine η ?_;obtain rfl:=so hh;exact rq [4] ⟨z,z,z⟩
 refine R8 ?_;refine π z hh (λdL hh=> ?_) (λdL hh=> ?_)
 ·refine R4 ?_;refine η ?_;obtain rfl:=so hh;exact rq [4] ⟨z,z,z⟩
 refine R5 ?_;refine η ?_;obtain rfl:=so hh;exact rq [4] ⟨z,z,z⟩
def Ec_(fB:Nat)(l119:ah):Option ((ah×Nat)⊕(ah)):=
 nxt (l119,(fB+1))
def Cg_(uH:Nat)(mF:ah)(x0:ah)(fB:Nat):Option ((ah×Nat)⊕(ah)):=
 grd (0<=uH/\uH<=mF.length) (grd ((([]:ah).length+(mF.take uH).length) * 8<=140737488355328) (grd (((([]:ah)++(mF.take uH)).length+[(nth x0 fB 0)].length) * 8<=140737488355328) (grd (uH<=mF.length/\mF.length<=mF.length) (grd ((((([]:ah)++(mF.take uH))++[(nth x0 fB 0)]).length+(mF.drop uH).length) * 8<=140737488355328) (Ec_ fB (((([]:ah)++(mF.take uH))++[(nth x0 fB 0)])++(mF.drop uH)))))))
def A9_(mF:ah)(x0:ah)(fB:Nat)(uH:Nat):Option ((ah×Nat)⊕(ah)):=
 iteO (decide ((uH:Int)<(mF.length:Int))) (iteO (decide ((nth mF uH 0)=(nth x0 fB 0))) (Ec_ fB mF) (Cg_ uH mF x0 fB)) (Cg_ uH mF x0 fB)
def Ar_(mF:ah)(x0:ah)(fB:Nat)(Lp:Nat):Option ((Nat)⊕((ah×Nat)⊕(ah))):=
 iteO (decide ((Lp:Int)<(mF.length:Int))) (iteO (decide ((nth mF Lp 0)<(nth x0 fB 0))) (nxt (Lp+1)) (fin (A9_ mF x0 fB Lp))) (fin (A9_ mF x0 fB Lp))
def Ch_(x0:ah)(mF:ah)(fB:Nat):Option ((ah×Nat)⊕(ah)):=
 iteO (decide ((fB:Int)<(x0.length:Int))) (iter (λq:Nat=>Ar_ mF x0 fB q) 0) (fin (some mF))
def Ji_(x0:ah):Option (ah):=
 iter (λq:ah×Nat=>Ch_ x0 q.1 q.2) (([]:ah),0)
theorem Ho_{σ:aj}{a:Option Addr}{c:Nat}{l:ah}(hl:dH σ ak a c l)(hsz:l.length * 8<=140737488355328):
  Con prog 60 #[.slice a l.length c] σ [] (RowP 3 1 ak l σ):=by
 have hb:=hl.rv.big;refine cM 8 Tryz.func60 (λw0=> ?_);refine R3 ?_;refine TL.nilS 3 1 ak (R5 ?_);refine ι z (b6_ z sU z z) (R1 ?_);refine TC.cond z (λh2=> ?_) (λh2=> ?_)
 ·refine R3 ?_;refine TL.nilS 3 1 ak (R1 ?_);refine η ?_;cases a with
  |some _=>simp at h2
  |none=>
   obtain rfl:=hl.b0_;exact v4_ z z
 refine R3 ?_;refine φ z (Ll (enc:=ak) z z sU oq z z (λa4 c5=> ?_));refine TL.s z z (φ z (bp_ z z sU oq IG yF z z (by decide) z z z (.inl hl) (by simpa using hsz) (by decide) (λa7 c8=> ?_)));refine R2 ?_;exact η (v4_ z z)
def Ib_(aU:Nat)(zZ:ah)(bV:Nat):Option ((ah×Nat×Nat)⊕((Nat)⊕(ah))):=
 nxt (zZ,bV,(aU+1))
def Lr_(x0:ah)(aI:Nat)(aK:ah)(aX:Nat)(aU:Nat):Option ((ah×Nat×Nat)⊕((Nat)⊕(ah))):=
 iteO (decide ((aU:Int)<(((x0.length - aI):Nat):Int))) (grd (aU<(x0.length - aI)) (grd (0<=(IntKind.i64.wrap ((aU:Int) - 1))/\(IntKind.i64.wrap ((aU:Int) - 1))<((x0.length - aI):Nat)) (iteO (decide ((nth aK (aI+aU) 0)≠(nth aK (aI+(IntKind.i64.wrap ((aU:Int) - 1)).toNat) 0))) (grd (aU<(x0.length - aI)) (grd (aX<aK.length) (Ib_ aU (aK.set aX (nth aK (aI+aU) 0)) (aX+1)))) (Ib_ aU aK aX)))) (fin (grd (aX<=x0.length) (grd (aX<=(aK.take aX++replicate (aK.length - aX) (0:Int)).length) (fin (some ((aK.take aX++replicate (aK.length - aX) (0:Int)).take aX))))))
def Lq_(x0:ah)(aI:Nat):Option ((Nat)⊕(ah)):=
 iteO (decide ((aI:Int)<(x0.length:Int))) (grd (0<=(IntKind.i64.wrap ((aI:Int) - 1))/\(IntKind.i64.wrap ((aI:Int) - 1))<(x0.length:Int)) (iteO (decide ((nth x0 aI 0)=(nth x0 ((IntKind.i64.wrap ((aI:Int) - 1)).toNat) 0))) (grd (aI<=x0.length) (iter (λq:ah×Nat×Nat=>Lr_ x0 aI q.1 q.2.1 q.2.2) (x0,aI,1))) (nxt (aI+1)))) (fin (some x0))
def j4_(x0:ah):Option (ah):=
 iteO (decide ((x0.length:Int)<2)) (some x0) (iter (λq:Nat=>Lq_ x0 q) 1)
theorem Lh_{σ:aj}{x0:ah}{r:ah}(hh:j4_ x0=some r):
  Con prog 189 #[.slice ay x0.length au] σ [dO 3 ak ay au x0] (λv σ' H'=> ∃a1 c1,v= .slice a1 r.length c1/\σ=σ'/\H'=[dO 3 ak a1 c1 r]):=by
 dsimp only [j4_]at hh;refine cM 61 Tryz.func189 (λw0=> ?_);refine R11 ?_;refine π z hh (λwC hh=> ?_) (λwC hh=> ?_)
 ·refine R5 ?_;refine η ?_;obtain rfl:=so hh;exact rz
 refine R7 ?_;refine TC.lp hh () (rgs [(2,4),(10,50)]) (λaI _=>([(3,.int .i64 (aI:Int))],[dO 3 ak ay au x0])) (θ 1 z) ?_;rintro aI _ _ z1 hh hR1;dsimp only [Lq_]at hh ⊢;refine ζ 0 z (λW_=> ?_);refine R8 ?_;refine π z hh (λgq hh=> ?_) (λgq hh=> ?_)
 ·refine R4 ?_;obtain ⟨yG,hh⟩:=gd hh;refine TC.dw [] (ν 0 z mS z (ν 1 z mI z (TA.isSl (i:=0) z (λG8 _ _=> ?_))));refine χ 2 z iN z (χ 3 z o1 z (ν 4 z mS z (ν 5 z mI z (ν 6 z (subW z z z) z (TA.isSl (i:=0) z (λVo _ _=> ?_))))));refine χ 7 z iX z (χ 8 z o1 z (ν 9 z (OpVal.eql z z z) z (R1 ?_)));refine π z hh (λh112 hh=> ?_) (λh112 hh=> ?_)
  ·refine R4 ?_;obtain ⟨u24,hh⟩:=gd hh;refine TL.iS 0 z (λDU=> ?_);obtain ⟨jl,Z4,hv113,D_⟩:=wh_ (k:=aI) (size:=1) DU (by omega);refine ι z (D_ z sU oq z z) (R8 ?_);refine TC.lk hh () (rgs [(3,1),(5,1),(29,25)]) (λ⟨aK,aX,aU⟩ _=>([(3,.int .i64 (aX:Int)),(5,.int .i64 (aU:Int))],[ε 3 1 ak (.slice ay x0.length au) aK])) (λ⟨aK,_,_⟩ _=>aK.length=x0.length) z (θ 1 z) ?_;rintro ⟨aK,aX,aU⟩ _ _ z2 hh hR2 gG;dsimp only [Lr_]at hh gG ⊢;refine ζ 0 z (λNY=> ?_);refine R8 ?_;refine π z hh (λh127 hh=> ?_) (λh127 hh=> ?_)
   ·refine R1 ?_;refine TC.cutG (α:=(ah×Nat)×(Unit)) (rgs [(3,1),(35,19)]) (λg=>[(3,.int .i64 (g.1.2:Int))]) (λg=>[ε 3 1 ak (.slice ay x0.length au) g.1.1]) (λg=>σ) (λg=>Ib_ aU g.1.1 g.1.2=some z2/\g.1.1.length=x0.length) ?_ (λg j hg=> ?_)
    ·refine R2 ?_;obtain ⟨u33,hh⟩:=gd hh;obtain ⟨u38,hh⟩:=gd hh;refine TC.dw [] (ν 0 z mS z (ν 1 z mI z (χ 2 z (elVw hv113 (by omega) (A_ z sU oq z z hv113.sl (by omega))) z (χ 3 z o1 z (ν 4 z mS z (ν 5 z mI z (ν 6 z (subW z z z) z (χ 7 z (elVw hv113 (by omega) (OpVal.index z sU oq z z hv113.sl u38.1 u38.2)) z (χ 8 z o1 z (ν 9 z (OpVal.neq z z z) z (R1 ?_)))))))))));refine π z hh (λCi hh=> ?_) (λCi hh=> ?_)
     ·refine R6 ?_;obtain ⟨u45,hh⟩:=gd hh;refine ι z (elVw hv113 (by omega) (A_ z sU oq z z hv113.sl (by omega))) (ι z o1 ?_);obtain ⟨PU,hh⟩:=gd hh;refine TL.iS 0 z (λLU=> ?_);refine ι z iN ?_;have y9:(aK.set aX (nth aK (aI+aU) 0)).length=x0.length:=by rw [fV];exact gG
      refine φ z (sS (nth aK (aI+aU) 0) ?_);refine R6 ?_;exact cf (((aK.set aX (nth aK (aI+aU) 0)),(aX+1)),()) ⟨hh,y9⟩ (θ 1 z)
     refine R1 ?_;exact cf ((aK,aX),()) ⟨hh,gG⟩ (θ 1 z)
    obtain ⟨⟨zZ,bV⟩,_⟩:=g;obtain ⟨hh,wW⟩:=hg
    try dsimp only at wW ⊢
    dsimp only [Ib_]at hh;refine ζ 0 z (λIy=> ?_);refine R5 ?_;exact nk hR2 hh () (θ 1 z) wW
   refine R1 ?_;replace hh:=bJ hR2 hh;refine R5 ?_;obtain ⟨u57,hh⟩:=gd hh;refine TL.iS 0 z (λwP=> ?_);rw [gG]at wP;obtain ⟨a136,rV,DN,D9⟩:=wh_ (k:=aX) (size:=1) wP (by omega);refine ι z (D9 z sU oq z z) ?_;have wV:(aK.take aX++replicate (aK.length - aX) (0:Int)).length=x0.length:=by simp only [iK,List.length_take,oI];(try simp only [oI]at *);omega
   refine φ z (cw_ (k:=aX) (0:Int) z sU yF z z DN (by omega) (by omega) aT (by decide) z GL ?_);refine R5 ?_;rw [<-wV];obtain ⟨u61,hh⟩:=gd hh;refine φ z (cutS z sU oq z z z z z (by omega) aT ?_);refine R2 ?_;refine η ?_;replace hh:=bJ hR1 hh;obtain rfl:=so hh;exact rz
  refine R6 ?_;exact nxq hR1 hh () (θ 1 z)
 refine R1 ?_;replace hh:=bJ hR1 hh;refine R6 ?_;refine η ?_;obtain rfl:=so hh;exact rz
def hl_(x0:ah):Option (ah):=
 grd (x0.length * 8<=140737488355328) (bnd (j4_ (List.mergeSort x0 λx y=>decide (x<=y))) (λv8=>some v8))
def gw_(σ:aj)(r:ah):Value->aj->List Res->Prop:=λv σ' H'=>
 ∃a1 c1,v= .slice a1 r.length c1/\σ=σ'/\H'=[dO 3 ak a1 c1 r]
theorem jk_{σ:aj}{x0:ah}(aC:dH σ ak aB aA x0){r:ah}(hh:hl_ x0=some r):
  Con prog 147 #[.slice aB x0.length aA] σ [] (gw_ σ r):=by
 dsimp only [hl_]at hh;refine cM 10 Tryz.func147 (λw0=> ?_);refine R7 ?_;obtain ⟨u3,hh⟩:=gd hh;refine φ z (OpOk.call (Ho_ aC u3) z z KY z z z z ?_);rintro _ _ _ _ ⟨⟨oh,nN,rfl⟩,rfl,rfl⟩;refine R5 ?_;have zf:(List.mergeSort x0 λx y=>decide (x<=y)).length=x0.length:=List.length_mergeSort _;refine φ z (OpOk.call (tr_ (l:=x0)) z z pf128 z z z z ?_);rintro _ _ _ _ ⟨rfl,rfl,rfl⟩;refine R4 ?_;rw [<-zf];obtain ⟨v8,u8,hh⟩:=bg hh;refine φ z (OpOk.call (Lh_ u8) z z Ul z z z z ?_);rintro _ _ _ jH ⟨a105_1,c105_2,rfl,rfl,rfl⟩;refine R2 ?_;refine η ?_;obtain rfl:=so hh;exact rz
def gu_(x0:ah)(fB:Nat)(fA:T_1)(gU:Nat):Option ((T_1×Nat)⊕((T_1×Nat)⊕(T_1))):=
 iteO (decide ((gU:Int)<8)) (grd (0<=IntKind.i64.wrap (8 * (gU:Int))) (grd ((fA.length+[(jd (((DT (AP (nth x0 fB 0)) ((IntKind.i64.wrap (8 * (gU:Int))).toNat)):Nat):Int))].length) * 1<=140737488355328) (nxt ((fA++[(jd (((DT (AP (nth x0 fB 0)) ((IntKind.i64.wrap (8 * (gU:Int))).toNat)):Nat):Int))]),(gU+1))))) (fin (nxt (fA,(fB+1))))
def g8_(x0:ah)(dY:T_1)(fB:Nat):Option ((T_1×Nat)⊕(T_1)):=
 iteO (decide ((fB:Int)<(x0.length:Int))) (iter (λq:T_1×Nat=>gu_ x0 fB q.1 q.2) (dY,0)) (fin (some dY))
def ib_(x0:ah):Option (T_1):=
 grd (0<=IntKind.i64.wrap (8 * (x0.length:Int))/\1 * (IntKind.i64.wrap (8 * (x0.length:Int))).toNat<=281474976710656) (iter (λq:T_1×Nat=>g8_ x0 q.1 q.2) (([]:T_1),0))
theorem kh_{σ:aj}{x0:ah}(aC:dH σ ak aB aA x0){r:T_1}(hh:ib_ x0=some r):
  Con prog 148 #[.slice aB x0.length aA] σ [] (jq (.string (bs r)) σ):=by
 dsimp only [ib_]at hh;have f0_0b:=aC.rv.big;refine cM 33 Tryz.func148 (λw0=> ?_);refine R9 ?_;obtain ⟨u5,hh⟩:=gd hh;refine φ rfl (dr_ (enc:=jo) (m:=(IntKind.i64.wrap (8 * (x0.length:Int))).toNat) rfl underlying84 sz5 by5 ze5 rfl rfl rfl (vN u5.1) (by omega) (by decide) (λoh nN=> ?_));refine R10 ?_;refine TC.lp hh (oh,nN) (rgs [(3,1),(5,2),(13,18)]) (λ⟨dY,fB⟩ ⟨jl,jR⟩=>([(3,.slice jl dY.length jR),(13,.int .i64 (fB:Int))],[dO 5 jo jl jR dY])) (θ 1 z) ?_;rintro ⟨dY,fB⟩ ⟨jl,jR⟩ _ z1 hh hR1;dsimp only [g8_]at hh ⊢;refine ζ 0 z (λhb116=> ?_);refine R5 ?_;refine π z hh (λtZ hh=> ?_) (λtZ hh=> ?_)
 ·refine R14 ?_;refine TC.lp hh (jl,jR) (rgs [(3,1),(6,1),(17,13)]) (λ⟨fA,gU⟩ ⟨a127,ql⟩=>([(3,.slice a127 fA.length ql),(17,.int .i64 (gU:Int))],[dO 5 jo a127 ql fA])) (θ 1 z) ?_;rintro ⟨fA,gU⟩ ⟨a127,ql⟩ _ z2 hh hR2;dsimp only [gu_]at hh ⊢;refine ζ 0 z (λW9=> ?_);refine R5 ?_;refine π z hh (λCi hh=> ?_) (λCi hh=> ?_)
  ·refine R11 ?_;refine ι z (convU z um underlying45 z) (R2 ?_);obtain ⟨u23,hh⟩:=gd hh;refine ι rfl (shrU (b:=(IntKind.i64.wrap (8 * (gU:Int))).toNat) rfl rfl (vN u23)) (ι z (EN z underlying45 yw z) (φ z (jc (enc:=jo) [(jd (((DT (AP (nth x0 fB 0)) ((IntKind.i64.wrap (8 * (gU:Int))).toNat)):Nat):Int))] (λa132 c133=> ?_))));refine κ 1 ?_;obtain ⟨u26,hh⟩:=gd hh;refine φ z (apF (.inr ⟨_,0,z⟩) u26 (λwI rV=> ?_));refine R6 ?_;exact nxq hR2 hh (wI,rV) (θ 1 z)
  refine R1 ?_;replace hh:=bJ hR2 hh;refine R5 ?_;exact nxq hR1 hh (a127,ql) (θ 1 z)
 refine R1 ?_;replace hh:=bJ hR1 hh;refine R4 ?_;refine TL.iS 0 z (λVk=> ?_);refine ι z (bg_ (l:=dY) z underlying84 yw kR z Vk (λw hw=>rdb_row (q:=0) z hw)) (R2 ?_);refine Ψ 0 ?_;obtain rfl:=so hh;exact rq [2] ⟨z,z,z⟩
def fc_(x0:IStore)(x1:T_1):Option (Int×Bool):=
 grd (x1.length<=281474976710656) (some ((x0.places.get x1 0),(x0.places.has x1)))
theorem gi_{σ:aj}{x0:IStore}{nS:List (ah×(aF 1 ak aT).P)}{x1:T_1}(zf0_4:ZOk σ (aF 1 ak aT) nS x0.rows){r:Int×Bool}(hh:fc_ x0 x1=some r):
  Con prog 149 #[loc aZ 0,.string (bs x1)] σ [ω aZ #[.slice ay x0.rows.length au,.map (some qm)] kE,ε 31 1 (aF 1 ak aT).en (.slice ay x0.rows.length au) nS,Γ iQ gX (some qm) x0.places] (λv σ' H'=>v= .tuple #[.int .i64 r.1,.bool r.2]/\σ=σ'/\H'=[ω aZ #[.slice ay x0.rows.length au,.map (some qm)] kE,ε 31 1 (aF 1 ak aT).en (.slice ay x0.rows.length au) nS,Γ iQ gX (some qm) x0.places]):=by
 dsimp only [fc_]at hh;have zf0_4b:=zf0_4.length;refine cM 19 Tryz.func149 (λw0=> ?_);obtain ⟨x1b,hh⟩:=gd hh;refine R12 ?_;refine ι z (OpVal.of (Xh 0 (q:=x1) z AQ yF z (i:=2) z z (JH kR)) (v':= .tuple #[.int .i64 (x0.places.get x1 0),.bool (x0.places.has x1)]) z) (R13 ?_);refine η ?_;obtain rfl:=so hh;exact rz
def fd_(x0:IStore)(x1:T_1)(x2:ah):Option (Int×IStore):=
 grd (x1.length<=281474976710656) (grd ((x0.rows.length+[x2].length) * 24<=140737488355328) (some ((x0.rows.length:Int),(⟨(x0.rows++[x2]),(x0.places.put x1 (x0.rows.length:Int))⟩:IStore))))
theorem gn_{σ:aj}{x0:IStore}{nS:List (ah×(aF 1 ak aT).P)}{x1:T_1}{x2:ah}(zf0_4:ZOk σ (aF 1 ak aT) nS x0.rows)(xW:dH σ ak uU uO x2){r:Int×IStore}(hh:fd_ x0 x1 x2=some r):
  Con prog 150 #[loc aZ 0,.string (bs x1),.slice uU x2.length uO] σ [ω aZ #[.slice ay x0.rows.length au,.map (some qm)] kE,ε 31 1 (aF 1 ak aT).en (.slice ay x0.rows.length au) nS,Γ iQ gX (some qm) x0.places] (λv σ' H'=> ∃nH nD, ∃(Gt:List (ah×(aF 1 ak aT).P)), ∃II,v= .int .i64 r.1/\ZOk σ' (aF 1 ak aT) Gt r.2.rows/\H'=[ω aZ #[.slice nH r.2.rows.length nD,.map (some II)] kE,ε 31 1 (aF 1 ak aT).en (.slice nH r.2.rows.length nD) Gt,Γ iQ gX (some II) r.2.places]):=by
 dsimp only [fd_]at hh;have zf0_4b:=zf0_4.length;refine cM 30 Tryz.func150 (λw0=> ?_);obtain ⟨x1b,hh⟩:=gd hh;refine R21 ?_;have Kv:ZOk _ (aF 1 ak aT) ([(x2,(uU,uO))]:List (ah×(aF 1 ak aT).P)) [x2]:=ZOk.cons (xW) (ZOk.nil _ _);refine φ z (litZ Kv z jZ jy z ku z z z (by decide) (by decide) z (by decide) z (by decide) (λkP c107=> ?_));refine κ 2 ?_;obtain ⟨u15,hh⟩:=gd hh;refine φ z (Jk (k:=(aF 1 ak aT)) zf0_4 Kv z z jZ jy mG ku z z (by decide) z z z (.inr ⟨_,0,z⟩) (by simpa using u15) (by decide) (λJu Jg zf112=> ?_));refine R2 ?_;refine κ 2 (R10 ?_);refine κ 3 (φ z (updB x1 (x0.rows.length:Int) z AQ z z z z (JH kR) ?_));refine R6 ?_;refine Θ (ψ [2,2] 3) (η ?_);obtain rfl:=so hh;exact ry
def j5_:Option (ITable):=
 some (⟨(⟨([]:aO),(FM.emp:FM T_1 Int)⟩:IStore)⟩:ITable)
theorem o5_{σ:aj}{r:ITable}(hh:j5_=some r):
  Con prog 86 #[] σ [] (λv σ' H'=> ∃br6 Xj Xg, ∃(zr3:List (ah×(aF 1 ak aT).P)), ∃br5,v=loc br6 0/\ZOk σ' (aF 1 ak aT) zr3 r.of.rows/\H'=[ω br6 #[.slice Xj r.of.rows.length Xg,.map (some br5)] 212,ε 31 1 (aF 1 ak aT).en (.slice Xj r.of.rows.length Xg) zr3,Γ iQ gX (some br5) r.of.places]):=by
 dsimp only [j5_]at hh;refine cM 5 Tryz.func86 (λw0=> ?_);refine R2 ?_;refine ι z (d2_ (.inr z) z) (R3 ?_);refine φ z (as_ (enc:=iQ) (encV:=gX) z z z (λb104=> ?_));refine R2 ?_;refine TL.bx (λyh=> ?_);refine R2 ?_;refine TC.nilS 31 1 (aF 1 ak aT).en ?_;have Kv:=ZOk.nil σ (aF 1 ak aT);refine Θ (ψ [2,1,2] 3) (η ?_);obtain rfl:=so hh;exact ry
def Xd(x0:ITable)(x1:ah):Option (Int×Bool×Int×ITable):=
 bnd (hl_ x1) (λv10=>bnd (ib_ v10) (λv13=>bnd (fc_ (⟨x0.of.rows,x0.of.places⟩:IStore) v13) (λv19=>iteO v19.2 (some (v19.1,false,0,(⟨(⟨x0.of.rows,x0.of.places⟩:IStore)⟩:ITable))) (iteO (decide (4096<=(x0.of.rows.length:Int))) (some (0,false,2,(⟨(⟨x0.of.rows,x0.of.places⟩:IStore)⟩:ITable))) (bnd (fd_ (⟨x0.of.rows,x0.of.places⟩:IStore) v13 v10) (λv45=>some (v45.1,true,0,(⟨(⟨v45.2.rows,v45.2.places⟩:IStore)⟩:ITable))))))))
theorem j7_{σ:aj}{x0:ITable}{nS:List (ah×(aF 1 ak aT).P)}{x1:ah}(zf0_4:ZOk σ (aF 1 ak aT) nS x0.of.rows)(bn:dH σ ak bY bW x1){r:Int×Bool×Int×ITable}(hh:Xd x0 x1=some r):
  Con prog 87 #[loc aZ 0,.slice bY x1.length bW] σ [ω aZ #[.slice ay x0.of.rows.length au,.map (some qm)] kE,ε 31 1 (aF 1 ak aT).en (.slice ay x0.of.rows.length au) nS,Γ iQ gX (some qm) x0.of.places] (λv σ' H'=> ∃nH nD, ∃(Gt:List (ah×(aF 1 ak aT).P)), ∃II,v= .tuple #[.int .i64 r.1,.bool r.2.1,.int .i64 r.2.2.1]/\ZOk σ' (aF 1 ak aT) Gt r.2.2.2.of.rows/\H'=[ω aZ #[.slice nH r.2.2.2.of.rows.length nD,.map (some II)] kE,ε 31 1 (aF 1 ak aT).en (.slice nH r.2.2.2.of.rows.length nD) Gt,Γ iQ gX (some II) r.2.2.2.of.places]):=by
 dsimp only [Xd]at hh;have zf0_4b:=zf0_4.length;refine cM 40 Tryz.func87 (λw0=> ?_);refine R10 ?_;refine ι z (eqlNil z underlying138 z z) (R6 ?_);obtain ⟨v10,u10,hh⟩:=bg hh;refine φ z (OpOk.call (jk_ bn u10) z z UC z z z z ?_);rintro _ _ _ wu ⟨a106_1,c106_1,rfl,rfl,rfl⟩;refine R5 ?_;obtain ⟨v13,u13,hh⟩:=bg hh;refine φ z (OQ (Con.lend aT (λ_ fK hr108=>kh_ hr108 u13)) z z UA z z z z ?_);refine R9 ?_;refine κ 3 (κ 3 (κ 3 ?_));obtain ⟨v19,yG,hh⟩:=bg hh;refine φ z (OpOk.call (gi_ zf0_4 yG) z z Uz z z z z ?_);rintro _ _ _ Zl ⟨rfl,rfl,rfl⟩;refine R10 ?_;refine TC.cB z hh (λgZ hh=> ?_) (λgZ hh=> ?_)
 ·refine R7 ?_;refine Θ (ψ [2,2,2] 3) (η ?_);obtain rfl:=so hh;exact ry
 refine R12 ?_;refine π z hh (λh112 hh=> ?_) (λh112 hh=> ?_)
 ·refine R6 ?_;refine Θ (ψ [2,2,2] 3) (η ?_);obtain rfl:=so hh;exact ry
 refine R8 ?_;refine κ 3 (TL.jO aT (λτ115 tV yS=> ?_));replace zf0_4:=zf0_4.mono tV;refine κ 2 (κ 2 (κ 2 ?_));obtain ⟨v45,u45,hh⟩:=bg hh;refine φ z (OpOk.call (gn_ zf0_4 yS u45) z z Uy z z z z ?_);rintro _ τ116 _ og ⟨a116_1,c116_2,z116_3,b116_5,rfl,zf116_4,rfl⟩;have zf116_4b:=zf116_4.length;refine R4 ?_;refine η ?_;obtain rfl:=so hh;exact ry
def gf_(x0:ITable)(x1:Int):Option (ah×Int):=
 iteO (decide (x1<0)) (some (([]:ah),1)) (iteO (decide ((x0.of.rows.length:Int)<=x1)) (some (([]:ah),1)) (grd (0<=x1/\x1<(x0.of.rows.length:Int)) (grd ((nth x0.of.rows x1.toNat []).length * 8<=140737488355328) (some ((nth x0.of.rows x1.toNat []),0)))))
theorem j8_{σ:aj}{x0:ITable}{nS:List (ah×(aF 1 ak aT).P)}{x1:Int}(zf0_4:ZOk σ (aF 1 ak aT) nS x0.of.rows){r:ah×Int}(hh:gf_ x0 x1=some r):
  Con prog 89 #[loc aZ 0,.int .i64 x1] σ [ω aZ #[.slice ay x0.of.rows.length au,.map (some qm)] kE,ε 31 1 (aF 1 ak aT).en (.slice ay x0.of.rows.length au) nS,Γ iQ gX (some qm) x0.of.places] (λv σ' H'=> ∃a1 c1,v= .tuple #[.slice a1 r.1.length c1,.int .i64 r.2]/\σ=σ'/\H'=[dO 3 ak a1 c1 r.1,ω aZ #[.slice ay x0.of.rows.length au,.map (some qm)] kE,ε 31 1 (aF 1 ak aT).en (.slice ay x0.of.rows.length au) nS,Γ iQ gX (some qm) x0.of.places]):=by
 dsimp only [gf_]at hh;have zf0_4b:=zf0_4.length;refine cM 29 Tryz.func89 (λw0=> ?_);refine R9 ?_;refine ι z (eqlNil z underlying138 z z) (R9 ?_);refine δ 10 z (λgV=> ?_) (λgV=> ?_)
 ·obtain ⟨gV,hh⟩:=iT gV hh;refine R16 ?_;refine TC.nilS 3 1 ak (η ?_);obtain rfl:=so hh;exact rz
 obtain ⟨gV,hh⟩:=iF gV hh;refine R10 ?_;refine π z hh (λfM hh=> ?_) (λfM hh=> ?_)
 ·refine R5 ?_;refine TC.nilS 3 1 ak (η ?_);obtain rfl:=so hh;exact rz
 refine R9 ?_;obtain ⟨u27,hh⟩:=gd hh;refine TL.iS 1 z (λhs108=> ?_);refine ι z iX ?_;obtain ⟨QU,VH⟩: ∃p,p=(nth nS x1.toNat ((aF 1 ak aT).d,(aF 1 ak aT).dp)).2:=⟨_,rfl⟩;have hk109:dH σ ak QU.1 QU.2 (nth x0.of.rows x1.toNat []):=by rw [VH];exact (zf0_4.at (by omega)).2
 refine ι z (OpVal.of (VH▸cz_ zf0_4 z pV z (q:=1) z (by omega) z) (v':= .slice QU.1 ((nth x0.of.rows x1.toNat []).length) QU.2) z) ?_;obtain ⟨u29,hh⟩:=gd hh;refine φ z (OpOk.call (Ho_ hk109 u29) z z KY z z z z ?_);rintro _ _ _ _ ⟨⟨Ju,Jg,rfl⟩,rfl,rfl⟩;refine R3 ?_;refine η ?_;obtain rfl:=so hh;exact rz
def q9_(x0:ITable)(x1:ah):Option (Int×Bool×Int×ITable):=
 bnd (hl_ x1) (λv10=>bnd (ib_ v10) (λv13=>bnd (fc_ (⟨x0.of.rows,x0.of.places⟩:IStore) v13) (λv19=>iteO v19.2 (some (v19.1,false,0,(⟨(⟨x0.of.rows,x0.of.places⟩:IStore)⟩:ITable))) (iteO (decide (4096<=(x0.of.rows.length:Int))) (some (0,false,2,(⟨(⟨x0.of.rows,x0.of.places⟩:IStore)⟩:ITable))) (bnd (fd_ (⟨x0.of.rows,x0.of.places⟩:IStore) v13 v10) (λv45=>some (v45.1,true,0,(⟨(⟨v45.2.rows,v45.2.places⟩:IStore)⟩:ITable))))))))
theorem ts_{σ:aj}{x0:ITable}{nS:List (ah×(aF 1 ak aT).P)}{x1:ah}(zf0_4:ZOk σ (aF 1 ak aT) nS x0.of.rows){r:Int×Bool×Int×ITable}(hh:q9_ x0 x1=some r):
  Con prog 87 #[loc aZ 0,.slice dV x1.length dU] σ [ω aZ #[.slice ay x0.of.rows.length au,.map (some qm)] kE,ε 31 1 (aF 1 ak aT).en (.slice ay x0.of.rows.length au) nS,Γ iQ gX (some qm) x0.of.places,dO 3 ak dV dU x1] (λv σ' H'=> ∃nH nD, ∃(Gt:List (ah×(aF 1 ak aT).P)), ∃II,v= .tuple #[.int .i64 r.1,.bool r.2.1,.int .i64 r.2.2.1]/\ZOk σ' (aF 1 ak aT) Gt r.2.2.2.of.rows/\H'=[ω aZ #[.slice nH r.2.2.2.of.rows.length nD,.map (some II)] kE,ε 31 1 (aF 1 ak aT).en (.slice nH r.2.2.2.of.rows.length nD) Gt,Γ iQ gX (some II) r.2.2.2.of.places,dO 3 ak dV dU x1]):=by
 dsimp only [q9_]at hh;have zf0_4b:=zf0_4.length;refine cM 40 Tryz.func87 (λw0=> ?_);refine R10 ?_;refine ι z (eqlNil z underlying138 z z) (R6 ?_);refine κ 3 ?_;obtain ⟨v10,u10,hh⟩:=bg hh;refine φ rfl (OpOk.call (Con.lendG (Post:=λτ=>gw_ τ v10) aT (by rintro τ τ' r σ' H' ⟨g0,g1,rfl,rfl,rfl⟩;exact ⟨rfl,g0,g1,rfl,rfl,rfl⟩) (λ_ hle_ hr_=>jk_ hr_ u10)) rfl rfl UC rfl rfl rfl rfl ?_);rintro _ _ _ lV ⟨_,⟨a107_1,c107_1,rfl,rfl,rfl⟩,rfl⟩;refine R5 ?_;obtain ⟨v13,u13,hh⟩:=bg hh;refine φ z (OQ (Con.lend aT (λ_ Zl hr109=>kh_ hr109 u13)) z z UA z z z z ?_);refine R9 ?_;refine κ 4 (κ 4 (κ 4 ?_));obtain ⟨v19,yG,hh⟩:=bg hh;refine φ z (OpOk.call (gi_ zf0_4 yG) z z Uz z z z z ?_);rintro _ _ _ jG ⟨rfl,rfl,rfl⟩;refine R10 ?_;refine TC.cB z hh (λh112 hh=> ?_) (λh112 hh=> ?_)
 ·refine R7 ?_;refine Θ (ψ [4,3,3,3] 4) (η ?_);obtain rfl:=so hh;exact ry
 refine R12 ?_;refine π z hh (λwB hh=> ?_) (λwB hh=> ?_)
 ·refine R6 ?_;refine Θ (ψ [4,3,3,3] 4) (η ?_);obtain rfl:=so hh;exact ry
 refine R8 ?_;refine κ 3 (TL.jO aT (λτ116 gY D8=> ?_));replace zf0_4:=zf0_4.mono gY;refine κ 2 (κ 2 (κ 2 ?_));obtain ⟨v45,u45,hh⟩:=bg hh;refine φ z (OpOk.call (gn_ zf0_4 D8 u45) z z Uy z z z z ?_);rintro _ τ117 _ jF ⟨a117_1,c117_2,z117_3,b117_5,rfl,zf117_4,rfl⟩;have zf117_4b:=zf117_4.length;refine R4 ?_;refine η ?_;obtain rfl:=so hh;exact ry
def f5_(x0:ITable):Option (Int):=
 some (x0.of.rows.length:Int)
theorem jo_{σ:aj}{x0:ITable}{nS:List (ah×(aF 1 ak aT).P)}(zf0_4:ZOk σ (aF 1 ak aT) nS x0.of.rows){r:Int}(hh:f5_ x0=some r):
  Con prog 88 #[loc aZ 0] σ [ω aZ #[.slice ay x0.of.rows.length au,.map (some qm)] kE,ε 31 1 (aF 1 ak aT).en (.slice ay x0.of.rows.length au) nS,Γ iQ gX (some qm) x0.of.places] (λv σ' H'=>v= .int .i64 r/\σ=σ'/\H'=[ω aZ #[.slice ay x0.of.rows.length au,.map (some qm)] kE,ε 31 1 (aF 1 ak aT).en (.slice ay x0.of.rows.length au) nS,Γ iQ gX (some qm) x0.of.places]):=by
 dsimp only [f5_]at hh;have zf0_4b:=zf0_4.length;refine cM 11 Tryz.func88 (λw0=> ?_);refine R8 ?_;refine ι z (eqlNil z underlying138 z z) (R13 ?_);refine η ?_;obtain rfl:=so hh;exact rz
end Go.Proofs.YtcfgkcfcddfccaaGreatDoor
end

noncomputable section
namespace Go.E
open Go
structure Dfa where
  cls:List Int
  next:List (List Int)
  fin:List Bool
def Dfa.zero:Dfa:=⟨[],[],[]⟩
structure DfaP where
  a1:Option Addr
  c1:Nat
  a2:Option Addr
  c2:Nat
  a3:Option Addr
  c3:Nat
def DfaP.zero:DfaP:=⟨none,0,none,0,none,0⟩
structure RDfa (σ:aj) (x:Dfa) (p:DfaP):Prop where
  c:RS σ 1 ak (.slice p.a1 x.cls.length p.c1) x.cls
  n:RZ σ (aF 1 ak aT) (.slice p.a2 x.next.length p.c2) x.next
  e:RS σ 1 dG (.slice p.a3 x.fin.length p.c3) x.fin
def GT{α:Type}(σ:aj)(g:Nat)(enc:α->List Value)(l:List α):Prop:= ∃E,σ g=some (.cells (l.flatMap enc).toArray E)
theorem GT.mono{α:Type}{σ τ:aj}{g:Nat}{enc:α->List Value}{l:List α}(h:GT σ g enc l)(hle:σ.le τ):GT τ g enc l:=let ⟨E,h⟩:=h;⟨E,hle _ _ h⟩
theorem qx_{α:Type}{enc:α->List Value}(hl: ∀x,(enc x).length=1)(d:α): ∀(l:List α) (i:Nat),i<l.length->(l.flatMap enc)[i]? =(enc (nth l i d))[0]?
  |[],i,h=>by simp at h
  |x::l,0,_=>by
    have:=hl x;rw [List.flatMap_cons,List.getElem?_append_left (by omega)];simp [nth]
  |x::l,i+1,h=>by
    have h1:=hl x;rw [List.flatMap_cons,List.getElem?_append_right (by omega),h1,Nat.add_sub_cancel,qx_ hl d l i (by simpa using h)];simp [nth]
theorem OpVal.loadG1{P:Program}{n:Nat}{e:Env}{σ:aj}{H:List Res}{o:Oper}{x:Operand}{α:Type}{T g i:Nat}{enc:α->List Value}{l:List α}{v:Value}(d:α)(ho:o.op= .load T x)(hA:aggOf P T=some false)(hx:ev e x=loc g (0+i * 1))(hG:GT σ g enc l)(hi:i<l.length)(hl: ∀x,(enc x).length=1)(hv:enc (nth l i d)=[v]):OpVal P n o e σ H v:=λw hw=>by
  obtain ⟨E,hE⟩:=hG;have h1:=hw.1 _ _ hE;have hc:w.cell? ⟨g,0+i * 1,none⟩=some v:=by
    have h2:=qx_ hl d l i hi;rw [hv]at h2;simp only [World.cell?,h1,Option.isSome_none,Bool.false_eq_true,if_false,Nat.zero_add,Nat.mul_one,List.getElem?_toArray];rw [h2];rfl
  rw [Nat.zero_add,Nat.mul_one]at hc hx;simp [execOp,ho,hx,Instr.loadAt,Instr.sureAddr,loc,f7_ hA hc]
theorem OpVal.negW{P:Program}{n:Nat}{e:Env}{σ:aj}{H:List Res}{o:Oper}{x:Operand}{T:TypeId}{k:IntKind}{a:Int}(ho:o.op= .unOp .neg T x)(hx:ev e x= .int k a):OpVal P n o e σ H (.int k (k.wrap (-a))):=λw _=>by
  simp [execOp,ho,hx,Op.unary,Op.intArith]
theorem OpVal.negU{P:Program}{n:Nat}{e:Env}{σ:aj}{H:List Res}{o:Oper}{x:Operand}{T:TypeId}{a:Nat}(ho:o.op= .unOp .neg T x)(hx:ev e x= .int .u64 (a:Nat)):OpVal P n o e σ H (.int .u64 ((AP (-(a:Int)):Nat):Int)):=by
  rw [so_];exact OpVal.negW ho hx
theorem OpVal.cp_{P:Program}{n:Nat}{e:Env}{σ:aj}{H:List Res}{o:Oper}{x y:Operand}{T E i:Nat}{k:IntKind}{s:BSet}(ho:o.op= .index T x y)(ht:P.underlying T=some (.array 4 E))(hz:szOf P E=some 1)(hA:aggOf P E=some false)(hx:ev e x=vk s)(hy:ev e y= .int k (i:Nat))(hi:i<4):
    OpVal P n o e σ H (.int .u64 ((s.word i:Nat):Int)):=λw _=>by
  have h1:=rc_ s hi;simp [execOp,ho,hx,hy,vk,Instr.index,asIntOf,run_underlying ht,xX hz,part,jp_ hA,h1];omega
def deB:List UInt8:=[0,1,56,2,57,49,28,3,61,58,42,50,38,29,17,4,62,47,59,36,45,43,51,22,53,39,33,30,24,18,12,5,63,55,48,27,60,41,37,16,46,35,44,21,52,32,23,11,54,26,40,15,34,20,31,10,25,14,19,9,13,8,7,6]
end Go.E
end

noncomputable section
namespace Go.E
open Go Go.Sort Go.Proofs Go.Shelf
def p10:List Nat:=[1,10,100,1000,10000,100000,1000000,10000000,100000000,1000000000,10000000000,100000000000,1000000000000,10000000000000,100000000000000,1000000000000000,10000000000000000,100000000000000000,1000000000000000000,10000000000000000000]
theorem Reach.laterI{w:World}{σ:aj}(h:Reach w [] σ σ w [])(k:Nat)(os:Array Obj):Reach w [] σ σ (grow (w.drewN k) os) []:=by
  have hh: ∀i,i<w.heap.size->(grow (w.drewN k) os).heap[i]? =w.heap[i]? :=λi hi=>by
    show (w.heap++os)[i]? =_;rw [Array.getElem?_append_left hi]
  refine ⟨rfl,rfl,rfl,?_,λi hi _=>hh i hi,aj.le.refl _,λb o hb=> ?_,λb o hb=> .inl hb,by simp,by simp,by simp [fJ],by simp,?_⟩
  · show w.heap.size<=(w.heap++os).size
    simp
  · have h1:=h.fit b o hb
    have hlt:=(Array.getElem?_eq_some_iff.1 h1).1;rw [hh b hlt];exact h1
  show w.drawn<=w.drawn+k;omega
theorem itoa_of{P : Program}{ρ : Ren}{f g : Nat}(L : LaysM.n171 P ρ)(hf : ρ.f 171 = f)(hg : P.globalNamed "internal/strconv.uint64pow10" = some g){n : Int}{σ : aj}(hn : -9223372036854775808 ≤ n ∧ n ≤ 9223372036854775807)(h : GT σ g encW p10) :
    Con P f #[.int .i64 n] σ [] (jq (.string (bs (Lib.itoa n))) σ):=by
  subst hf;intro w hw;obtain ⟨E,hE⟩:=h
  have htab : Lib.TabIs P w "internal/strconv.uint64pow10" .u64 Lib.pow10Tab := by
    unfold Lib.TabIs World.var?;rw [hg];have h1:=hw.fit _ _ hE;simp only [Option.bind_some,h1];rfl
  refine (Any.strconv_Itoa L n hn.1 hn.2 w htab).mono ?_;rintro e w' ⟨rfl,k,os,rfl⟩;exact ⟨_,σ,[],rfl,⟨rfl,rfl,rfl⟩,hw.laterI k os⟩
structure xu (σ:aj) (g1 g2:Nat):Prop where
  b:GT σ g1 jo deB
  p:GT σ g2 encW p10
theorem xu.mono{σ τ:aj}{g1 g2:Nat}(h:xu σ g1 g2)(hle:σ.le τ):xu τ g1 g2:=⟨h.b.mono hle,h.p.mono hle⟩
end Go.E
end

noncomputable section
namespace Go.E
open Go
structure YSpec (S:Type) where
  R:S->aj->Res->Prop
  mono: ∀{s σ σ' r},R s σ r->σ.le σ'->R s σ' r
def YR{S:Type}(Z:YSpec S)(s:S)(σ:aj)(r:Res):Prop:=Z.R s σ r
theorem YR.mono{S:Type}{Z:YSpec S}{s:S}{σ σ':aj}{r:Res}(h:YR Z s σ r)(hle:σ.le σ'):YR Z s σ' r:=Z.mono h hle
def YOk (P : Program) (l : Nat) {S α : Type} (A : α -> aj -> List Value -> Prop) (Z : YSpec S) (Y : S -> α -> Option (S × Bool)) : Prop :=
  ∀s x σ r args w s' b,Y s x=some (s',b)->A x σ args->YR Z s σ r->Reach w r.bl σ σ w [r]->
    YieldAt (fence none) 0 P l args.toArray w λe w'=>e= .returned (.bool b)/\ ∃σ' r',YR Z s' σ' r'/\Reach w r.bl σ σ' w' [r']
def ug_ (P : Program) (f : FuncId) (lb : List Value) {S α : Type} (A : α -> aj -> List Value -> Prop) (Y : S -> α -> Option (S × Bool)) (σ : aj) (Hc : List Res) (s s' : S) (Post : aj -> List Res -> Prop) : Prop :=
  ∀(l:Nat) (Z:YSpec S) (r:Res),YOk P l A Z Y->YR Z s σ r->
    Con P f (.func (.yield l) #[] #[]::lb).toArray σ (r::Hc) λ_ σ' H'=> ∃r' Hc',H'=r'::Hc'/\YR Z s' σ' r'/\Post σ' Hc'
theorem OpOk.callY{X:Ctx}{e:Env}{σ:aj}{H F:List Res}{o:Oper}{x:Operand}{K:Env->aj->List Res->Prop}{l d:Nat}{opds:Array Operand}{ts:Array TypeId}{S α:Type}{A:α->aj->List Value->Prop}{Z:YSpec S}{Y:S->α->Option (S×Bool)}{s:S}{q:S×Bool}{v:α}{r:Res}
    (hY:YOk X.P l A Z Y) (hs:YR Z s σ r) (he:Y s v=some q) (ho:o.op= .call {callee:= .value x,args:=opds,argTypes:=ts})
    (hx:ev e x= .func (.yield l) #[] #[]) (hA:A v σ (opds.toList.map (ev e))) (hd:o.dst=some d) (hn:Nat.blt d X.n=true) (hH:r::F=H)
    (k: ∀σ' r',σ.le σ'->YR Z q.1 σ' r'->K (upd e d (.bool q.2)) σ' (r'::F)):OpOk X o e σ H K:=by
  subst hH;obtain ⟨s',b⟩:=q;intro u0 C0 τ0 w a hw ha K' Q hK;have hbl:fJ [r]=r.bl:=by simp [fJ]
  have hself:Reach w r.bl σ σ w [r]:=by
    have:=(hw.sub (H':=[r]) (by simp)).self
    rwa [hbl]at this
  obtain ⟨fn,tmps,assign,body,hrun,hround⟩:=hY s v σ r _ w s' b he hA hs hself;have hr:(execOp a.eval o).run X.P w= .ok (.round l fn tmps assign body) w:=by
    rw [ha.eval'];have hl:(opds.toList.map (ev e)).toArray=opds.map (ev e):=by apply Array.ext';simp
    rw [hl]at hrun;simp [execOp,ho,resolve,hx,Deferred.ofValue,invoke,hrun]
  refine Oper.b9_ hr (λ_=>by simp) ?_;rw [Oper.uponIn_round];refine ⟨λh=>(by cases h),RoundIn.mono (R:=λe w'=>e= .returned (.bool b)/\ ∃σ' r',YR Z s' σ' r'/\Reach w r.bl σ σ' w' [r']) hround ?_⟩;rintro ex w' ⟨rfl,σ',r',h1,h2⟩;refine hK _ _ _ _ _ (k σ' r' h2.le h1) (Reach.call (H1:=[r]) (Jv:=[r']) hw (by rw [hbl];exact h2)) (xR ha hd hn _)
def Res.lrec(b:Nat)(o:Obj):Res:=⟨[b],λw=>w.heap[b]? =some o,λw k hk h=>by simp at hk;subst hk;exact (Array.getElem?_eq_some_iff.1 h).1,λw w' hb h=>by rw [hb b (by simp)];exact h⟩
theorem Reach.cf_{w0:World}{C:List Nat}{σ0 σ:aj}{w:World}{l:Nat}{o o':Obj}{F:List Res}(h:Reach w0 C σ0 σ w (Res.lrec l o::F)):Reach w0 C σ0 σ (w.putObj l o') (Res.lrec l o'::F):=by
  have hl:w.heap[l]? =some o:=h.holds _ (iU ..);refine h.turn rfl rfl rfl (by simp [World.putObj]) (Nat.le_refl _) (λk _ hk=>World.putObj_heap_other (λe=>hk (by simp [Res.lrec,e]))) (World.putObj_heap_same (Array.getElem?_eq_some_iff.1 hl).1) (λb hb=> .inl hb) (by simp [Res.lrec])
theorem Reach.tail{w0:World}{C:List Nat}{σ0 σ:aj}{w:World}{r:Res}{F:List Res}(h:Reach w0 C σ0 σ w (r::F)):Reach w (fJ F) σ σ w F:=(h.sub (List.sublist_cons_self ..)).self
theorem Reach.ZL{w0:World}{C:List Nat}{σ0 σ σ':aj}{w w':World}{r:Res}{F F':List Res}(h:Reach w0 C σ0 σ w (r::F))(k:Reach w (fJ F) σ σ' w' F'):Reach w0 C σ0 σ' w' (r::F'):=by
  have h1:Reach w0 C σ0 σ w (F++[r]):=h.perm (List.perm_append_singleton r F);exact (h1.call k).perm (List.perm_append_singleton r F').symm
def yh_(e:Env)(ps:List Tmp)(vs:List Value):Env:=(ps.zip vs).foldl (λe p=>upd e p.1 p.2) e
theorem St.binds{n:Nat}: ∀(ps:List Tmp) (vs:List Value) {e:Env} {t:Array Value},(∀p∈ps,p<n)->St n e {tmps:=t,defers:=[]}->St n (yh_ e ps vs) {tmps:=(ps.zip vs).foldl (λt p=>t.setIfInBounds p.1 p.2) t,defers:=[]}
  |[],_,_,_,_,h=>h
  |_::_,[],_,_,_,h=>h
  |p::ps,v::vs,e,t,hp,h=>by
    have h1:=h.put (hp p (iU ..)) v;exact St.binds ps vs (λq hq=>hp q (rM _ hq)) h1
@[reducible]def asgQ(K:Env->aj->List Res->Prop):QP:=λex=>match ex with
  | .normal=>K
  |_=>λ_ _ _=>False
@[reducible]def rndQ(J:List Code)(K:Nat->aj->List Res->Prop):QP:=λex _ σ H=>match ex with
  | .normal=>K 0 σ H
  | .ret=> ∃j,J[j]? =some .ret/\K (j+1) σ H
  | .exit i=> ∃j,J[j]? =some (.exit i)/\K (j+1) σ H
  | .goto i=> ∃j,J[j]? =some (.goto i)/\K (j+1) σ H
  |_=>False
def stepY{S α:Type}(B:S->α->Option (Nat×S))(p:Nat×S)(x:α):Option ((Nat×S)×Bool):=
  if p.1=0 then (B p.2 x).bind λq=>some (q,q.1 == 0) else none
theorem wq_{S α:Type}{B:S->α->Option (Nat×S)}{p p':Nat×S}{x:α}{b:Bool}(h:stepY B p x=some (p',b)):p.1=0/\B p.2 x=some p'/\b=(p'.1 == 0):=by
  unfold stepY at h
  split at h
  · rename_i h0
    cases hb:B p.2 x with
    |none=>simp [hb]at h
    |some q=>simp [hb]at h;exact ⟨h0,by rw [h.1],by rw [<-h.2,h.1]⟩
  cases h
abbrev uY(fn:FuncId)(tmps:Array Value)(ps:Array Tmp)(assign body:Code)(D:Nat)(st:LoopState)(pe:Option Code):Loop:={state:=st,pending:=pe,fn,tmps,params:=ps,assign,body,defers:=D}
def IZ(rec:LoopState->Option Code->Loop)(J:List Code)(j:Nat):Obj:= .loop (if j=0 then rec .ready none else rec .done (J[j - 1]?))
def rndZ{S:Type}(l:Nat)(rec:LoopState->Option Code->Loop)(J:List Code)(σs:aj)(G:S->aj->List Res->Prop)(hG: ∀{s σ σ' H},G s σ H->σ.le σ'->G s σ' H):YSpec (Nat×S) where
  R p σ r:= ∃Hs,r=Res.star (Res.lrec l (IZ rec J p.1)::Hs)/\G p.2 σ Hs/\σs.le σ/\(p.1≠0-> ∃c,J[p.1 - 1]? =some c)
  mono:=λ⟨Hs,h1,h2,h3,h4⟩ hle=>⟨Hs,h1,hG h2 hle,h3.trans hle,h4⟩
theorem qv_{w0:World}{C:List Nat}{σ0 σ:aj}{w:World}{l:Nat}{o:Obj}{F:List Res}(h:Reach w0 C σ0 σ w (Res.lrec l o::F)):l∉fJ F/\σ l=none:=by
  have hn:=h.nodup;simp only [fJ,List.flatMap_cons,Res.lrec,List.cons_append,List.nil_append,List.nodup_cons]at hn;exact ⟨hn.1,h.apart _ (iU ..) l (by simp [Res.lrec])⟩
theorem yOk_of {P : Program} {n l : Nat} {S α : Type} {A : α -> aj -> List Value -> Prop} {J : List Code} {B : S -> α -> Option (Nat × S)} {σs : aj} {G : S -> aj -> List Res -> Prop} {hG : ∀ {s σ σ' H}, G s σ H -> σ.le σ' -> G s σ' H} {fn : FuncId} {ps : Array Tmp} {assign body : Code} {e : Env} {tmps : Array Value} {D : Nat}
    (hst:St n e {tmps:=tmps,defers:=[]}) (hps: ∀p∈ps.toList,p<n) (hA: ∀x σ vs,A x σ vs->vs.length=ps.size)
    (hbody: ∀(w0:World) (C:List Nat) (τ σ:aj) (s:S) (x:α) (q:Nat×S) (vs:List Value) (Hs:List Res),B s x=some q->σs.le σ->A x σ vs->G s σ Hs->
      TC ⟨P,w0,C,τ,n,some l,none⟩ (asgQ λe σ H=> ∀w0 C τ,TC ⟨P,w0,C,τ,n,some l,none⟩ (rndQ J λj σ H=>q.1=j/\G q.2 σ H) body e σ H) assign (yh_ e ps.toList vs) σ Hs):
    YOk P l A (rndZ l (uY fn tmps ps assign body D) J σs G hG) (stepY B):=by
  rintro p x σ r args w p' b hy hax ⟨Hs,rfl,hg,hle, -⟩ hw;obtain ⟨hp0,hB,rfl⟩:=wq_ hy;rw [hp0]at hw;have hw1:Reach w (Res.star (Res.lrec l (IZ (uY fn tmps ps assign body D) J 0)::Hs)).bl σ σ w (Res.lrec l (.loop (uY fn tmps ps assign body D .ready none))::Hs):=by
    have:=hw.cc_;rw [List.append_nil]at this;exact this
  have hlen:=hA x σ args hax;have hl1:w.heap[l]? =some (.loop (uY fn tmps ps assign body D .ready none)):=hw1.holds _ (iU ..);have hy:=run_yield (P:=P) (args:=args.toArray) hl1 (by simpa using hlen);refine ⟨fn,_,assign,body,hy,roundIn_of_wpIn trivial ?_⟩;have hz:(ps.zip args.toArray).foldl (λt (p,v)=>t.setIfInBounds p v) tmps=(ps.toList.zip args).foldl (λt p=>t.setIfInBounds p.1 p.2) tmps:=by
    rw [<-Array.foldl_toList,Array.toList_zip]
  have hS:St n (yh_ e ps.toList args) {tmps:=(ps.zip args.toArray).foldl (λt (p,v)=>t.setIfInBounds p v) tmps,defers:=[]}:=by
    rw [hz];exact St.binds _ _ hps hst
  refine wpIn_mono (hbody w (fJ Hs) σ σ p.2 x p' args Hs hB hle hax hg w _ ⟨hw1.tail,⟨λ_=>⟨[],rfl,List.nodup_nil,by simp⟩,(λ_ h=>by cases h),λl' hl'=> ?_⟩⟩ hS) ?_
  · cases hl';exact ⟨rfl,⟨_,hl1⟩,(qv_ hw1).1,(qv_ hw1).2⟩
  rintro ex a2 w2 ⟨e2,σ2,H2,hS2,hw2,hq2⟩;cases ex with
  |normal=>
    have hw2':=hw1.ZL hw2.toReach;have hl2:w2.heap[l]? =some (.loop (uY fn tmps ps assign body D .ready none)):=hw2'.holds _ (iU ..);have hw3:=hw2'.cf_ (o':= .loop (uY fn tmps ps assign body D .busy none));have hl3:(w2.putObj l (.loop (uY fn tmps ps assign body D .busy none))).heap[l]? =some (.loop (uY fn tmps ps assign body D .busy none)):=hw3.holds _ (iU ..);have hd2:a2.defers=[]:=(hw2.marks.rc l rfl).1;refine ⟨_,run_beginRound hl2 rfl,?_⟩;refine wpIn_mono (hq2 _ (fJ H2) σ2 _ a2 ⟨hw3.tail,⟨λ_=>⟨[],by rw [hd2];rfl,List.nodup_nil,by simp⟩,(λ_ h=>by cases h),λl' hl'=> ?_⟩⟩ hS2) ?_
    · cases hl';exact ⟨hd2,⟨_,hl3⟩,(qv_ hw3).1,(qv_ hw3).2⟩
    rintro ex a4 w4 ⟨e4,σ4,H4,hS4,hw4,hq4⟩;have YD:=hw3.ZL hw4.toReach;have hl4:w4.heap[l]? =some (.loop (uY fn tmps ps assign body D .busy none)):=YD.holds _ (iU ..);have fin: ∀(jump:Option Code) (j:Nat),p'.1=j->(j=0->jump=none)->(j≠0->jump=J[j - 1]? /\ ∃c,jump=some c)->G p'.2 σ4 H4-> ∃v w',(Instr.endRound l jump).run P w4= .ok v w'/\(Ending.returned v= .returned (.bool (p'.1 == 0))/\ ∃σ' r',YR (rndZ l (uY fn tmps ps assign body D) J σs G hG) p' σ' r'/\Reach w (Res.star (Res.lrec l (IZ (uY fn tmps ps assign body D) J p.1)::Hs)).bl σ σ' w' [r']):=λjump j h1 h2 h3 h4=>by
      have h6:Obj.loop (uY fn tmps ps assign body D (if jump.isNone then .ready else .done) jump)=IZ (uY fn tmps ps assign body D) J p'.1:=by
        unfold IZ;rw [h1]
        by_cases h0:j=0
        · rw [if_pos h0,h2 h0];rfl
        obtain ⟨h7,c,h8⟩:=h3 h0;rw [if_neg h0,<-h7,h8];rfl
      refine ⟨_,_,run_endRound jump hl4,?_,σ4,Res.star (Res.lrec l (IZ (uY fn tmps ps assign body D) J p'.1)::H4),⟨H4,rfl,h4,hle.trans YD.le,λh=> ?_⟩,?_⟩
      · rw [h1]
        by_cases h0:j=0
        · rw [h2 h0,h0];rfl
        obtain ⟨_,c,hc⟩:=h3 h0;rw [hc];simp [h0]
      · rw [h1]at h ⊢
        obtain ⟨h5,c,h6⟩:=h3 h;exact ⟨c,by rw [<-h5,h6]⟩
      have h5:=YD.cf_ (o':= .loop (uY fn tmps ps assign body D (if jump.isNone then .ready else .done) jump));show Reach w _ σ σ4 (w4.putObj l (.loop (uY fn tmps ps assign body D (if jump.isNone then .ready else .done) jump))) _;rw [h6]at h5 ⊢;rw [hp0];exact Reach.star (G:=Res.lrec l (IZ (uY fn tmps ps assign body D) J p'.1)::H4) (F:=[]) (by rw [List.append_nil];exact h5)
    cases ex with
    |normal=>exact fin none 0 hq4.1 (λ_=>rfl) (λh=>absurd rfl h) hq4.2
    |ret=>obtain ⟨j,hj,h1,h2⟩:=hq4;exact fin (some .ret) (j+1) h1 (λh=>by cases h) (λ_=>⟨by simpa using hj.symm,_,rfl⟩) h2
    |exit i=>obtain ⟨j,hj,h1,h2⟩:=hq4;exact fin (some (.exit i)) (j+1) h1 (λh=>by cases h) (λ_=>⟨by simpa using hj.symm,_,rfl⟩) h2
    |goto i=>obtain ⟨j,hj,h1,h2⟩:=hq4;exact fin (some (.goto i)) (j+1) h1 (λh=>by cases h) (λ_=>⟨by simpa using hj.symm,_,rfl⟩) h2
    |panic c=>exact hq4.elim
    |outgrown=>exact hq4.elim
  |exit i=>exact hq2.elim
  |goto i=>exact hq2.elim
  |ret=>exact hq2.elim
  |panic c=>exact hq2.elim
  |outgrown=>exact hq2.elim
@[reducible]def jmpQ(X:Ctx)(Q:QP)(J:List Code):Nat->Env->aj->List Res->Prop
  |0=>Q .normal
  |j+1=>λe σ H=> ∀c,J[j]? =some c->TC X Q c e σ H
theorem TC.rangeFunc {X : Ctx} {Q : QP} {e : Env} {σ : aj} {H Hs Hc : List Res} {S α : Type} {g : Operand} {ps : Array Tmp} {assign body : Code} {f : Nat} {lb : List Value} {A : α -> aj -> List Value -> Prop}
    (J:List Code) (B:S->α->Option (Nat×S)) (G:S->aj->List Res->Prop) {s:S} {q:Nat×S} {PostC:aj->List Res->Prop}
    (hg:ev e g= .func (.func f) #[] lb.toArray) (hp:plainF X.P f=true) (hH:Hs++Hc=H) (hps:ps.toList.all (λp=>Nat.blt p X.n)=true)
    (hG: ∀{s σ σ' H},G s σ H->σ.le σ'->G s σ' H) (h0:G s σ Hs) (hA: ∀x σ vs,A x σ vs->vs.length=ps.size)
    (hit:ug_ X.P f lb A (stepY B) σ Hc (0,s) q PostC)
    (hbody: ∀(l:Nat) (w0:World) (C:List Nat) (τ σ':aj) (s:S) (x:α) (q:Nat×S) (vs:List Value) (Hs:List Res),B s x=some q->σ.le σ'->A x σ' vs->G s σ' Hs->
      TC ⟨X.P,w0,C,τ,X.n,some l,none⟩ (asgQ λe σ H=> ∀w0 C τ,TC ⟨X.P,w0,C,τ,X.n,some l,none⟩ (rndQ J λj σ H=>q.1=j/\G q.2 σ H) body e σ H) assign (yh_ e ps.toList vs) σ' Hs)
    (hdone: ∀σ' Hs' Hc',σ.le σ'->G q.2 σ' Hs'->PostC σ' Hc'->jmpQ X Q J q.1 e σ' (Hs'++Hc')) (hown:X.own=none:=by rfl):TC X Q (.rangeFunc g ps assign body) e σ H:=by
  subst hH;intro w a hw ha;have hps': ∀p∈ps.toList,p<X.n:=λp hp=>by
    have:=List.all_eq_true.1 hps p hp;simpa [Nat.blt_eq]using this
  refine wpIn_rangeFunc λfn _=> ?_;have key: ∀(l D:Nat) (w1:World) (a1:Act),a1.tmps=a.tmps->RM X a1 σ w1 (Res.lrec l (.loop (uY fn a.tmps ps assign body D .ready none))::(Hs++Hc))->
      CallsIn (fence X.rnd) 0 X.P f (#[.func (.yield l) #[] #[]]++lb.toArray) w1 (rangePost (fence X.rnd) 0 X.P l (low X Q) a1):=by
    intro l D w1 a1 ht hw1;have hcon:=hit l (rndZ l (uY fn a.tmps ps assign body D) J σ G hG) (Res.star (Res.lrec l (IZ (uY fn a.tmps ps assign body D) J 0)::Hs))
      (yOk_of ⟨ha.size,ha.get⟩ hps' hA (hbody l)) ⟨Hs,rfl,h0,aj.le.refl _,λh=>absurd rfl h⟩
    have hst:RM X a1 σ w1 (Res.star (Res.lrec l (IZ (uY fn a.tmps ps assign body D) J 0)::Hs)::Hc):=hw1.by λ_ k=>Reach.star (G:=Res.lrec l (IZ (uY fn a.tmps ps assign body D) J 0)::Hs) (F:=Hc) k;have hcall:=hcon w1 hst.self;have hargs:(Value.func (.yield l) #[] #[]::lb).toArray= #[.func (.yield l) #[] #[]]++lb.toArray:=by apply Array.ext';simp
    rw [hargs]at hcall;refine hm_.2 (hcall.mono ?_);rintro ex w2 ⟨v,σ2,H2,rfl,⟨r',Hc',rfl,⟨Hs',rfl,hg2,hle,hJ⟩,hpc⟩,hw2⟩;have hw3:RM X a1 σ2 w2 (Res.lrec l (IZ (uY fn a.tmps ps assign body D) J q.1)::(Hs'++Hc')):=(hst.step hw2 rfl).by λ_ k=>k.cc_;have hl:w2.heap[l]? =some (IZ (uY fn a.tmps ps assign body D) J q.1):=hw3.holds _ (iU ..);have hS1:St X.n e a1:=⟨by rw [ht];exact ha.size,λt=>by rw [ht];exact ha.get t⟩;have hw5: ∀o',RM X a1 σ2 (w2.putObj l o') (Hs'++Hc'):=λo'=>hw3.step ((hw3.self.cf_ (o':=o')).sub (List.sublist_cons_self ..)) rfl;have hfin:=hdone σ2 Hs' Hc' hle hg2 hpc;unfold IZ at hl;cases hq:q.1 with
    |zero=>
      rw [hq]at hl hfin;exact ⟨none,_,run_endLoop hl (by simp),e,σ2,_,hS1,hw5 _,hfin⟩
    |succ j=>
      rw [hq]at hl hfin hJ;obtain ⟨c,hc⟩:=hJ (by simp);simp only [Nat.add_sub_cancel,Nat.succ_ne_zero,if_false]at hl hc;rw [hc]at hl;exact ⟨some c,_,run_endLoop hl (by simp),hfin c hc _ a1 (hw5 _) hS1⟩
  have hnew: ∀k,k<w.heap.size\/True:=λ_=> .inr trivial;have hres: ∀l w1,(resolve a.eval (rangeCall g l) 0).run X.P w1= .ok {target:= .fn (.func f) lb.toArray,args:= #[.func (.yield l) #[] #[]]} w1:=λl w1=>by
    rw [ha.eval'];simp only [resolve,hg];simp [go_sem,Deferred.ofValue,ev]
  have hinv: ∀l w1,(invoke (.fn (.func f) lb.toArray) #[.func (.yield l) #[] #[]]).run X.P w1= .ok (.enter f (#[.func (.yield l) #[] #[]]++lb.toArray)) w1:=λl w1=>by
    simp [invoke,Rk hp]
  cases hr:X.rnd with
  |none=>
    refine ⟨w.heap.size+1,_,_,_,_,f,_,_,run_enterLoop_outer _ _ _ _ _,hres _ _,λ_ _=>trivial,hinv _ _,(λh=>by cases h),hr▸key (w.heap.size+1) w.heap.size _ _ rfl ?_⟩;have hsz:((w.alloc (.deferred (some []))).heap.size)=w.heap.size+1:=by simp
    have hold: ∀k,k<w.heap.size->((w.alloc (.deferred (some []))).alloc (.loop (uY fn a.tmps ps assign body w.heap.size .ready none))).heap[k]? =w.heap[k]? :=λk hk=>by
      rw [Ol _ _ _ (by omega),Ol _ _ _ hk]
    have hR:Reach w (fJ (Hs++Hc)) σ σ ((w.alloc (.deferred (some []))).alloc (.loop (uY fn a.tmps ps assign body w.heap.size .ready none))) (Res.lrec (w.heap.size+1) (.loop (uY fn a.tmps ps assign body w.heap.size .ready none))::(Hs++Hc)):=
      hw.self.gain rfl rfl rfl (by simp;omega) (Nat.le_refl _) hold (by
        have:=World.alloc_heap_new (w.alloc (.deferred (some []))) (.loop (uY fn a.tmps ps assign body w.heap.size .ready none));rw [hsz]at this;exact this) (λb hb=>by simp [Res.lrec]at hb;omega) (by simp [Res.lrec])
    have h1:=hw.step hR (a':=a) rfl;refine ⟨h1.toReach,⟨λ_=> ?_,(λ_ h=>by rw [hown]at h;cases h),λl hl=>by rw [hr]at hl;cases hl⟩⟩;obtain ⟨Ds,g1,g2,g3⟩:=h1.marks.ex hown;obtain ⟨Ds0,g10,g20,g30⟩:=hw.marks.ex hown;have hDs:Ds=Ds0:=by
      have:=g1.symm.trans g10;have h2: ∀(A B:List Nat),A.map (λD=>({target:= .collected D,args:= #[]}:Deferred))=B.map (λD=>({target:= .collected D,args:= #[]}:Deferred))->A=B:=λA=>by
        induction A with
        |nil=>intro B h;cases B with
          |nil=>rfl
          |cons b B=>simp at h
        |cons a A ih=>intro B h;cases B with
          |nil=>simp at h
          |cons b B=>simp only [List.map_cons,List.cons.injEq,Deferred.mk.injEq,Target.collected.injEq,and_true]at h;rw [h.1,ih B h.2]
      exact h2 _ _ this
    subst hDs;refine ⟨w.heap.size::Ds,by simp [g1],List.nodup_cons.2 ⟨λhx=> ?_,g2⟩,λD hD=> ?_⟩
    · have:=(Array.getElem?_eq_some_iff.1 (g30 _ hx).1).1;omega
    rcases List.mem_cons.1 hD with rfl|hD
    · refine ⟨?_,hw.size,λhx=> ?_,?_⟩
      · rw [Ol _ _ _ (by omega)];exact World.alloc_heap_new w _
      · simp only [fJ,List.flatMap_cons,Res.lrec,List.cons_append,List.nil_append,List.mem_cons]at hx
        rcases hx with hx|hx
        · omega
        obtain ⟨r,hr',hb⟩:=xk.1 hx;have:=hw.block_lt hr' hb;omega
      cases hs:σ w.heap.size with
      |none=>rfl
      |some o=>have:=(Array.getElem?_eq_some_iff.1 (hw.fit _ _ hs)).1;omega
    exact g3 D hD
  |some l0=>
    obtain ⟨hd0,⟨r0,h1⟩,h2,h3⟩:=hw.marks.rc l0 hr;refine ⟨w.heap.size,_,_,_,_,f,_,_,run_enterLoop_inner h1 _ _ _ _ _,hres _ _,λ_ _=>trivial,hinv _ _,(λh=>by cases h),hr▸key w.heap.size r0.defers _ a rfl ?_⟩;refine hw.step (hw.self.gain rfl rfl rfl (by simp) (Nat.le_refl _) (λk hk=>Ol _ _ _ hk) (World.alloc_heap_new w _) (λb hb=>by simp [Res.lrec]at hb;omega) (by simp [Res.lrec])) rfl
theorem TC.dv_{X:Ctx}{Q:QP}{e:Env}{σ:aj}{H Hs Hc:List Res}{S α:Type}{g:Operand}{ps:Array Tmp}{assign body:Code}{f:Nat}{lb:List Value}{A:α->aj->List Value->Prop}
    (J:List Code) (B:S->α->Option (Nat×S)) (G:S->aj->List Res->Prop) {s:S} {q:Nat×S} {PostC:aj->List Res->Prop}
    (hg:ev e g= .func (.func f) #[] lb.toArray) (hp:plainF X.P f=true) (hH:Hs++Hc=H) (hps:ps.toList.all (λp=>Nat.blt p X.n)=true)
    (hG: ∀{s σ σ' H},G s σ H->σ.le σ'->G s σ' H) (h0:G s σ Hs) (hA: ∀x σ vs,A x σ vs->vs.length=ps.size)
    (hit:ug_ X.P f lb A (stepY B) σ Hc (0,s) q PostC)
    (hbody: ∀(l:Nat) (w0:World) (C:List Nat) (τ σ':aj) (s:S) (x:α) (q:Nat×S) (vs:List Value) (Hs:List Res),B s x=some q->σ.le σ'->A x σ' vs->G s σ' Hs->
      TC ⟨X.P,w0,C,τ,X.n,some l,none⟩ (asgQ λe σ H=> ∀w0 C τ,TC ⟨X.P,w0,C,τ,X.n,some l,none⟩ (rndQ J λj σ H=>q.1=j/\ ∃F,Sub F H/\G q.2 σ F) body e σ H) assign (yh_ e ps.toList vs) σ' Hs)
    (hdone: ∀σ' Hs' Hc',σ.le σ'->G q.2 σ' Hs'->PostC σ' Hc'->jmpQ X Q J q.1 e σ' (Hs'++Hc')) (hown:X.own=none:=by rfl):TC X Q (.rangeFunc g ps assign body) e σ H:=by
  refine TC.rangeFunc J B G hg hp hH hps hG h0 hA hit (λl w0 C τ σ' s x q vs Hs h1 h2 h3 h4=>(hbody l w0 C τ σ' s x q vs Hs h1 h2 h3 h4).weak λex e σ H h=> ?_) hdone hown;cases ex with
  |normal=>
    refine λw0 C τ=>TC.RJ ((h w0 C τ).weak λex e σ H h=> ?_);cases ex with
    |normal=>obtain ⟨h1,F,hs,hg⟩:=h;exact ⟨F,hs,h1,hg⟩
    |ret=>obtain ⟨j,hj,h1,F,hs,hg⟩:=h;exact ⟨F,hs,j,hj,h1,hg⟩
    |exit i=>obtain ⟨j,hj,h1,F,hs,hg⟩:=h;exact ⟨F,hs,j,hj,h1,hg⟩
    |goto i=>obtain ⟨j,hj,h1,F,hs,hg⟩:=h;exact ⟨F,hs,j,hj,h1,hg⟩
    |panic c=>exact h.elim
    |outgrown=>exact h.elim
  |exit i=>exact h
  |goto i=>exact h
  |ret=>exact h
  |panic c=>exact h
  |outgrown=>exact h
theorem asg_n{K:Env->aj->List Res->Prop}{e:Env}{σ:aj}{H:List Res}(h:K e σ H):asgQ K .normal e σ H:=h
theorem rnd_n{J:List Code}{K:Nat->aj->List Res->Prop}{e:Env}{σ:aj}{H:List Res}(h:K 0 σ H):rndQ J K .normal e σ H:=h
theorem rnd_r{J:List Code}{K:Nat->aj->List Res->Prop}{e:Env}{σ:aj}{H:List Res}(j:Nat)(hj:J[j]? =some .ret)(h:K (j+1) σ H):rndQ J K .ret e σ H:=⟨j,hj,h⟩
def jsel{α:Type}:Nat->Option α->(Nat->Option α)->Option α
  |0,a,_=>a
  |n+1,_,b=>b n
theorem s0_{X:Ctx}{Q:QP}{J:List Code}{n:Nat}{e:Env}{σ:aj}{H:List Res}{α:Type}{a:Option α}{b:Nat->Option α}{r:α}(hh:jsel n a b=some r)
    (h0:a=some r->Q .normal e σ H) (h1: ∀m c,b m=some r->J[m]? =some c->TC X Q c e σ H):jmpQ X Q J n e σ H:=by
  cases n with
  |zero=>exact h0 hh
  |succ m=>exact λc hc=>h1 m c hh hc
theorem zt_{X:Ctx}{Q:QP}{J:List Code}{c0 c:Code}{m:Nat}{e:Env}{σ:aj}{H:List Res}{α:Type}{a:Option α}{b:Nat->Option α}{r:α}(hh:jsel m a b=some r)(hc:(c0::J)[m]? =some c)
    (h0:a=some r->TC X Q c0 e σ H) (h1: ∀m,b m=some r->J[m]? =some c->TC X Q c e σ H):TC X Q c e σ H:=by
  cases m with
  |zero=>simp at hc;subst hc;exact h0 hh
  |succ m=>exact h1 m hh (by simpa using hc)
theorem jl_nil{X:Ctx}{Q:QP}{c:Code}{m:Nat}{e:Env}{σ:aj}{H:List Res}(hc:([]:List Code)[m]? =some c):TC X Q c e σ H:=by simp at hc
end Go.E
end

noncomputable section
namespace Go.Proofs.YtcfgkcfcddfccaaGreatDoor
open Go Go.E Go.E.OpVal Go.E.OpOk Go.Proofs.Tryz
open List (replicate)
theorem aas_:aggOf Tryz.prog 131=some false:=by kernel_rfl
theorem wx_:aggOf Tryz.prog 33=some false:=by kernel_rfl
theorem by47:byOf Tryz.prog 47=some 32:=by kernel_rfl
theorem s3_:foOf Tryz.prog 35 0=some 0:=by kernel_rfl
theorem n1_:foOf Tryz.prog 35 1=some 1:=by kernel_rfl
theorem p9_:foOf Tryz.prog 35 2=some 2:=by kernel_rfl
theorem aak_:plainF Tryz.prog 124=true:=by kernel_rfl
theorem tu_:plainF Tryz.prog 125=true:=by kernel_rfl
theorem Lc:plainF Tryz.prog 126=true:=by kernel_rfl
theorem pf146:plainF Tryz.prog 146=true:=by kernel_rfl
theorem pf155:plainF Tryz.prog 155=true:=by kernel_rfl
theorem Qq:plainF Tryz.prog 50=true:=by kernel_rfl
theorem X_:plainF Tryz.prog 96=true:=by kernel_rfl
theorem Qj:szOf Tryz.prog 63=some 1:=by kernel_rfl
def Al_(x0:Nat):Option (Int):=
 iteO (decide (x0=0)) (some 64) (grd ((DT (UL (Lu x0 (AP (-(x0:Int)))) 285870213051353865) 58)<64) (some ((nth deB (DT (UL (Lu x0 (AP (-(x0:Int)))) 285870213051353865) 58) 0).toNat:Int)))
theorem Ht_{σ:aj}{x0:Nat}(hgl:xu σ 0 2){r:Int}(hh:Al_ x0=some r):
  Con prog 155 #[.int .u64 (x0:Int)] σ [] (jq (.int .i64 r) σ):=by
 dsimp only [Al_]at hh;refine cM 14 Tryz.func155 (λw0=> ?_);refine R8 ?_;refine ι z (eqlU z z z) (R1 ?_);refine π z hh (λgW hh=> ?_) (λgW hh=> ?_)
 ·refine R4 ?_;refine η ?_;obtain rfl:=so hh;exact rq [2] ⟨z,z,z⟩
 refine R5 ?_;refine ι z (negU z z) (ι z (andU z z z) (ι z (mulU (b:=285870213051353865) z z z) (ι z (shrU (b:=58) z z z) ?_)));obtain ⟨u11,hh⟩:=gd hh;refine ι z iA (ι z (loadG1 (0:UInt8) z ag5 z hgl.b (by simp only [deB,List.length_cons,List.length_nil];omega) st_ z) (ι z (dy_ z yw um z (by have:=UInt8.toNat_lt (nth deB (DT (UL (Lu x0 (AP (-(x0:Int)))) 285870213051353865) 58) 0);simp only [ED];omega)) (R2 ?_)));refine η ?_;obtain rfl:=so hh;exact rq [2] ⟨z,z,z⟩
def Pz(x0:BSet)(aI:Nat):Option ((Nat)⊕(UInt8×Bool)):=
 iteO (decide ((aI:Int)<4)) (grd (aI<4) (iteO (decide ((BSet.word x0 aI)≠0)) (bnd (Al_ (BSet.word x0 aI)) (λv16=>fin (some ((jd (IntKind.i64.wrap ((IntKind.i64.wrap (64 * (aI:Int)))+v16))),true)))) (nxt (aI+1)))) (fin (some ((0:UInt8),false)))
def JQ(x0:BSet):Option (UInt8×Bool):=
 iter (λq:Nat=>Pz x0 q) 0
theorem Ja_{σ:aj}{x0:BSet}(hgl:xu σ 0 2){r:UInt8×Bool}(hh:JQ x0=some r):
  Con prog 96 #[vk x0] σ [] (jq (.tuple #[.int .u8 (r.1.toNat:Int),.bool r.2]) σ):=by
 dsimp only [JQ]at hh;refine cM 20 Tryz.func96 (λw0=> ?_);refine R2 ?_;refine TL.bx (λaP=> ?_);refine R10 ?_;refine TC.lp hh () (rgs [(2,4),(7,13)]) (λaI _=>([(7,.int .i64 (aI:Int))],[])) (θ 0 z) ?_;rintro aI _ _ z1 hh hR1;dsimp only [Pz]at hh ⊢;refine R5 ?_;refine π z hh (λfM hh=> ?_) (λfM hh=> ?_)
 ·refine R6 ?_;obtain ⟨u8,hh⟩:=gd hh;refine ι z (cp_ z KE Bh JA z z (by omega)) (R6 ?_);refine ι z (neqU z z z) (R1 ?_);refine π z hh (λgq hh=> ?_) (λgq hh=> ?_)
  ·refine R5 ?_;obtain ⟨v16,u16,hh⟩:=bg hh;refine φ z (gI (Ht_ hgl u16) z z pf155 z z z ?_);refine ι z (addW z z z) (ι z (EN z um yw z) (R3 ?_));refine η ?_;replace hh:=bJ hR1 hh;obtain rfl:=so hh;exact rq [2,3] ⟨z,z,z⟩
  refine R5 ?_;exact nxq hR1 hh () (θ 0 z)
 refine R1 ?_;replace hh:=bJ hR1 hh;refine R6 ?_;refine η ?_;obtain rfl:=so hh;exact rq [2,3] ⟨z,z,z⟩
def D8_(x1:BSet)(Dv:BSet)(aJ:Nat):Option ((BSet×Nat)⊕(BSet)):=
 iteO (decide ((aJ:Int)<4)) (grd (aJ<4) (grd (aJ<4) (grd (aJ<4) (grd ((Qo (BSet.word Dv aJ) (BSet.word x1 aJ))<18446744073709551616) (nxt ((BSet.JL Dv aJ (Qo (BSet.word Dv aJ) (BSet.word x1 aJ))),(aJ+1))))))) (fin (some Dv))
def Xl(x0:BSet)(x1:BSet):Option (BSet):=
 iter (λq:BSet×Nat=>D8_ x1 q.1 q.2) (x0,0)
theorem Km_{σ:aj}{x0:BSet}{x1:BSet}{r:BSet}(hh:Xl x0 x1=some r):
  Con prog 126 #[vk x0,vk x1] σ [] (jq (vk r) σ):=by
 dsimp only [Xl]at hh;refine cM 19 Tryz.func126 (λw0=> ?_);refine R2 ?_;refine TL.bx (λaP=> ?_);refine TL.bx (λbK=> ?_);refine TL.al (λiq=> ?_);refine R7 ?_;refine TC.lp hh () (rgs [(5,13)]) (λ⟨Dv,aJ⟩ _=>([(6,.int .i64 (aJ:Int))],[ω aP (setA Dv) 47,ω bK (setA x1) 47,ω iq (setA BSet.zero) 47])) (ψ [1,2] 3) ?_;rintro ⟨Dv,aJ⟩ _ _ z1 hh hR1;dsimp only [D8_]at hh ⊢;refine R5 ?_;refine π z hh (λwB hh=> ?_) (λwB hh=> ?_)
 ·refine R8 ?_;obtain ⟨u9,hh⟩:=gd hh;obtain ⟨u12,hh⟩:=gd hh;obtain ⟨u15,hh⟩:=gd hh;obtain ⟨u16,hh⟩:=gd hh;refine TC.dw [8] (ν 0 z mI z (χ 1 z iA z (χ 2 z (br_ Dv z JA z (j:=0) z (by omega) z) z (ν 3 z mI z (χ 4 z iA z (χ 5 z (br_ x1 z JA z (j:=1) z (by omega) z) z (ν 6 z (orU z z z) z (χ 7 z iA z (TA.la 8 z z z (ca_ z Bh z z z (by omega) u16 ?_))))))))));refine R5 ?_;exact nxq hR1 hh () (ψ [2,2,2] 3)
 refine R1 ?_;replace hh:=bJ hR1 hh;refine R4 ?_;refine κ 2 (R2 ?_);refine Ψ 1 ?_;obtain rfl:=so hh;exact rz
def Fl_(aJ:Nat)(l115:T_1):Option ((T_1×Nat)⊕(T_1)):=
 nxt (l115,(aJ+1))
def De_(x0:List BSet)(x1:UInt8)(gQ:T_1)(aJ:Nat):Option ((T_1×Nat)⊕(T_1)):=
 iteO (decide ((aJ:Int)<(x0.length:Int))) (iteO ((nth x0 aJ BSet.zero).has x1.toNat) (grd (aJ<gQ.length) (Fl_ aJ (gQ.set aJ (1:UInt8)))) (Fl_ aJ gQ)) (fin (some gQ))
def Jx_(x0:List BSet)(x1:UInt8):Option (T_1):=
 grd (1 * x0.length<=281474976710656) (iter (λq:T_1×Nat=>De_ x0 x1 q.1 q.2) ((replicate x0.length (0:UInt8)),0))
theorem Mx_{σ:aj}{x0:List BSet}{x1:UInt8}(aC:RS σ 4 oQ (.slice aB x0.length aA) x0){r:T_1}(hh:Jx_ x0 x1=some r):
  Con prog 146 #[.slice aB x0.length aA,.int .u8 (x1.toNat:Int)] σ [] (jq (.string (bs r)) σ):=by
 dsimp only [Jx_]at hh;refine cM 27 Tryz.func146 (λw0=> ?_);refine R8 ?_;obtain ⟨u4,hh⟩:=gd hh;refine φ z (mk2 (enc:=jo) (0:UInt8) (λoh nN=> ?_));refine R10 ?_;refine TC.lk hh () (rgs [(6,2),(13,12)]) (λ⟨gQ,aJ⟩ _=>([(13,.int .i64 (aJ:Int))],[ε 5 1 jo (.slice oh (replicate x0.length (0:UInt8)).length nN) gQ])) (λ⟨gQ,_⟩ _=>gQ.length=(replicate x0.length (0:UInt8)).length) z (θ 1 z) ?_;rintro ⟨gQ,aJ⟩ _ _ z1 hh hR1 lq;dsimp only [De_]at hh lq ⊢;refine ζ 0 z (λN8=> ?_);refine R5 ?_;refine π z hh (λjI hh=> ?_) (λjI hh=> ?_)
 ·refine R1 ?_;refine TC.cutG (α:=(T_1)×(Unit)) (rgs [(6,2),(15,9)]) (λg=>[]) (λg=>[ε 5 1 jo (.slice oh (replicate x0.length (0:UInt8)).length nN) g.1]) (λg=>σ) (λg=>Fl_ aJ g.1=some z1/\g.1.length=(replicate x0.length (0:UInt8)).length) ?_ (λg j hg=> ?_)
  ·refine R6 ?_;refine TL.al (λyg=> ?_);refine R7 ?_;refine φ z (gI (np_ _ (nth x0 aJ BSet.zero) x1.toNat (BSet.isOk _) (UInt8.toNat_lt _)) z z tu_ z z z ?_);refine R1 ?_;refine TC.cB z hh (λh119 hh=> ?_) (λh119 hh=> ?_)
   ·refine R3 ?_;obtain ⟨u21,hh⟩:=gd hh;refine TL.iS 1 z (λVl=> ?_);refine ι z iN (κ 1 ?_);have MN:(gQ.set aJ (1:UInt8)).length=(replicate x0.length (0:UInt8)).length:=by rw [fV];exact lq
    refine φ z (sS (1:UInt8) ?_);refine R1 ?_;exact cf ((gQ.set aJ (1:UInt8)),()) ⟨hh,MN⟩ (θ 1 z)
   refine R1 ?_;exact cf (gQ,()) ⟨hh,lq⟩ (ψ [1] 1)
  obtain ⟨l115,_⟩:=g;obtain ⟨hh,wY⟩:=hg
  try dsimp only at wY ⊢
  dsimp only [Fl_]at hh;refine ζ 0 z (λNZ=> ?_);refine R4 ?_;exact nk hR1 hh () (θ 1 z) wY
 refine R1 ?_;replace hh:=bJ hR1 hh;refine R4 ?_;refine TL.iS 0 z (λLW=> ?_);refine ι z (bg_ (l:=gQ) z underlying84 yw kR z LW (λw hw=>rdb_row (q:=0) z hw)) (R2 ?_);refine Ψ 0 ?_;obtain rfl:=so hh;exact rq [4] ⟨z,z,z⟩
def Cu_(uI:Nat)(uy:FM T_1 Int)(fA:List BSet)(iy:Int):Option (((FM T_1 Int)×(List BSet)×Nat)⊕((List BSet)×Int)):=
 grd (0<=iy/\iy<(fA.length:Int)) (grd ([(jd (uI:Int))].length<=1000000000000) (bnd (Xl (nth fA iy.toNat BSet.zero) (BSet.ofL [(jd (uI:Int))])) (λv52=>grd (0<=iy/\iy<(fA.length:Int)) (nxt (uy,(fA.set iy.toNat v52),(uI+1))))))
def B7_(x0:List BSet)(xH:FM T_1 Int)(bH:List BSet)(uI:Nat):Option (((FM T_1 Int)×(List BSet)×Nat)⊕((List BSet)×Int)):=
 iteO (decide ((uI:Int)<256)) (bnd (Jx_ x0 (jd (uI:Int))) (λv18=>iteO (!(xH.has v18)) (grd ((bH.length+[BSet.zero].length) * 32<=140737488355328) (Cu_ uI (xH.put v18 (bH.length:Int)) (bH++[BSet.zero]) (bH.length:Int))) (Cu_ uI xH bH (xH.get v18 0)))) (fin (some (bH,0)))
def E9_(x0:List BSet):Option ((List BSet)×Int):=
 iteO (decide (1024<(x0.length:Int))) (some (([]:List BSet),2)) (iter (λq:(FM T_1 Int)×(List BSet)×Nat=>B7_ x0 q.1 q.2.1 q.2.2) ((FM.emp:FM T_1 Int),([]:List BSet),0))
def Ld_(σ:aj)(r:(List BSet)×Int):Value->aj->List Res->Prop:=λv σ' H'=>
 ∃a1 c1,v= .tuple #[.slice a1 r.1.length c1,.int .i64 r.2]/\RS σ' 4 oQ (.slice a1 r.1.length c1) r.1/\H'=[]
theorem Ks_{σ:aj}{x0:List BSet}(aC:RS σ 4 oQ (.slice aB x0.length aA) x0){r:(List BSet)×Int}(hh:E9_ x0=some r):
  Con prog 83 #[.slice aB x0.length aA] σ [] (Ld_ σ r):=by
 dsimp only [E9_]at hh;refine cM 52 Tryz.func83 (λw0=> ?_);refine R12 ?_;refine π z hh (λgW hh=> ?_) (λgW hh=> ?_)
 ·refine R5 ?_;refine η ?_;obtain rfl:=so hh;exact rq [2,3] ⟨none,0,z,(RS.nilF _ oQ Ei),z⟩
 refine R3 ?_;refine φ z (as_ (enc:=iQ) (encV:=gX) z z z (λOZ=> ?_));refine R12 ?_;refine TC.nilS 47 4 oQ (TC.lp hh (nO,oO) (rgs [(5,5),(14,37)]) (λ⟨xH,bH,uI⟩ ⟨a119,wF⟩=>([(5,.slice a119 bH.length wF),(14,.int .i64 (uI:Int))],[Γ iQ gX (some OZ) xH,ε 47 4 oQ (.slice a119 bH.length wF) bH])) (ψ [1] 2) ?_);rintro ⟨xH,bH,uI⟩ ⟨a119,wF⟩ _ z1 hh hR1;dsimp only [B7_]at hh ⊢;refine ζ 1 z (λhb123=> ?_);refine R5 ?_;refine π z hh (λwz hh=> ?_) (λwz hh=> ?_)
 ·refine R12 ?_;refine ι z (EN z um yw z) ?_;obtain ⟨v18,TV,hh⟩:=bg hh;refine φ z (gI (Mx_ aC TV) z z pf146 z z z ?_);refine R6 ?_;refine ι z (OpVal.of (Xh 0 (q:=v18) z AQ yF z (i:=0) z z (JH kR)) (v':= .tuple #[.int .i64 (xH.get v18 0),.bool (xH.has v18)]) z) (R6 ?_);refine TC.cutG (α:=((FM T_1 Int)×(List BSet)×Int)×((Option Addr)×Nat)) (rgs [(5,1),(8,1),(27,11)]) (λg=>[(5,.slice g.2.1 g.1.2.1.length g.2.2),(8,.int .i64 g.1.2.2)]) (λg=>[Γ iQ gX (some OZ) g.1.1,ε 47 4 oQ (.slice g.2.1 g.1.2.1.length g.2.2) g.1.2.1]) (λg=>σ) (λg=>Cu_ uI g.1.1 g.1.2.1 g.1.2.2=some z1) ?_ (λg j hg=> ?_)
  ·refine R5 ?_;refine TC.cB z hh (λtX hh=> ?_) (λtX hh=> ?_)
   ·refine R11 ?_;refine φ z (updB v18 (bH.length:Int) z AQ z z z z (JH kR) ?_);refine R3 ?_;refine ι z (a4_ z KE Bh PK z) (φ z (jc (enc:=oQ) [BSet.zero] (λa131 CJ=> ?_)));refine κ 2 ?_;obtain ⟨u40,hh⟩:=gd hh;refine φ z (apF (.inr ⟨_,0,z⟩) u40 (λyu yc=> ?_));refine R2 ?_;exact cf (((xH.put v18 (bH.length:Int)),(bH++[BSet.zero]),(bH.length:Int)),(yu,yc)) hh (ψ [2] 2)
   refine R1 ?_;exact cf ((xH,bH,(xH.get v18 0)),(a119,wF)) hh (ψ [1,1] 2)
  obtain ⟨⟨uy,fA,iy⟩,⟨a127,ql⟩⟩:=g;have hh:=hg;clear hg
  try dsimp only
  dsimp only [Cu_]at hh;refine ζ 1 z (λNW=> ?_);obtain ⟨u46,hh⟩:=gd hh;obtain ⟨u51,hh⟩:=gd hh;obtain ⟨v52,Qe,hh⟩:=bg hh;obtain ⟨u53,hh⟩:=gd hh;refine TC.dw [12] (ν 0 z mS z (ν 1 z mI z (ν 2 z mS z (ν 3 z mI z (TA.isSl (i:=1) z (λhs143 _ _=> ?_))))));refine χ 4 z iX z (χ 5 z oT z (ν 6 z mI z (ν 7 z (EN z um yw z) z (υ 8 z (jc (enc:=jo) [(jd (uI:Int))] (λa144 c145=>(k1 ?_)))))));refine υ 9 z (ZL (u0_ _ _ _ [(jd (uI:Int))] u51) z z Qq z z z z (k0 ?_));refine υ 10 z (gI (Km_ Qe) z z Lc z z z (k0 ?_));refine TA.isSl (i:=1) z (λhs147 _ _=> ?_);refine χ 11 z iX z (Ω 1 ?_);have y8:(fA.set iy.toNat v52).length=fA.length:=by rw [fV]
  refine TA.la 12 z z z (sS v52 ?_);refine R4 ?_;rw [<-y8];refine R1 ?_;exact nxq hR1 hh (a127,ql) (ψ [1] 2)
 refine R1 ?_;replace hh:=bJ hR1 hh;refine R7 ?_;refine TC.fr 1 (TC.jO Ei (λτ152 hle151 hr150=> ?_));refine Ψ 0 ?_;obtain rfl:=so hh;exact rq [2,3] ⟨a119,wF,z,hr150,z⟩
def Cy_(qJ:Nat)(vI:ah):Option ((ah×Nat)⊕((ah×Int×Nat)⊕(ah×Int))):=
 nxt (vI,(qJ+1))
def Gs(x0:List BSet)(bV:Nat)(v29:UInt8×Bool)(iw:ah)(qJ:Nat):Option ((ah×Nat)⊕((ah×Int×Nat)⊕(ah×Int))):=
 iteO (decide ((qJ:Int)<256)) (iteO (!((nth x0 bV BSet.zero).has (jd (qJ:Int)).toNat)) (Cy_ qJ iw) (grd (qJ<iw.length) (iteO (decide (0<=(nth iw qJ 0))) (fin (fin (some (([]:ah),1)))) (grd (qJ<iw.length) (Cy_ qJ (iw.set qJ (bV:Int))))))) (fin (nxt (iw,(v29.1.toNat:Int),(bV+1))))
def Gq(vK:ah)(sW:Nat):Option ((Nat)⊕(ah×Int)):=
 iteO (decide ((sW:Int)<((replicate 256 (0:Int)).length:Int))) (grd (sW<vK.length) (iteO (decide ((nth vK sW 0)<0)) (fin (some (([]:ah),1))) (nxt (sW+1)))) (fin (some (vK,0)))
def IL(x0:List BSet)(vK:ah)(iy:Int)(bV:Nat):Option ((ah×Int×Nat)⊕(ah×Int)):=
 iteO (decide ((bV:Int)<(x0.length:Int))) (bnd (JQ (nth x0 bV BSet.zero)) (λv29=>iteO (!v29.2) (fin (some (([]:ah),1))) (iteO (decide ((v29.1.toNat:Int)<=iy)) (fin (some (([]:ah),1))) (iter (λq:ah×Nat=>Gs x0 bV v29 q.1 q.2) (vK,0))))) (fin (iter (λq:Nat=>Gq vK q) 0))
def JR(x0:List BSet)(gQ:ah)(aJ:Nat):Option ((ah×Nat)⊕(ah×Int)):=
 iteO (decide ((aJ:Int)<((replicate 256 (0:Int)).length:Int))) (grd (aJ<gQ.length) (nxt ((gQ.set aJ (-1)),(aJ+1)))) (fin (iter (λq:ah×Int×Nat=>IL x0 q.1 q.2.1 q.2.2) (gQ,(-1),0)))
def Xo(x0:List BSet):Option (ah×Int):=
 iter (λq:ah×Nat=>JR x0 q.1 q.2) ((replicate 256 (0:Int)),0)
def Jz_(σ:aj)(r:ah×Int):Value->aj->List Res->Prop:=λv σ' H'=>
 ∃a1 c1,v= .tuple #[.slice a1 r.1.length c1,.int .i64 r.2]/\dH σ' ak a1 c1 r.1/\H'=[]
theorem Kv_{σ:aj}{x0:List BSet}(hgl:xu σ 0 2)(aC:RS σ 4 oQ (.slice aB x0.length aA) x0){r:ah×Int}(hh:Xo x0=some r):
  Con prog 85 #[.slice aB x0.length aA] σ [] (Jz_ σ r):=by
 dsimp only [Xo]at hh;have f0_0b:=aC.rv.big;refine cM 75 Tryz.func85 (λw0=> ?_);refine R7 ?_;refine φ z (CV (m:=256) (enc:=ak) (0:Int) z sU oq IG yF z z z z (by omega) (by decide) aT (by decide) z GL (λoh nN=> ?_));refine R10 ?_;refine TC.lk hh () (rgs [(5,1),(17,7)]) (λ⟨gQ,aJ⟩ _=>([(17,.int .i64 (aJ:Int))],[ε 3 1 ak (.slice oh (replicate 256 (0:Int)).length nN) gQ])) (λ⟨gQ,_⟩ _=>gQ.length=(replicate 256 (0:Int)).length) z (θ 1 z) ?_;rintro ⟨gQ,aJ⟩ _ _ z1 hh hR1 lq;dsimp only [JR]at hh lq ⊢;refine ζ 0 z (λN8=> ?_);refine R5 ?_;refine π z hh (λjI hh=> ?_) (λjI hh=> ?_)
 ·refine R11 ?_;obtain ⟨u13,hh⟩:=gd hh;refine TL.iS 0 z (λVm=> ?_);refine ι z iN ?_;have wY:(gQ.set aJ (-1)).length=(replicate 256 (0:Int)).length:=by rw [fV];exact lq
  refine φ z (sS (-1) ?_);refine R5 ?_;exact nk hR1 hh () (θ 1 z) wY
 refine R1 ?_;replace hh:=bJ hR1 hh;refine R13 ?_;refine TC.lk hh () (rgs [(2,2),(6,6),(26,39)]) (λ⟨vK,iy,bV⟩ _=>([(6,.int .i64 iy),(26,.int .i64 (bV:Int))],[ε 3 1 ak (.slice oh (replicate 256 (0:Int)).length nN) vK])) (λ⟨vK,_,_⟩ _=>vK.length=(replicate 256 (0:Int)).length) lq (θ 1 z) ?_;rintro ⟨vK,iy,bV⟩ _ _ z1 hh hR1 MK;dsimp only [IL]at hh MK ⊢;refine ζ 0 z (λIz=> ?_);refine R5 ?_;refine π z hh (λCe hh=> ?_) (λCe hh=> ?_)
 ·refine R8 ?_;refine TL.al (λb133=> ?_);refine R6 ?_;obtain ⟨v29,u29,hh⟩:=bg hh;refine φ z (gI (Ja_ hgl u29) z z X_ z z z ?_);refine R12 ?_;refine δ 38 z (λFU=> ?_) (λFU=> ?_)
  ·replace hh:=uZ FU hh;refine R12 ?_;refine Ψ 0 ?_;replace hh:=bJ hR1 hh;obtain rfl:=so hh;exact rq [2,3] ⟨none,0,z,(RS.nilF _ ak aT),z⟩
  replace hh:=u_ FU hh;refine TL.g z mI (TL.g z (dy_ z yw um z (by have:=UInt8.toNat_lt v29.1;simp only [ED];omega)) (R4 ?_));refine π z hh (λZC hh=> ?_) (λZC hh=> ?_)
  ·refine R5 ?_;refine Ψ 0 ?_;replace hh:=bJ hR1 hh;obtain rfl:=so hh;exact rq [2,3] ⟨none,0,z,(RS.nilF _ ak aT),z⟩
  refine R4 ?_;refine ι z (dy_ z yw um z (by have:=UInt8.toNat_lt v29.1;simp only [ED];omega)) (R7 ?_);refine TC.lk hh () (rgs [(2,2),(11,1),(46,18)]) (λ⟨iw,qJ⟩ _=>([(46,.int .i64 (qJ:Int))],[ε 3 1 ak (.slice oh (replicate 256 (0:Int)).length nN) iw,ω b133 (setA (nth x0 bV BSet.zero)) 47])) (λ⟨iw,_⟩ _=>iw.length=(replicate 256 (0:Int)).length) MK (ψ [1] 2) ?_;rintro ⟨iw,qJ⟩ _ _ z2 hh hR2 Ig;dsimp only [Gs]at hh Ig ⊢;refine ζ 0 z (λhb147=> ?_);refine R5 ?_;refine π z hh (λFQ hh=> ?_) (λFQ hh=> ?_)
  ·refine R1 ?_;refine TC.cutG (α:=(ah)×(Unit)) (rgs [(2,2),(11,1),(48,15)]) (λg=>[]) (λg=>[ε 3 1 ak (.slice oh (replicate 256 (0:Int)).length nN) g.1,ω b133 (setA (nth x0 bV BSet.zero)) 47]) (λg=>σ) (λg=>Cy_ qJ g.1=some z2/\g.1.length=(replicate 256 (0:Int)).length) ?_ (λg j hg=> ?_)
   ·refine R11 ?_;refine ι z (EN z um yw z) (φ z (gI (np_ _ (nth x0 bV BSet.zero) (jd (qJ:Int)).toNat (BSet.isOk _) (UInt8.toNat_lt _)) z z tu_ z z z ?_));refine R2 ?_;refine TC.cB z hh (λh151 hh=> ?_) (λh151 hh=> ?_)
    ·refine R2 ?_;exact cf (iw,()) ⟨hh,Ig⟩ (ψ [1,1] 2)
    refine R6 ?_;obtain ⟨u59,hh⟩:=gd hh;refine TL.iS 0 z (λhs152=> ?_);refine R4 ?_;refine π z hh (λh153 hh=> ?_) (λh153 hh=> ?_)
    ·refine R5 ?_;refine Ψ 0 ?_;replace hh:=bJ hR2 hh;replace hh:=bJ hR1 hh;obtain rfl:=so hh;exact rq [2,3] ⟨none,0,z,(RS.nilF _ ak aT),z⟩
    refine R5 ?_;obtain ⟨u67,hh⟩:=gd hh;refine TL.iS 0 z (λhs154=> ?_);refine ι z iN ?_;have MI:(iw.set qJ (bV:Int)).length=(replicate 256 (0:Int)).length:=by rw [fV];exact Ig
    refine φ z (sS (bV:Int) ?_);refine R1 ?_;exact cf ((iw.set qJ (bV:Int)),()) ⟨hh,MI⟩ (ψ [1,1] 2)
   obtain ⟨vI,_⟩:=g;obtain ⟨hh,Ie⟩:=hg
   try dsimp only at Ie ⊢
   dsimp only [Cy_]at hh;refine ζ 0 z (λNT=> ?_);refine R4 ?_;exact nk hR2 hh () (ψ [1,1] 2) Ie
  refine R1 ?_;replace hh:=bJ hR2 hh;refine R5 ?_;exact nk hR1 hh () (θ 1 z) Ig
 refine R1 ?_;replace hh:=bJ hR1 hh;refine R9 ?_;refine TC.lk hh () (rgs [(2,2),(13,1),(67,7)]) (λsW _=>([(67,.int .i64 (sW:Int))],[ε 3 1 ak (.slice oh (replicate 256 (0:Int)).length nN) vK])) (λ_ _=>vK.length=(replicate 256 (0:Int)).length) MK (θ 1 z) ?_;rintro sW _ _ z1 hh hR1 sD;dsimp only [Gq]at hh sD ⊢;refine ζ 0 z (λWW=> ?_);refine R5 ?_;refine π z hh (λZy hh=> ?_) (λZy hh=> ?_)
 ·refine R5 ?_;obtain ⟨u77,hh⟩:=gd hh;refine TL.iS 0 z (λhs168=> ?_);refine R9 ?_;refine π z hh (λh169 hh=> ?_) (λh169 hh=> ?_)
  ·refine R5 ?_;refine Ψ 0 ?_;replace hh:=bJ hR1 hh;obtain rfl:=so hh;exact rq [2,3] ⟨none,0,z,(RS.nilF _ ak aT),z⟩
  refine R5 ?_;exact nk hR1 hh () (θ 1 z) sD
 refine R1 ?_;replace hh:=bJ hR1 hh;refine R7 ?_;rw [<-sD];refine TC.jO aT (λτ173 MZ D5=> ?_);have hr171b:=D5.rv.big;refine η ?_;obtain rfl:=so hh;exact rq [2,3] ⟨oh,nN,z,D5,z⟩
def D3_(x0:ah)(cZ:Nat)(aK:List BSet):Option (((List BSet)×Nat)⊕((List BSet)×Int)):=
 grd (0<=(nth x0 cZ 0)/\(nth x0 cZ 0)<(aK.length:Int)) (grd ([(jd (cZ:Int))].length<=1000000000000) (bnd (Xl (nth aK ((nth x0 cZ 0).toNat) BSet.zero) (BSet.ofL [(jd (cZ:Int))])) (λv47=>grd (0<=(nth x0 cZ 0)/\(nth x0 cZ 0)<(aK.length:Int)) (nxt ((aK.set ((nth x0 cZ 0).toNat) v47),(cZ+1))))))
def Xp(x0:ah)(gK:List BSet)(cZ:Nat):Option (((List BSet)×Nat)⊕((List BSet)×Int)):=
 iteO (decide ((cZ:Int)<(x0.length:Int))) (iteO (decide ((nth x0 cZ 0)<0)) (fin (some (([]:List BSet),1))) (iteO (decide ((gK.length:Int)<(nth x0 cZ 0))) (fin (some (([]:List BSet),1))) (iteO (decide ((nth x0 cZ 0)=(gK.length:Int))) (grd ((gK.length+[BSet.zero].length) * 32<=140737488355328) (D3_ x0 cZ (gK++[BSet.zero]))) (D3_ x0 cZ gK)))) (fin (some (gK,0)))
def Tc(x0:ah):Option ((List BSet)×Int):=
 iteO (decide ((x0.length:Int)≠256)) (some (([]:List BSet),1)) (iter (λq:(List BSet)×Nat=>Xp x0 q.1 q.2) (([]:List BSet),0))
theorem I0_{σ:aj}{x0:ah}(aC:dH σ ak aB aA x0){r:(List BSet)×Int}(hh:Tc x0=some r):
  Con prog 124 #[.slice aB x0.length aA] σ [] (Ld_ σ r):=by
 dsimp only [Tc]at hh;refine cM 47 Tryz.func124 (λw0=> ?_);refine R12 ?_;refine π z hh (λgW hh=> ?_) (λgW hh=> ?_)
 ·refine R5 ?_;refine η ?_;obtain rfl:=so hh;exact rq [2,3] ⟨none,0,z,(RS.nilF _ oQ Ei),z⟩
 refine R13 ?_;refine TC.nilS 47 4 oQ (TC.lp hh (nO,oO) (rgs [(2,5),(12,34)]) (λ⟨gK,cZ⟩ ⟨mM,mJ⟩=>([(4,.slice mM gK.length mJ),(12,.int .i64 (cZ:Int))],[ε 47 4 oQ (.slice mM gK.length mJ) gK])) (θ 1 z) ?_);rintro ⟨gK,cZ⟩ ⟨mM,mJ⟩ _ z1 hh hR1;dsimp only [Xp]at hh ⊢;refine ζ 0 z (λhb118=> ?_);refine R5 ?_;refine π z hh (λh119 hh=> ?_) (λh119 hh=> ?_)
 ·refine R17 ?_;refine δ 19 z (λqX=> ?_) (λqX=> ?_)
  ·obtain ⟨qX,hh⟩:=iT qX hh;refine R12 ?_;refine Ψ 0 ?_;replace hh:=bJ hR1 hh;obtain rfl:=so hh;exact rq [2,3] ⟨none,0,z,(RS.nilF _ oQ Ei),z⟩
  obtain ⟨qX,hh⟩:=iF qX hh;refine R6 ?_;refine π z hh (λtY hh=> ?_) (λtY hh=> ?_)
  ·refine R5 ?_;refine Ψ 0 ?_;replace hh:=bJ hR1 hh;obtain rfl:=so hh;exact rq [2,3] ⟨none,0,z,(RS.nilF _ oQ Ei),z⟩
  refine R1 ?_;refine TC.cutG (α:=((List BSet))×((Option Addr)×Nat)) (rgs [(4,1),(25,8)]) (λg=>[(4,.slice g.2.1 g.1.length g.2.2)]) (λg=>[ε 47 4 oQ (.slice g.2.1 g.1.length g.2.2) g.1]) (λg=>σ) (λg=>D3_ x0 cZ g.1=some z1) ?_ (λg j hg=> ?_)
  ·refine R7 ?_;refine π z hh (λh125 hh=> ?_) (λh125 hh=> ?_)
   ·refine R2 ?_;refine ι z (a4_ z KE Bh PK z) (φ z (jc (enc:=oQ) [BSet.zero] (λwJ c127=> ?_)));refine κ 1 ?_;obtain ⟨u35,hh⟩:=gd hh;refine φ z (apF (.inr ⟨_,0,z⟩) u35 (λa129 c130=> ?_));refine R2 ?_;exact cf ((gK++[BSet.zero]),(a129,c130)) hh (θ 1 z)
   refine R1 ?_;exact cf (gK,(mM,mJ)) hh (θ 1 z)
  obtain ⟨aK,⟨a123,c124⟩⟩:=g;have hh:=hg;clear hg
  try dsimp only
  dsimp only [D3_]at hh;refine ζ 0 z (λIz=> ?_);obtain ⟨PW,hh⟩:=gd hh;obtain ⟨u46,hh⟩:=gd hh;obtain ⟨v47,PU,hh⟩:=bg hh;obtain ⟨u48,hh⟩:=gd hh;refine TC.dw [12] (ν 0 z mS z (ν 1 z mI z (ν 2 z mS z (ν 3 z mI z (TA.isSl (i:=0) z (λhs138 _ _=> ?_))))));refine χ 4 z iX z (χ 5 z oT z (ν 6 z mI z (ν 7 z (EN z um yw z) z (υ 8 z (jc (enc:=jo) [(jd (cZ:Int))] (λa139 uS=>(k1 ?_)))))));refine υ 9 z (ZL (u0_ _ _ _ [(jd (cZ:Int))] u46) z z Qq z z z z (k0 ?_));refine υ 10 z (gI (Km_ PU) z z Lc z z z (k0 ?_));refine TA.isSl (i:=0) z (λhs142 _ _=> ?_);refine χ 11 z iX z ?_;have qK:(aK.set ((nth x0 cZ 0).toNat) v47).length=aK.length:=by rw [fV]
  refine TA.la 12 z z z (sS v47 ?_);refine R4 ?_;rw [<-qK];refine R1 ?_;exact nxq hR1 hh (a123,c124) (θ 1 z)
 refine R1 ?_;replace hh:=bJ hR1 hh;refine R7 ?_;refine TC.jO Ei (λτ147 Zf hr145=> ?_);refine η ?_;obtain rfl:=so hh;exact rq [2,3] ⟨mM,mJ,z,hr145,z⟩
def D4_(x0:Dfa)(jw:Nat)(cZ:Nat):Option ((Nat)⊕((Nat)⊕(Int))):=
 iteO (decide ((cZ:Int)<((nth x0.next jw []).length:Int))) (iteO (decide ((nth (nth x0.next jw []) cZ 0)<0)) (fin (fin (some 1))) (iteO (decide ((x0.next.length:Int)<=(nth (nth x0.next jw []) cZ 0))) (fin (fin (some 1))) (nxt (cZ+1)))) (fin (nxt (jw+1)))
def Du_(x0:Dfa)(v5:(List BSet)×Int)(jw:Nat):Option ((Nat)⊕(Int)):=
 iteO (decide ((jw:Int)<(x0.next.length:Int))) (iteO (decide (((nth x0.next jw []).length:Int)≠(v5.1.length:Int))) (fin (some 1)) (iter (λq:Nat=>D4_ x0 jw q) 0)) (fin (some 0))
def S_(x0:Dfa):Option (Int):=
 bnd (Tc x0.cls) (λv5=>iteO (decide (v5.2≠0)) (some 1) (iteO (decide ((x0.next.length:Int)<1)) (some 1) (iteO (decide (1024<(x0.next.length:Int))) (some 1) (iteO (decide ((x0.fin.length:Int)≠(x0.next.length:Int))) (some 1) (iter (λq:Nat=>Du_ x0 v5 q) 0)))))
theorem Ef_{σ:aj}{x0:Dfa}(aC:dH σ ak aB aA x0.cls)(aV:RZ σ (aF 1 ak aT) (.slice ay x0.next.length aH) x0.next)(aS:dH σ dG aG au x0.fin){r:Int}(hh:S_ x0=some r):
  Con prog 59 #[.agg #[.slice aB x0.cls.length aA,.slice ay x0.next.length aH,.slice aG x0.fin.length au]] σ [] (jq (.int .i64 r) σ):=by
 dsimp only [S_]at hh;refine cM 63 Tryz.func59 (λw0=> ?_);refine R2 ?_;refine TL.bx (λaP=> ?_);refine R6 ?_;obtain ⟨v5,u5,hh⟩:=bg hh;refine φ z (OpOk.call (I0_ aC u5) z z aak_ z z z z ?_);rintro _ τ103 _ Nh ⟨a103_1,c103_1,rfl,hr103_0,rfl⟩;replace aV:=aV.mono Nh;refine R19 ?_;refine δ 21 z (λgV=> ?_) (λgV=> ?_)
 ·obtain ⟨gV,hh⟩:=iT gV hh;refine R20 ?_;refine Θ (θ 0 z) (TC.back (η ?_));obtain rfl:=so hh;exact rq [2] ⟨z,z,z⟩
 obtain ⟨gV,hh⟩:=iF gV hh;refine R4 ?_;refine δ 25 z (λdL=> ?_) (λdL=> ?_)
 ·obtain ⟨dL,hh⟩:=iT dL hh;refine R16 ?_;refine Θ (θ 0 z) (TC.back (η ?_));obtain rfl:=so hh;exact rq [2] ⟨z,z,z⟩
 obtain ⟨dL,hh⟩:=iF dL hh;refine R4 ?_;refine δ 29 z (λfM=> ?_) (λfM=> ?_)
 ·obtain ⟨fM,hh⟩:=iT fM hh;refine R12 ?_;refine Θ (θ 0 z) (TC.back (η ?_));obtain rfl:=so hh;exact rq [2] ⟨z,z,z⟩
 obtain ⟨fM,hh⟩:=iF fM hh;refine R7 ?_;refine π z hh (λgq hh=> ?_) (λgq hh=> ?_)
 ·refine R4 ?_;refine Θ (θ 0 z) (TC.back (η ?_));obtain rfl:=so hh;exact rq [2] ⟨z,z,z⟩
 refine R10 ?_;refine TC.lp hh () (rgs [(2,1),(7,1),(9,1),(39,24)]) (λjw _=>([(39,.int .i64 (jw:Int))],[])) (θ 0 z) ?_;rintro jw _ _ z1 hh hR1;dsimp only [Du_]at hh ⊢;refine R5 ?_;refine π z hh (λgZ hh=> ?_) (λgZ hh=> ?_)
 ·refine R6 ?_;obtain ⟨QS,Nw,hg112⟩:=RZ.seg aV jw (by omega);replace Nw:dH _ ak QS.1 QS.2 (nth x0.next jw []):=Nw;have hk112b:=Nw.rv.big;refine ι z (OpVal.of (qw z pV z hg112 z) (v':= .slice QS.1 ((nth x0.next jw []).length) QS.2) z) (R11 ?_);refine π z hh (λwB hh=> ?_) (λwB hh=> ?_)
  ·refine R4 ?_;refine TC.back (η ?_);replace hh:=bJ hR1 hh;obtain rfl:=so hh;exact rq [2] ⟨z,z,z⟩
  refine R8 ?_;refine TC.lp hh () (rgs [(2,1),(9,1),(50,12)]) (λcZ _=>([(50,.int .i64 (cZ:Int))],[])) (θ 0 z) ?_;rintro cZ _ _ z2 hh hR2;dsimp only [D4_]at hh ⊢;refine R5 ?_;refine π z hh (λtZ hh=> ?_) (λtZ hh=> ?_)
  ·refine R14 ?_;refine δ 56 z (λqY=> ?_) (λqY=> ?_)
   ·obtain ⟨qY,hh⟩:=iT qY hh;refine R10 ?_;refine TC.back (η ?_);replace hh:=bJ hR2 hh;replace hh:=bJ hR1 hh;obtain rfl:=so hh;exact rq [2] ⟨z,z,z⟩
   obtain ⟨qY,hh⟩:=iF qY hh;refine R5 ?_;refine π z hh (λh119 hh=> ?_) (λh119 hh=> ?_)
   ·refine R4 ?_;refine TC.back (η ?_);replace hh:=bJ hR2 hh;replace hh:=bJ hR1 hh;obtain rfl:=so hh;exact rq [2] ⟨z,z,z⟩
   refine R5 ?_;exact nxq hR2 hh () (θ 0 z)
  refine R1 ?_;replace hh:=bJ hR2 hh;refine R5 ?_;exact nxq hR1 hh () (θ 0 z)
 refine R1 ?_;replace hh:=bJ hR1 hh;refine R5 ?_;refine TC.back (η ?_);obtain rfl:=so hh;exact rq [2] ⟨z,z,z⟩
def Ed_(fQ:Nat)(m124:FM BSet Int)(dW:List BSet):Option (((FM BSet Int)×(List BSet)×Nat)⊕((List BSet))):=
 nxt (m124,dW,(fQ+1))
def B6_(x0:List Arrow)(vg:FM BSet Int)(dF:List BSet)(fQ:Nat):Option (((FM BSet Int)×(List BSet)×Nat)⊕((List BSet))):=
 iteO (decide ((fQ:Int)<(x0.length:Int))) (iteO (!(vg.has ((nth x0 fQ Arrow.zero).set))) (grd ((dF.length+[(nth x0 fQ Arrow.zero).set].length) * 32<=140737488355328) (Ed_ fQ (vg.put ((nth x0 fQ Arrow.zero).set) (dF.length:Int)) (dF++[(nth x0 fQ Arrow.zero).set]))) (Ed_ fQ vg dF)) (fin (some dF))
def G8_(x0:List Arrow):Option ((List BSet)):=
 iter (λq:(FM BSet Int)×(List BSet)×Nat=>B6_ x0 q.1 q.2.1 q.2.2) ((FM.emp:FM BSet Int),([]:List BSet),0)
def Mv_(σ:aj)(r:(List BSet)):Value->aj->List Res->Prop:=λv σ' H'=>
 ∃a1 c1,v= .slice a1 r.length c1/\RS σ' 4 oQ (.slice a1 r.length c1) r/\H'=[]
theorem L8_{σ:aj}{x0:List Arrow}(aC:RS σ 6 Bj (.slice aB x0.length aA) x0){r:(List BSet)}(hh:G8_ x0=some r):
  Con prog 84 #[.slice aB x0.length aA] σ [] (Mv_ σ r):=by
 dsimp only [G8_]at hh;have f0_0b:=aC.rv.big;refine cM 37 Tryz.func84 (λw0=> ?_);refine R6 ?_;refine φ z (as_ (enc:=vk) (encV:=gX) z z z (λaP=> ?_));refine R14 ?_;refine TC.nilS 47 4 oQ (TC.lp hh (nO,oO) (rgs [(4,1),(6,3),(12,24)]) (λ⟨vg,dF,fQ⟩ ⟨lX,c119⟩=>([(4,.slice lX dF.length c119),(12,.int .i64 (fQ:Int))],[Γ vk gX (some aP) vg,ε 47 4 oQ (.slice lX dF.length c119) dF])) (ψ [1] 2) ?_);rintro ⟨vg,dF,fQ⟩ ⟨lX,c119⟩ _ z1 hh hR1;dsimp only [B6_]at hh ⊢;refine ζ 1 z (λNZ=> ?_);refine R5 ?_;refine π z hh (λOj hh=> ?_) (λOj hh=> ?_)
 ·refine R1 ?_;refine TC.cutG (α:=((FM BSet Int)×(List BSet))×((Option Addr)×Nat)) (rgs [(4,1),(6,3),(14,21)]) (λg=>[(4,.slice g.2.1 g.1.2.length g.2.2)]) (λg=>[Γ vk gX (some aP) g.1.1,ε 47 4 oQ (.slice g.2.1 g.1.2.length g.2.2) g.1.2]) (λg=>σ) (λg=>Ed_ fQ g.1.1 g.1.2=some z1) ?_ (λg j hg=> ?_)
  ·refine R5 ?_;refine TL.al (λR_=> ?_);refine R7 ?_;refine ι z (OpVal.of (Xh 0 (q:=(nth x0 fQ Arrow.zero).set) z underlying208 yF z (i:=1) z z (ul_ KE underlying45 JA Bh)) (v':= .tuple #[.int .i64 (vg.get ((nth x0 fQ Arrow.zero).set) 0),.bool (vg.has ((nth x0 fQ Arrow.zero).set))]) z) (R11 ?_);refine TC.cB z hh (λtX hh=> ?_) (λtX hh=> ?_)
   ·refine R7 ?_;refine κ 1 (φ z (updB ((nth x0 fQ Arrow.zero).set) (dF.length:Int) z underlying208 z z z z (ul_ KE underlying45 JA Bh) ?_));refine R5 ?_;refine φ z (jc (enc:=oQ) [(nth x0 fQ Arrow.zero).set] (λa131 CJ=> ?_));refine κ 3 ?_;obtain ⟨u34,hh⟩:=gd hh;refine φ z (apF (.inr ⟨_,0,z⟩) u34 (λyu yc=> ?_));refine R2 ?_;exact cf (((vg.put ((nth x0 fQ Arrow.zero).set) (dF.length:Int)),(dF++[(nth x0 fQ Arrow.zero).set])),(yu,yc)) hh (ψ [2] 2)
   refine R1 ?_;exact cf ((vg,dF),(lX,c119)) hh (ψ [2,2] 2)
  obtain ⟨⟨m124,dW⟩,⟨wJ,c127⟩⟩:=g;have hh:=hg;clear hg
  try dsimp only
  dsimp only [Ed_]at hh;refine ζ 1 z (λNW=> ?_);refine R4 ?_;exact nxq hR1 hh (wJ,c127) (ψ [1,1] 2)
 refine R1 ?_;replace hh:=bJ hR1 hh;refine R6 ?_;refine TC.fr 1 (TC.jO Ei (λτ140 vZ VD=> ?_));have hr138b:=VD.rv.big;refine Ψ 0 ?_;obtain rfl:=so hh;exact rq [2] ⟨lX,c119,z,VD,z⟩
def Eg_(iO:Nat)(l136:ah):Option ((ah×Nat)⊕((ah×Nat)⊕(ah))):=
 nxt (l136,(iO+1))
def B9_(x0:List (List Arrow))(x1:ah)(iD:Nat)(v4:UInt8×Bool)(dR:ah)(iO:Nat):Option ((ah×Nat)⊕((ah×Nat)⊕(ah))):=
 iteO (decide ((iO:Int)<((nth x0 ((nth x1 iD 0).toNat) []).length:Int))) (iteO (((nth (nth x0 ((nth x1 iD 0).toNat) []) iO Arrow.zero).set).has v4.1.toNat) (grd ((dR.length+[(nth (nth x0 ((nth x1 iD 0).toNat) []) iO Arrow.zero).to].length) * 8<=140737488355328) (Eg_ iO (dR++[(nth (nth x0 ((nth x1 iD 0).toNat) []) iO Arrow.zero).to]))) (Eg_ iO dR)) (fin (nxt (dR,(iD+1))))
def Cb_(x1:ah)(x0:List (List Arrow))(v4:UInt8×Bool)(eU:ah)(iD:Nat):Option ((ah×Nat)⊕(ah)):=
 iteO (decide ((iD:Int)<(x1.length:Int))) (grd (0<=(nth x1 iD 0)/\(nth x1 iD 0)<(x0.length:Int)) (iter (λq:ah×Nat=>B9_ x0 x1 iD v4 q.1 q.2) (eU,0))) (fin (some eU))
def G1_(x0:List (List Arrow))(x1:ah)(x2:BSet):Option (ah):=
 bnd (JQ x2) (λv4=>iter (λq:ah×Nat=>Cb_ x1 x0 v4 q.1 q.2) (([]:ah),0))
theorem Mf_{σ:aj}{x0:List (List Arrow)}{x1:ah}{x2:BSet}(hgl:xu σ 0 2)(aC:RZ σ (aF 6 Bj lg_) (.slice aB x0.length aA) x0)(bn:dH σ ak bY bW x1){r:ah}(hh:G1_ x0 x1 x2=some r):
  Con prog 91 #[.slice aB x0.length aA,.slice bY x1.length bW,vk x2] σ [] (gw_ σ r):=by
 dsimp only [G1_]at hh;have f1_0b:=bn.rv.big;refine cM 46 Tryz.func91 (λw0=> ?_);refine R2 ?_;refine TL.bx (λaP=> ?_);refine R5 ?_;obtain ⟨v4,u4,hh⟩:=bg hh;refine φ z (gI (Ja_ hgl u4) z z X_ z z z ?_);refine R18 ?_;refine TC.nilS 3 1 ak (TC.lp hh (nO,oO) (rgs [(9,1),(11,1),(13,1),(21,24)]) (λ⟨eU,iD⟩ ⟨pK,c116⟩=>([(9,.slice pK eU.length c116),(21,.int .i64 (iD:Int))],[dO 3 ak pK c116 eU])) (θ 1 z) ?_);rintro ⟨eU,iD⟩ ⟨pK,c116⟩ _ z1 hh hR1;dsimp only [Cb_]at hh ⊢;refine ζ 0 z (λhb119=> ?_);refine R5 ?_;refine π z hh (λqX hh=> ?_) (λqX hh=> ?_)
 ·refine R13 ?_;obtain ⟨u20,hh⟩:=gd hh;refine ι z iX ?_;obtain ⟨QM,Ns,hg121⟩:=RZ.seg aC ((nth x1 iD 0).toNat) (by omega);replace Ns:RS _ 6 Bj (.slice QM.1 (nth x0 ((nth x1 iD 0).toNat) []).length QM.2) (nth x0 ((nth x1 iD 0).toNat) []):=Ns;have hk121b:=Ns.rv.big;refine ι z (OpVal.of (qw z Jl z hg121 z) (v':= .slice QM.1 ((nth x0 ((nth x1 iD 0).toNat) []).length) QM.2) z) (R4 ?_);refine TC.lp hh (pK,c116) (rgs [(9,1),(13,1),(30,14)]) (λ⟨dR,iO⟩ ⟨a131,CJ⟩=>([(9,.slice a131 dR.length CJ),(30,.int .i64 (iO:Int))],[dO 3 ak a131 CJ dR])) (θ 1 z) ?_;rintro ⟨dR,iO⟩ ⟨a131,CJ⟩ _ z2 hh hR2;dsimp only [B9_]at hh ⊢;refine ζ 0 z (λIy=> ?_);refine R5 ?_;refine π z hh (λFU hh=> ?_) (λFU hh=> ?_)
  ·refine R1 ?_;refine TC.cutG (α:=(ah)×((Option Addr)×Nat)) (rgs [(9,1),(13,1),(32,11)]) (λg=>[(9,.slice g.2.1 g.1.length g.2.2)]) (λg=>[ε 3 1 ak (.slice g.2.1 g.1.length g.2.2) g.1]) (λg=>σ) (λg=>Eg_ iO g.1=some z2) ?_ (λg j hg=> ?_)
   ·refine R5 ?_;refine TL.al (λb139=> ?_);refine R7 ?_;refine φ z (gI (np_ _ ((nth (nth x0 ((nth x1 iD 0).toNat) []) iO Arrow.zero).set) v4.1.toNat (BSet.isOk _) (UInt8.toNat_lt _)) z z tu_ z z z ?_);refine R1 ?_;refine TC.cB z hh (λh141 hh=> ?_) (λh141 hh=> ?_)
    ·refine R4 ?_;refine φ z (jc (enc:=ak) [(nth (nth x0 ((nth x1 iD 0).toNat) []) iO Arrow.zero).to] (λSV c143=> ?_));refine κ 2 ?_;obtain ⟨u37,hh⟩:=gd hh;refine φ z (apF (.inr ⟨_,0,z⟩) u37 (λa145 c146=> ?_));refine R2 ?_;exact cf ((dR++[(nth (nth x0 ((nth x1 iD 0).toNat) []) iO Arrow.zero).to]),(a145,c146)) hh (θ 1 z)
    refine R1 ?_;exact cf (dR,(a131,CJ)) hh (ψ [1] 1)
   obtain ⟨l136,⟨a137,c138⟩⟩:=g;have hh:=hg;clear hg
   try dsimp only
   dsimp only [Eg_]at hh;refine ζ 0 z (λhb147=> ?_);refine R4 ?_;exact nxq hR2 hh (a137,c138) (θ 1 z)
  refine R1 ?_;replace hh:=bJ hR2 hh;refine R5 ?_;exact nxq hR1 hh (a131,CJ) (θ 1 z)
 refine R1 ?_;replace hh:=bJ hR1 hh;refine R6 ?_;refine η ?_;obtain rfl:=so hh;exact rz
def P7{Sy:Type}(x1:List BSet)(Y:Sy->Int×BSet->Option (Sy×Bool))(I5:Nat)(X8:Sy):Option ((Nat×Sy)⊕(Sy)):=
 iteO (decide ((I5:Int)<(x1.length:Int))) (bnd (Y X8 ((I5:Int),(nth x1 I5 BSet.zero))) (λv14=>iteO (!v14.2) (fin (some v14.1)) (nxt ((I5+1),v14.1)))) (fin (some X8))
def B8_{Sy:Type}(Y:Sy->Int×BSet->Option (Sy×Bool))(s0:Sy)(x1:List BSet):Option (Sy):=
 iter (λq:Nat×Sy=>P7 x1 Y q.1 q.2) (0,s0)
theorem Lp_{Sy:Type}{σ:aj}{Y:Sy->Int×BSet->Option (Sy×Bool)}{s0:Sy}{x1:List BSet}(Ot:RS σ 4 oQ (.slice dV x1.length dU) x1){r:Sy}(hh:B8_ Y s0 x1=some r):
  ug_ prog 151 [loc fG 0] (λ(x:Int×BSet) _ vs=>vs=[.int .i64 x.1,vk x.2]) Y σ [ω fG #[.slice dV x1.length dU] wK] s0 r (λσ' H'=>H'=[ω fG #[.slice dV x1.length dU] wK]):=by
 intro l Z ry0 hY hys;dsimp only [B8_]at hh;have f1_3b:=Ot.rv.big;refine cM 18 Tryz.func151 (λw0=> ?_);refine TC.RJ (R7 ?_);refine TC.Ak (α:=(Nat×Sy)×(Res×aj)) (rgs [(3,2),(7,11)]) (λg=>[(7,.int .i64 (g.1.1:Int))]) (λg=>[ω fG #[.slice dV x1.length dU] wK,g.2.1]) (λg=>g.2.2) (λg=>iter (λq:Nat×Sy=>P7 x1 Y q.1 q.2) g.1=some r/\YR Z g.1.2 g.2.2 g.2.1/\aj.le σ g.2.2) (λg=>rQ (λq:Nat×Sy=>P7 x1 Y q.1 q.2) g.1) ((0,s0),(ry0,σ)) (ψ [1] 2) z (by repeat (first|exact trivial|refine ⟨z,?_⟩)) ⟨hh,hys,(aj.le.refl _)⟩ (λg1 j1 hg1=> ?_);obtain ⟨⟨I5,X8⟩,⟨ry113,τ115⟩⟩:=g1;obtain ⟨hh,hy114,og⟩:=hg1
 try dsimp only at hy114
 dsimp only at og;replace Ot:=Ot.mono og
 try dsimp only
 obtain ⟨z1,hh,hR1⟩:=zQ hh;dsimp only [P7]at hh;refine R5 ?_;refine π z hh (λtZ hh=> ?_) (λtZ hh=> ?_)
 ·refine R8 ?_;refine TL.al (λCU=> ?_);refine R5 ?_;refine ι z (OpVal.mv (.inl z)) (R2 ?_);obtain ⟨v14,u14,hh⟩:=bg hh;refine κ 2 (φ z (callY hY hy114 u14 z z z z z z ?_));rintro τ120 ry120 Zk hy120;refine R2 ?_;refine TC.cB z hh (λtY hh=> ?_) (λtY hh=> ?_)
  ·refine Θ (ψ [2,1] 2) (η ?_);replace hh:=bJ hR1 hh;obtain rfl:=so hh;refine ⟨_,ψ [1,1] 2,?_⟩;exact rz
  refine R5 ?_;obtain ⟨hh,Y2⟩:=xP hR1 hh;exact lf (((I5+1),v14.1),(ry120,τ120)) Y2 ⟨hh,hy120,(og.trans Zk)⟩ (ψ [2] 2)
 refine R1 ?_;replace hh:=bJ hR1 hh;refine R1 ?_;obtain rfl:=so hh;refine ⟨_,ψ [1] 2,?_⟩;exact rz
def Fv_(x0:List BSet):Option ((List BSet)):=
 some x0
theorem Lx_{σ:aj}{x0:List BSet}(aC:RS σ 4 oQ (.slice aB x0.length aA) x0){r:(List BSet)}(hh:Fv_ x0=some r):
  Con prog 90 #[.slice aB x0.length aA] σ [] (λv σ' H'=> ∃br4 Xj Xg,v= .func (.func 151) #[] #[loc br4 0]/\RS σ' 4 oQ (.slice Xj r.length Xg) r/\H'=[ω br4 #[.slice Xj r.length Xg] 131]):=by
 dsimp only [Fv_]at hh;refine cM 4 Tryz.func90 (λw0=> ?_);refine R2 ?_;refine φ z (OpOk.box z z z z (λbK=> ?_));refine ι z (OpVal.mv (.inr z)) (R3 ?_);refine ι z (cb_ z) (ι z (RN (.inr z) z) (R1 ?_));refine η ?_;obtain rfl:=so hh;exact rz
end Go.Proofs.YtcfgkcfcddfccaaGreatDoor
end

noncomputable section
namespace Go.E
open Go
section
variable {S R:Type} {step:S->Option (S⊕R)}
theorem aab_ {y no : R} (f : Nat -> S) (p : Nat -> Bool) (n : Nat) (hs : ∀ k, k < n -> p k = false -> step (f k) = some (.inl (f (k + 1)))) (hy : ∀ k, k < n -> p k = true -> step (f k) = some (.inr y))
    (hd:step (f n)=some (.inr no)): ∀k,k<=n->iter step (f k)=some (bif (List.range n).any (λi=>decide (k<=i) && p i) then y else no):=by
  intro k hk;obtain ⟨m,rfl⟩: ∃m,k=n - m:=⟨n - k,by omega⟩
  induction m with
  |zero=>
    have:(List.range n).any (λi=>decide (n - 0<=i) && p i)=false:=by
      rw [List.any_eq_false];intro i hi;have:=List.mem_range.1 hi;simp;omega
    rw [this];exact Jb hd
  |succ m ih=>
    by_cases h:m<n
    · have e:n - (m+1)+1=n - m:=by omega
      cases hp:p (n - (m+1))with
      |true=>
        have:(List.range n).any (λi=>decide (n - (m+1)<=i) && p i)=true:=by
          rw [List.any_eq_true];exact ⟨n - (m+1),List.mem_range.2 (by omega),by simp [hp]⟩
        rw [this];exact Jb (hy _ (by omega) hp)
      |false=>
        have h1:=hs (n - (m+1)) (by omega) hp;rw [e]at h1;have:(List.range n).any (λi=>decide (n - (m+1)<=i) && p i)=(List.range n).any (λi=>decide (n - m<=i) && p i):=by
          rw [Bool.eq_iff_iff,List.any_eq_true,List.any_eq_true];constructor
          · rintro ⟨i,hi,hx⟩
            simp only [Bool.and_eq_true,iL]at hx;refine ⟨i,hi,?_⟩;have:i≠n - (m+1):=λh=>by rw [h,hp]at hx;exact absurd hx.2 Bool.false_ne_true
            simp [hx.2];omega
          rintro ⟨i,hi,hx⟩;simp only [Bool.and_eq_true,iL]at hx;exact ⟨i,hi,by simp [hx.2];omega⟩
        rw [this];exact Vj h1 (ih (by omega))
    have e:n - (m+1)=n - m:=by omega
    rw [e];exact ih (by omega)
theorem x4_{y no:R}(f:Nat->S)(p:Nat->Bool)(n:Nat)(hs: ∀k,k<n->p k=false->step (f k)=some (.inl (f (k+1))))(hy: ∀k,k<n->p k=true->step (f k)=some (.inr y))
    (hd:step (f n)=some (.inr no)):iter step (f 0)=some (bif (List.range n).any p then y else no):=by
  have:=aab_ f p n hs hy hd 0 (by omega);simpa using this
theorem n8_{r:R}(f:Nat->S)(n:Nat)(hs: ∀k,k<n->step (f k)=some (.inl (f (k+1))))(hd:step (f n)=some (.inr r)):iter step (f 0)=some r:=iter_seq f n hs hd 0 (by omega)
end
theorem x8_{α:Type}(l:List α)(d:α)(p:α->Bool):(List.range l.length).any (λi=>p (nth l i d))=l.any p:=by
  rw [Bool.eq_iff_iff,List.any_eq_true,List.any_eq_true];constructor
  · rintro ⟨i,hi,h⟩
    have hi:=List.mem_range.1 hi;exact ⟨nth l i d,List.mem_of_getElem? (getD_some l hi d),h⟩
  rintro ⟨x,hx,h⟩;obtain ⟨i,hi,rfl⟩:=List.getElem_of_mem hx;refine ⟨i,List.mem_range.2 hi,?_⟩;have:nth l i d=l[i]:=by have:=getD_some l hi d;rw [List.getElem?_eq_getElem hi]at this;exact (Option.some.inj this).symm
  rw [this];exact h
theorem qh{α:Type}(l:List α){k:Nat}(h:k<l.length)(d:α):l.take (k+1)=l.take k++[nth l k d]:=by
  rw [List.take_add_one,getD_some l h d];rfl
theorem sH{α:Type}{l:List α}{i:Nat}(h:i<l.length)(d:α):nth l i d∈l:=List.mem_of_getElem? (getD_some l h d)
section
variable {K:Type} [DecidableEq K]
theorem h8_: ∀{l m:List K},l.Nodup->(∀x∈l,x∈m)->l.length<=m.length
  |[],m,_,_=>Nat.zero_le _
  | x :: l, m, hn, hs => by
    rw [List.nodup_cons]at hn;have hx:=hs x (iU ..);have:=h8_ (m:=m.erase x) hn.2 λy hy=>by
      have h1:=hs y (rM _ hy);refine (List.mem_erase_of_ne ?_).2 h1;intro e;subst e;exact hn.1 hy
    rw [List.length_erase_of_mem hx]at this;have hp:=List.length_pos_of_mem hx;simp only [List.length_cons];omega
theorem no_{p:List K->Prop}(h0:p [])(h1: ∀l x,p l->p (l++[x]))(l:List K):p l:=by
  have: ∀m:List K,p m.reverse:=λm=>by
    induction m with
    |nil=>exact h0
    |cons x m ih=>rw [List.reverse_cons];exact h1 _ _ ih
  simpa using this l.reverse
end
section
variable {β γ:Type}
structure Grp (key:β->Int) (val:β->γ) (n:Nat) (l:List (List γ)) (xs:List β):Prop where
  len:l.length=n
  row: ∀i,i<n->nth l i []=(xs.filter λx=>decide (key x=(i:Int))).map val
theorem Grp.nil(key:β->Int)(val:β->γ)(n:Nat):Grp key val n (List.replicate n []) []:=⟨oI ..,λi hi=>by simp [nth,List.getD,List.getElem?_replicate,hi]⟩
theorem Grp.snoc{key:β->Int}{val:β->γ}{n:Nat}{l:List (List γ)}{xs:List β}(h:Grp key val n l xs){x:β}(h0:0<=key x)(h1:key x<n):
    Grp key val n (l.set (key x).toNat (nth l (key x).toNat []++[val x])) (xs++[x]):=by
  refine ⟨by rw [fV];exact h.len,λi hi=> ?_⟩;rw [List.filter_append,List.map_append,<-h.row i hi]
  by_cases e:i=(key x).toNat
  · subst e
    have:key x=((key x).toNat:Int):=by omega
    have hl:=h.len;rw [show nth (l.set (key x).toNat (nth l (key x).toNat []++[val x])) (key x).toNat []=nth l (key x).toNat []++[val x]from by simp [nth,List.getD,hl,hi]];simp [this.symm]
  have hne: ¬ key x=(i:Int):=by omega
  rw [show nth (l.set (key x).toNat (nth l (key x).toNat []++[val x])) i []=nth l i []from by simp [nth,List.getD,List.getElem?_set,Ne.symm e]];simp [hne]
theorem Grp.at{key:β->Int}{val:β->γ}{n:Nat}{l:List (List γ)}{xs:List β}(h:Grp key val n l xs){s:Int}(h0:0<=s)(h1:s<n):nth l s.toNat []=(xs.filter λx=>decide (key x=s)).map val:=by
  rw [h.row _ (by omega)];have:((s.toNat:Nat):Int)=s:=by omega
  simp only [this]
theorem vl_{α R:Type}{step:Nat->Option (Nat⊕R)}{y no:R}(l:List α)(d:α)(p:α->Bool)(hs: ∀k,k<l.length->p (nth l k d)=true->step k=some (.inl (k+1)))
    (hn: ∀k,k<l.length->p (nth l k d)=false->step k=some (.inr no)) (hd:step l.length=some (.inr y)):iter step 0=some (if l.all p then y else no):=by
  have h:=x4_ (step:=step) (y:=no) (no:=y) (λk=>k) (λk=> !p (nth l k d)) l.length (λk hk hp=>hs k hk (by simpa using hp)) (λk hk hp=>hn k hk (by simpa using hp)) hd;rw [h,x8_ l d (λx=> !p x)]
  by_cases ha:l.all p=true
  · have:(l.any λx=> !p x)=false:=by rw [List.any_eq_false];intro x hx;have:=(List.all_eq_true.1 ha) x hx;simp [this]
    rw [this,ha];rfl
  have:(l.any λx=> !p x)=true:=by
    rw [Bool.not_eq_true,List.all_eq_false]at ha;obtain ⟨x,hx,h⟩:=ha;exact List.any_eq_true.2 ⟨x,hx,by simpa using h⟩
  rw [this];simp only [cond_true];rw [if_neg ha]
theorem k9_{α S R:Type}{step:S×Nat->Option ((S×Nat)⊕R)}{r:R}(l:List α)(d:α)(f:Nat->S)(hs: ∀k,k<l.length->step (f k,k)=some (.inl (f (k+1),k+1)))(hd:step (f l.length,l.length)=some (.inr r)):
    iter step (f 0,0)=some r:=n8_ (λk=>(f k,k)) l.length hs hd
end
theorem nf_{S R:Type}{step:S->Option (S⊕R)}{s s':S}(h:step s=some (.inl s')):iter step s=iter step s':=by
  cases hr:iter step s' with
  |some r=>exact Vj h hr
  |none=>
    cases hq:iter step s with
    |none=>rfl
    |some r=>
      obtain ⟨z,hz,hR⟩:=zQ hq;rw [h]at hz;cases hz;have:=(hR.next s' rfl).1;rw [hr]at this;cases this
theorem vt_ {α S T R : Type} {step : T -> Option (T ⊕ R)} (g : S -> Nat -> T) (l : List α) (d : α) (I : List α -> S -> Prop) (Q : R -> Prop)
    (hs: ∀k s,k<l.length->I (l.take k) s->(∃s',step (g s k)=some (.inl (g s' (k+1)))/\I (l.take k++[nth l k d]) s')\/ ∃r,step (g s k)=some (.inr r)/\Q r)
    (hd: ∀s,I l s-> ∃r,step (g s l.length)=some (.inr r)/\Q r) {s0:S} (h0:I [] s0): ∃r,iter step (g s0 0)=some r/\Q r:=by
  have key: ∀m k s,l.length - k=m->k<=l.length->I (l.take k) s-> ∃r,iter step (g s k)=some r/\Q r:=by
    intro m
    induction m with
    |zero=>
      intro k s hm hk hI;have hk:k=l.length:=by omega
      subst hk;rw [List.take_length]at hI;obtain ⟨r,h1,h2⟩:=hd s hI;exact ⟨r,Jb h1,h2⟩
    |succ m ih=>
      intro k s hm hk hI;rcases hs k s (by omega) hI with ⟨s',h1,h2⟩|⟨r,h1,h2⟩
      · rw [<-qh l (by omega) d]at h2
        obtain ⟨r,h3,h4⟩:=ih (k+1) s' (by omega) (by omega) h2;exact ⟨r,Vj h1 h3,h4⟩
      exact ⟨r,Jb h1,h2⟩
  exact key _ 0 s0 rfl (Nat.zero_le _) h0
theorem pn_{α:Type}(l:List α){k:Nat}(h:k<l.length)(d:α):l=l.take k++nth l k d::l.drop (k+1):=by
  have h1:l.drop k=nth l k d::l.drop (k+1):=by
    have:=List.drop_eq_getElem_cons h;rw [this];congr 1;have h2:=getD_some l h d;rw [List.getElem?_eq_getElem h]at h2;exact Option.some.inj h2
  rw [<-h1,List.take_append_drop]
theorem eH{α:Type}{p:Prop}[Decidable p]{a b:Option α}(h:p):iteO (decide p) a b=a:=by rw [decide_eq_true h];rfl
theorem dM{α:Type}{p:Prop}[Decidable p]{a b:Option α}(h: ¬ p):iteO (decide p) a b=b:=by rw [decide_eq_false h];rfl
theorem kT{α β:Type}{x:α}{f:α->Option β}:bnd (some x) f=f x:=rfl
theorem iteO_nt{α:Type}{a b:Option α}:iteO (!true) a b=b:=rfl
theorem kV {S T R : Type} {step : T -> Option (T ⊕ R)} (g : S -> Nat -> T) (n : Nat) (I : Nat -> S -> Prop) (Q : R -> Prop)
    (hs: ∀k s,k<n->I k s->(∃s',step (g s k)=some (.inl (g s' (k+1)))/\I (k+1) s')\/ ∃r,step (g s k)=some (.inr r)/\Q r)
    (hd: ∀s,I n s-> ∃r,step (g s n)=some (.inr r)/\Q r) {s0:S} (h0:I 0 s0): ∃r,iter step (g s0 0)=some r/\Q r:=by
  have key: ∀m k s,n - k=m->k<=n->I k s-> ∃r,iter step (g s k)=some r/\Q r:=by
    intro m
    induction m with
    |zero=>
      intro k s hm hk hI;have hk:k=n:=by omega
      subst hk;obtain ⟨r,h1,h2⟩:=hd s hI;exact ⟨r,Jb h1,h2⟩
    |succ m ih=>
      intro k s hm hk hI;rcases hs k s (by omega) hI with ⟨s',h1,h2⟩|⟨r,h1,h2⟩
      · obtain ⟨r,h3,h4⟩:=ih (k+1) s' (by omega) (by omega) h2
        exact ⟨r,Vj h1 h3,h4⟩
      exact ⟨r,Jb h1,h2⟩
  exact key _ 0 s0 rfl (Nat.zero_le _) h0
theorem u4_{S R:Type}{step:S->Option (S⊕R)}{s:S}{r:R}(h:step s=some (.inr r)):iter step s=some r:=Jb h
theorem Af{α:Type}(l:List α)(i j:Nat)(x d:α):nth (l.set i x) j d=if i=j/\j<l.length then x else nth l j d:=by
  unfold nth;simp only [List.getD_eq_getElem?_getD,List.getElem?_set]
  by_cases h:i=j
  · subst h
    by_cases k:i<l.length
    · simp [k]
    simp [k]
  simp [h]
theorem I_{α β:Type}(f:α->β)(l:List α)(i:Nat)(d:α)(e:β)(h:i<l.length):nth (l.map f) i e=f (nth l i d):=by
  unfold nth;simp [List.getD_eq_getElem?_getD,List.getElem?_map,List.getElem?_eq_getElem h]
theorem Yx{α:Type}(d:α){l m:List α}(hl:l.length=m.length)(h: ∀i,i<l.length->nth l i d=nth m i d):l=m:=by
  apply List.ext_getElem hl;intro i h1 h2;have a:=h i h1;have b:=getD_some l h1 d;have c:=getD_some m h2 d;rw [List.getElem?_eq_getElem h1]at b;rw [List.getElem?_eq_getElem h2]at c;rw [Option.some.inj b,a,<-Option.some.inj c]
end Go.E
end

noncomputable section
namespace Go.Proofs.YtcfgkcfcddfccaaGreatDoor
open Go Go.E
theorem low_bit: ∀x:Nat,x≠0-> ∃k m,x=2 ^ k * (2 * m+1):=by
 intro x
 induction x using Nat.strongRecOn with
 |_ x ih=>
  intro h0
  by_cases h:x % 2=1
  ·exact ⟨0,x / 2,by rw [Nat.pow_zero];omega⟩
  obtain ⟨k,m,e⟩:=ih (x / 2) (by omega) (by omega);refine ⟨k+1,m,?_⟩;have:x=2 * (x / 2):=by omega
  rw [this,e,Nat.pow_succ,Nat.mul_comm (2 ^ k) 2,Nat.mul_assoc]
theorem low_and{k m:Nat}(h:2 ^ k * (2 * m+1)<18446744073709551616):(2 ^ k * (2 * m+1)) &&& (18446744073709551616 - 2 ^ k * (2 * m+1))=2 ^ k:=by
 have hp:0<2 ^ k:=Nat.two_pow_pos k;have hx:2 ^ k * (2 * m+1)=(2 ^ k * (2 * m)+(2 ^ k - 1))+1:=by rw [Nat.mul_add];omega
 have e2:18446744073709551616 - 2 ^ k * (2 * m+1)=2 ^ 64 - ((2 ^ k * (2 * m)+(2 ^ k - 1))+1):=by rw [<-hx]
 have hlt:2 ^ k * (2 * m)+(2 ^ k - 1)<2 ^ 64:=by
  have:(2:Nat) ^ 64=18446744073709551616:=rfl;omega
 refine Nat.eq_of_testBit_eq λi=> ?_;rw [Nat.testBit_and,e2,Nat.testBit_two_pow_sub_succ hlt,Nat.testBit_two_pow_mul_add _ (by omega),Nat.testBit_two_pow,Nat.testBit_two_pow_mul,Nat.testBit_two_pow_sub_one];have h64:k<64:=by
  apply Decidable.byContradiction;intro hc;have h1:2 ^ 64<=2 ^ k:=Nat.pow_le_pow_right (by omega) (by omega);have h2:2 ^ k * 1<=2 ^ k * (2 * m+1):=Nat.mul_le_mul_left _ (by omega);have h3:(2:Nat) ^ 64=18446744073709551616:=rfl;omega
 by_cases h1:i<k
 ·rw [if_pos h1,decide_eq_false (show ¬ k<=i by omega),decide_eq_false (show ¬ k=i by omega)];rfl
 rw [if_neg h1,decide_eq_true (show k<=i by omega),Bool.true_and]
 by_cases h2:i=k
 ·subst h2;rw [Nat.sub_self,decide_eq_true (show i<64 by omega),decide_eq_true rfl,Nat.testBit_zero,Nat.testBit_zero];rw [decide_eq_true (show (2 * m+1) % 2=1 by omega),decide_eq_false (show ¬ (2 * m) % 2=1 by omega)];rfl
 obtain ⟨j,hj⟩: ∃j,i - k=j+1:=⟨i - k - 1,by omega⟩;rw [hj,Nat.testBit_succ,Nat.testBit_succ,show (2 * m+1) / 2=m by omega,show (2 * m) / 2=m by omega,decide_eq_false (show ¬ k=i by omega)];cases m.testBit j<;>cases decide (i<64)<;>rfl
theorem deB_pow: ∀k:Fin 64,DT (UL (2 ^ k.val) 285870213051353865) 58<64/\(nth deB (DT (UL (2 ^ k.val) 285870213051353865) 58) (0:UInt8)).toNat=k.val:=by decide+kernel
theorem ctz_eq{x:Nat}(h0:x≠0)(h:x<18446744073709551616): ∃k:Nat,k<64/\x.testBit k=true/\Al_ x=some ((k:Nat):Int)/\ ∀i,i<k->x.testBit i=false:=by
 obtain ⟨k,m,rfl⟩:=low_bit x h0;have h64:k<64:=by
  apply Decidable.byContradiction;intro hc;have h1:2 ^ 64<=2 ^ k:=Nat.pow_le_pow_right (by omega) (by omega);have h2:2 ^ k * 1<=2 ^ k * (2 * m+1):=Nat.mul_le_mul_left _ (by omega);have h3:(2:Nat) ^ 64=18446744073709551616:=rfl;omega
 refine ⟨k,h64,?_,?_,λi hi=>by rw [Nat.testBit_two_pow_mul,decide_eq_false (by omega)];rfl⟩
 ·rw [Nat.testBit_two_pow_mul,Nat.sub_self,decide_eq_true (Nat.le_refl k),Nat.testBit_zero,decide_eq_true (show (2 * m+1) % 2=1 by omega)];rfl
 have hn:AP (-((2 ^ k * (2 * m+1):Nat):Int))=18446744073709551616 - 2 ^ k * (2 * m+1):=by
  generalize 2 ^ k * (2 * m+1)=y at h h0 ⊢;unfold AP;omega
 have ha:Lu (2 ^ k * (2 * m+1)) (AP (-((2 ^ k * (2 * m+1):Nat):Int)))=2 ^ k:=by
  rw [hn];unfold Lu;rw [BitVec.toNat_and,BitVec.toNat_ofNat,BitVec.toNat_ofNat,Nat.mod_eq_of_lt h,Nat.mod_eq_of_lt (show 18446744073709551616 - 2 ^ k * (2 * m+1)<2 ^ 64 by
   have:(2:Nat) ^ 64=18446744073709551616:=rfl;omega),low_and h]
 obtain ⟨h1,h2⟩:=deB_pow ⟨k,h64⟩;dsimp only at h1 h2;unfold Al_;rw [dM h0,ha,cu h1,h2]
theorem aal_(s:BSet)(i:Nat):s.word i<18446744073709551616:=BSet.word_lt s.isOk i
theorem vs_(s:BSet)(n:Nat):s.has n=(s.word (n / 64)).testBit (n % 64):=by
 unfold BSet.has;rw [Nat.testBit_eq_decide_div_mod_eq]
theorem qd_:JQ BSet.zero=some (0,false):=by
 have hb: ∀k,k<4->Pz BSet.zero k=some (.inl (k+1)):=λk hk=>by
  unfold Pz
  have:BSet.zero.word k=0:=by unfold BSet.word BSet.zero;dsimp only;repeat (first|split|rfl)
  rw [eH (by omega),cu hk,dM (by rw [this];simp)];rfl
 unfold JQ;obtain ⟨r,h,e⟩:=kV (step:=λq:Nat=>Pz BSet.zero q) (λ(_:Unit) k=>k) 4 (λ_ _=>True) (λr=>r=((0:UInt8),false))
  (λk s hk _=> .inl ⟨(),hb k hk,trivial⟩) (λs _=>⟨_,by
   show Pz BSet.zero 4=_;unfold Pz;rw [dM (by omega)];rfl,rfl⟩) (s0:=()) trivial
 rw [h,e]
theorem nu_{s:BSet}(h0:s≠BSet.zero): ∃b:UInt8,JQ s=some (b,true)/\s.has b.toNat=true/\ ∀a,a<b.toNat->s.has a=false:=by
 unfold JQ;obtain ⟨r,h,b,rfl,hb⟩:=kV (step:=λq:Nat=>Pz s q) (λ(_:Unit) k=>k) 4 (λk _=> ∀i,i<k->s.word i=0) (λr=> ∃b:UInt8,r=(b,true)/\s.has b.toNat=true/\ ∀a,a<b.toNat->s.has a=false)
  (λk u hk hI=>by
   show (∃s',Pz s k=_/\_)\/ ∃r,Pz s k=_/\_;unfold Pz
   by_cases hw:s.word k=0
   ·refine .inl ⟨(),?_,λi hi=> ?_⟩
    ·rw [eH (by omega),cu hk,dM (by rw [hw];simp)];rfl
    by_cases e:i=k
    ·rw [e];exact hw
    exact hI i (by omega)
   obtain ⟨j,hj,ht,he,hm⟩:=ctz_eq hw (aal_ s k);have hv:(jd (IntKind.i64.wrap ((IntKind.i64.wrap (64 * ((k:Nat):Int)))+((j:Nat):Int)))).toNat=64 * k+j:=by
    rw [Ja (a:=64 * ((k:Nat):Int)) (by omega) (by omega),Ja (by omega) (by omega)];have:=Yy (64 * ((k:Nat):Int)+((j:Nat):Int));rw [Yw]at this;omega
   refine .inr ⟨(jd (IntKind.i64.wrap ((IntKind.i64.wrap (64 * ((k:Nat):Int)))+((j:Nat):Int))),true),?_,_,rfl,?_,λa ha=> ?_⟩
   ·rw [eH (by omega),cu hk,eH hw,he];rfl
   ·rw [hv,vs_,show (64 * k+j) / 64=k by omega,show (64 * k+j) % 64=j by omega];exact ht
   rw [hv]at ha;rw [vs_]
   by_cases e:a / 64=k
   ·rw [e];exact hm _ (by omega)
   rw [hI _ (by omega),Nat.zero_testBit])
  (λu hI=>by
   refine absurd ?_ h0;have h1:=hI 0 (by omega);have h2:=hI 1 (by omega);have h3:=hI 2 (by omega);have h4:=hI 3 (by omega);rw [<-BSet.bw_];exact ⟨by rw [show s.a=0 from h1];rfl,by rw [show s.b=0 from h2];rfl,by rw [show s.c=0 from h3];rfl,by rw [show s.d=0 from h4];rfl⟩) (s0:=()) (λi hi=>absurd hi (by omega))
 exact ⟨b,h,hb⟩
theorem v3_{s:BSet}(h0:s≠BSet.zero): ∃b:UInt8,JQ s=some (b,true)/\s.has b.toNat=true:=by
 obtain ⟨b,h1,h2, -⟩:=nu_ h0;exact ⟨b,h1,h2⟩
theorem sd_(a b:Nat):Qo a b<18446744073709551616:=(BitVec.ofNat 64 a ||| BitVec.ofNat 64 b).isLt
theorem ld_(s:BSet)(n:Nat):s.has n=(s.word (n / 64)).testBit (n % 64):=by
  unfold BSet.has;rw [Nat.testBit_eq_decide_div_mod_eq]
theorem L6_{s t:BSet}(h: ∀n,n<256->s.has n=t.has n):s=t:=by
  refine BSet.bk_ λi hi=>Nat.eq_of_testBit_eq λj=> ?_
  by_cases hj:j<64
  · have h1:=h (64 * i+j) (by omega)
    rw [ld_,ld_,show (64 * i+j) / 64=i by omega,show (64 * i+j) % 64=j by omega]at h1;exact h1
  have h2: ∀u:BSet,(u.word i).testBit j=false:=λu=>Nat.testBit_lt_two_pow (Nat.lt_of_lt_of_le (BSet.word_lt u.isOk i) (show 2 ^ 64<=2 ^ j from Nat.pow_le_pow_right (by omega) (by omega)));rw [h2,h2]
theorem xd_ (a b : BSet) : Xl a b = some (BSet.make λn => a.has n || b.has n) := by
  have h: ∃r,Xl a b=some r/\ ∀i,i<4->r.word i=Qo (a.word i) (b.word i):=by
    unfold Xl;exact kV (step:=λq:BSet×Nat=>D8_ b q.1 q.2) (λ(s:BSet) k=>(s,k)) 4 (λk s=> ∀i,i<4->s.word i=if i<k then Qo (a.word i) (b.word i) else a.word i) (λr=> ∀i,i<4->r.word i=Qo (a.word i) (b.word i))
      (λk s hk hI=> .inl ⟨BSet.JL s k (Qo (BSet.word s k) (BSet.word b k)),by
        show D8_ b s k=_;unfold D8_;rw [eH (by omega),cu hk,cu hk,cu hk,cu (sd_ _ _)];rfl,λi hi=>by
        rw [BSet.cl_ s hk _ i (sd_ _ _) hi]
        by_cases e:i=k
        · subst e;rw [if_pos rfl,if_pos (by omega),hI i hi,if_neg (by omega)]
        rw [if_neg e,hI i hi]
        by_cases e2:i<k
        · rw [if_pos e2,if_pos (by omega)]
        rw [if_neg e2,if_neg (by omega)]⟩)
      (λs hI=>⟨s,by
        show D8_ b s 4=_;unfold D8_;rw [dM (by omega)];rfl,λi hi=>by rw [hI i hi,if_pos hi]⟩) (s0:=a) (λi hi=>by rw [if_neg (by omega)])
  obtain ⟨r,h1,h2⟩:=h;rw [h1];congr 1;refine L6_ λn hn=> ?_;have l1:=BSet.word_lt a.isOk (n / 64);have l2:=BSet.word_lt b.isOk (n / 64);rw [BSet.Gg _ hn,ld_,ld_,ld_,h2 _ (by omega)];unfold Qo;rw [BitVec.toNat_or,BitVec.toNat_ofNat,BitVec.toNat_ofNat,Nat.mod_eq_of_lt l1,Nat.mod_eq_of_lt l2,Nat.testBit_or]
def uX(o:Option Nat)(n:Int):Option Nat:=o.bind λk=>if n<0\/(k:Int)<n then none else some (if n=k then k+1 else k)
def jX(l:ah):Option Nat:=l.foldl uX (some 0)
theorem lu_: ∀l:ah,l.foldl uX none=none
  |[]=>rfl
  |_::l=>lu_ l
theorem IC(l:ah)(n:Int):jX (l++[n])=uX (jX l) n:=by simp [jX,List.foldl_append]
theorem n9_{l m:ah}(h:jX l=none):jX (l++m)=none:=by
  unfold jX at h ⊢;rw [List.foldl_append,h,lu_]
theorem ox_: ∀(l:ah) (j k:Nat),l.foldl uX (some j)=some k->k<=j+l.length
  |[],j,k,h=>by cases h;simp
  |n::l,j,k,h=>by
    rw [List.foldl_cons]at h
    by_cases hc:n<0\/(j:Int)<n
    · rw [show uX (some j) n=none by simp [uX,hc],lu_]at h;cases h
    rw [show uX (some j) n=some (if n=j then j+1 else j) by simp [uX,hc]]at h;have:=ox_ l _ k h;simp only [List.length_cons]
    split at this<;>omega
def clsF(cls:ah)(k c:Nat):Nat->Bool:=λb=>decide (b<k) && decide (nth cls b (0:Int)=((c:Nat):Int))
def clsS(cls:ah)(c:Nat):BSet:=BSet.make λb=>decide (nth cls b (0:Int)=((c:Nat):Int))
structure SetsI (cls:ah) (k:Nat) (s:List BSet):Prop where
  cnt:jX (cls.take k)=some s.length
  sets: ∀c,c<s.length->nth s c BSet.zero=BSet.make (clsF cls k c)
  low: ∀b,b<k->0<=nth cls b (0:Int)/\nth cls b (0:Int)<((s.length:Nat):Int)
  some_: ∀c,c<s.length-> ∃b,b<k/\nth cls b (0:Int)=((c:Nat):Int)
theorem aad_{α:Type}(l:List α)(i j:Nat)(x d:α)(hi:i<l.length):nth (l.set i x) j d=if j=i then x else nth l j d:=by
  unfold nth;rw [List.getD_eq_getElem?_getD,List.getD_eq_getElem?_getD,List.getElem?_set]
  by_cases h:i=j
  · subst h;rw [if_pos rfl,if_pos rfl,if_pos hi];rfl
  rw [if_neg h,if_neg (λe=>h e.symm)]
theorem yx{α:Type}(l m:List α)(j:Nat)(d:α)(h:j<l.length):nth (l++m) j d=nth l j d:=by
  unfold nth;rw [List.getD_eq_getElem?_getD,List.getD_eq_getElem?_getD,List.getElem?_append_left h]
theorem zS{α:Type}(l:List α)(x d:α):nth (l++[x]) l.length d=x:=by
  unfold nth;rw [List.getD_eq_getElem?_getD,List.getElem?_append_right (Nat.le_refl _)];simp
theorem j1_{l:ah}{k:Nat}(h:k<l.length):l.take (k+1)=l.take k++[nth l k 0]:=by
  rw [List.take_add_one,getD_some l h 0];rfl
theorem Yg(k:Nat)(hk:k<256){n:Nat}(h:n<256):(BSet.ofL [jd ((k:Nat):Int)]).has n=decide (n=k):=by
  unfold BSet.ofL;rw [BSet.Gg _ h];have:=Yy ((k:Nat):Int);rw [Yw]at this;have e:(jd ((k:Nat):Int)).toNat=k:=by omega
  simp [e]
theorem um_ {cls : ah} {k : Nat} {s l : List BSet} (hk : k < 256) (hI : SetsI cls k s) {n : Nat} (hn : nth cls k (0 : Int) = ((n : Nat) : Int)) (hle : s.length <= l.length) (hl : l.length <= s.length + 1) (hnl : n < l.length) (hs : ∀ c, c < s.length -> nth l c BSet.zero = nth s c BSet.zero) (hz : s.length < l.length -> n = s.length /\ nth l n BSet.zero = BSet.zero)
    (hc:jX (cls.take (k+1))=some l.length):SetsI cls (k+1) (l.set n (BSet.make λb=>(nth l n BSet.zero).has b || (BSet.ofL [jd ((k:Nat):Int)]).has b)) where
  cnt:=by rw [fV];exact hc
  sets := λc hcl => by
    rw [fV]at hcl;rw [aad_ _ _ _ _ _ hnl]
    by_cases e:c=n
    · subst e
      rw [if_pos rfl];refine BSet.a0_ λb hb=> ?_;rw [Yg k hk hb];have h0:(nth l c BSet.zero).has b=clsF cls k c b:=by
        by_cases h1:c<s.length
        · rw [hs c h1,hI.sets c h1,BSet.Gg _ hb]
        have h2:=hz (by omega);rw [h2.2];have h3:clsF cls k c b=false:=by
          unfold clsF
          by_cases hbk:b<k
          · have:=(hI.low b hbk).2
            rw [decide_eq_false (show ¬ nth cls b (0:Int)=((c:Nat):Int) by omega),Bool.and_false]
          rw [decide_eq_false hbk,Bool.false_and]
        rw [h3,<-BSet.a3_,BSet.Gg _ hb]
      rw [h0];unfold clsF
      by_cases hb2:b=k
      · subst hb2;rw [hn];simp
      by_cases hb3:b<k
      · rw [decide_eq_true hb3,decide_eq_true (show b<k+1 by omega),decide_eq_false hb2,Bool.or_false]
      rw [decide_eq_false hb3,decide_eq_false (show ¬ b<k+1 by omega),decide_eq_false hb2];rfl
    rw [if_neg e];have h1:c<s.length:=by
      by_cases h2:s.length<l.length
      · have:=(hz h2).1;omega
      omega
    rw [hs c h1,hI.sets c h1];refine BSet.a0_ λb hb=> ?_;unfold clsF
    by_cases hb2:b=k
    · subst hb2
      rw [decide_eq_false (Nat.lt_irrefl _),hn,decide_eq_false (show ¬ ((n:Nat):Int)=((c:Nat):Int) by omega)];simp
    rw [decide_eq_decide.2 (show b<k↔b<k+1 by omega)]
  low:=λb hb=>by
    rw [fV]
    by_cases e:b=k
    · subst e;rw [hn];omega
    have:=hI.low b (by omega);omega
  some_:=λc hcl=>by
    rw [fV]at hcl
    by_cases h1:c<s.length
    · obtain ⟨b,h2,h3⟩:=hI.some_ c h1;exact ⟨b,by omega,h3⟩
    have h2:=hz (by omega);exact ⟨k,by omega,by rw [hn];omega⟩
theorem k6_ (cls : ah) : ∃ r, Tc cls = some r /\ (((cls.length ≠ 256 \/ jX cls = none) /\ r.2 = 1) \/ (cls.length = 256 /\ jX cls = some r.1.length /\ r.2 = 0 /\ (∀ c, c < r.1.length -> nth r.1 c BSet.zero = clsS cls c) /\ ∀ c, c < r.1.length -> ∃ b, b < 256 /\ nth cls b (0 : Int) = ((c : Nat) : Int))) := by
  unfold Tc
  by_cases h256:cls.length=256
  · rw [dM (show ¬ ((cls.length:Nat):Int)≠256 by omega)]
    obtain ⟨r,h1,h2⟩:=kV (step:=λq:List BSet×Nat=>Xp cls q.1 q.2) (λ(s:List BSet) k=>(s,k)) 256 (λk s=>SetsI cls k s) (λr=>(jX cls=none/\r.2=1)\/(SetsI cls 256 r.1/\r.2=0))
      (λk s hk hI=>by
        have hk':k<cls.length:=by omega
        have hsp:cls=cls.take k++(nth cls k 0::cls.drop (k+1)):=by
          rw [<-List.singleton_append,<-Gf,<-j1_ hk',List.take_append_drop]
        have hle:=ox_ _ _ _ hI.cnt;rw [List.length_take,Nat.zero_add]at hle;have hstop:(nth cls k 0<0\/(s.length:Int)<nth cls k 0)->jX cls=none:=λhc=>by
          rw [hsp,<-List.singleton_append,<-Gf];exact n9_ (by rw [IC,hI.cnt];simp [uX,hc])
        have hgo: ∀l:List BSet,0<=nth cls k 0->nth cls k 0<(l.length:Int)->D3_ cls k l=some (.inl (l.set (nth cls k (0:Int)).toNat (BSet.make λb=>(nth l (nth cls k (0:Int)).toNat BSet.zero).has b || (BSet.ofL [jd ((k:Nat):Int)]).has b),k+1)):=λl h0 h1=>by
          unfold D3_;rw [cu ⟨h0,h1⟩,cu (by simp),iM (xd_ _ _),cu ⟨h0,h1⟩];rfl
        show (∃s',Xp cls s k=_/\_)\/ ∃r,Xp cls s k=_/\_;unfold Xp;rw [eH (by omega)]
        by_cases c1:nth cls k 0<0
        · right;rw [eH c1];exact ⟨_,rfl,.inl ⟨hstop (.inl c1),rfl⟩⟩
        rw [dM c1]
        by_cases c2:(s.length:Int)<nth cls k 0
        · right;rw [eH c2];exact ⟨_,rfl,.inl ⟨hstop (.inr c2),rfl⟩⟩
        rw [dM c2];left
        by_cases c3:nth cls k 0=(s.length:Int)
        · rw [eH c3,cu (by simp;omega),hgo _ (by omega) (by simp;omega)]
          refine ⟨_,rfl,um_ hk hI (n:=(nth cls k (0:Int)).toNat) (by omega) (by simp) (by simp) (by simp;omega) (λc hc=>yx _ _ _ _ hc) (λ_=>⟨by omega,?_⟩) ?_⟩
          · rw [show (nth cls k (0:Int)).toNat=s.length by omega,zS]
          rw [j1_ hk',IC,hI.cnt];simp [uX,c3]
        rw [dM c3,hgo _ (by omega) (by omega)];refine ⟨_,rfl,um_ hk hI (n:=(nth cls k (0:Int)).toNat) (by omega) (Nat.le_refl _) (by omega) (by omega) (λ_ _=>rfl) (λh=>absurd h (Nat.lt_irrefl _)) ?_⟩;rw [j1_ hk',IC,hI.cnt];simp [uX,c3];omega)
      (λs hI=>⟨(s,0),by
        show Xp cls s 256=_;unfold Xp;rw [dM (by omega)];rfl,.inr ⟨hI,rfl⟩⟩) (s0:=[]) ⟨rfl,by simp,by simp,by simp⟩
    refine ⟨r,h1,?_⟩;rcases h2 with ⟨h2,h3⟩|⟨h2,h3⟩
    · exact .inl ⟨.inr h2,h3⟩
    have h4:=h2.cnt;rw [List.take_of_length_le (by omega)]at h4;refine .inr ⟨h256,h4,h3,λc hc=> ?_,h2.some_⟩;rw [h2.sets c hc];exact BSet.a0_ λb hb=>by unfold clsF;rw [decide_eq_true hb,Bool.true_and]
  rw [eH (show ((cls.length:Nat):Int)≠256 by omega)];exact ⟨_,rfl,.inl ⟨.inl h256,rfl⟩⟩
end Go.Proofs.YtcfgkcfcddfccaaGreatDoor
end

noncomputable section
namespace Go.E
open Go
structure Tip where
  state:Int
  out:List UInt8
  deriving DecidableEq
def aY:Tip:=⟨0,[]⟩
def bf(x:Tip):List Value:=[.int .i64 x.state,.string (bs x.out)]
theorem iV(x:Tip):(bf x).length=2:=rfl
theorem j2_: ∀x, ∀u∈bf x,u.oneCell'=true:=λx u hu=>by
  simp [bf]at hu;rcases hu with rfl|rfl<;>rfl
structure Arc where
  frm:Int
  to:Int
  set:BSet
  out:List UInt8
  copy:Bool
  deriving DecidableEq
def aQ:Arc:=⟨0,0,BSet.zero,[],false⟩
def fP(x:Arc):List Value:=[.int .i64 x.frm,.int .i64 x.to,.int .u64 ((x.set.a:Nat):Int),.int .u64 ((x.set.b:Nat):Int),.int .u64 ((x.set.c:Nat):Int),.int .u64 ((x.set.d:Nat):Int),.string (bs x.out),.bool x.copy]
theorem IE(x:Arc):(fP x).length=8:=rfl
theorem l3_: ∀x, ∀u∈fP x,u.oneCell'=true:=λx u hu=>by
  simp [fP]at hu;rcases hu with rfl|rfl|rfl|rfl|rfl|rfl|rfl|rfl<;>rfl
structure FPair where
  state:Int
  out:List UInt8
  deriving DecidableEq
def FPair.zero:FPair:=⟨0,[]⟩
structure Span where
  frm:Int
  to:Int
  deriving DecidableEq
def Span.zero:Span:=⟨0,0⟩
structure Fst where
  states:Int
  starts:List Tip
  ends:List Tip
  arcs:List Arc
  deriving DecidableEq
def Fst.zero:Fst:=⟨0,[],[],[]⟩
abbrev jB(x:Fst)(a1:Option Addr)(c1:Nat)(a2:Option Addr)(c2:Nat)(a3:Option Addr)(c3:Nat):Array Value:=#[.int .i64 x.states,.slice a1 x.starts.length c1,.slice a2 x.ends.length c2,.slice a3 x.arcs.length c3]
end Go.E
end

noncomputable section
namespace Go.Proofs.YtcfgkcfcddfccaaGreatDoor
open Go Go.E Go.E.OpVal Go.E.OpOk Go.Proofs.Tryz
open List (replicate)
theorem z2_:aggOf Tryz.prog 22=some false:=by kernel_rfl
theorem wt_:aggOf Tryz.prog 23=some false:=by kernel_rfl
theorem ag49:aggOf Tryz.prog 49=some true:=by kernel_rfl
theorem ag79:aggOf Tryz.prog 79=some true:=by kernel_rfl
theorem ag9:aggOf Tryz.prog 9=some false:=by kernel_rfl
theorem kb_:foOf Tryz.prog 25 0=some 0:=by kernel_rfl
theorem mh_:foOf Tryz.prog 25 1=some 1:=by kernel_rfl
theorem mj_:foOf Tryz.prog 25 2=some 2:=by kernel_rfl
theorem ke_:foOf Tryz.prog 25 3=some 3:=by kernel_rfl
theorem oi_:foOf Tryz.prog 49 0=some 0:=by kernel_rfl
theorem n3_:foOf Tryz.prog 49 1=some 1:=by kernel_rfl
theorem lk_:foOf Tryz.prog 49 2=some 2:=by kernel_rfl
theorem mu_:foOf Tryz.prog 49 3=some 6:=by kernel_rfl
theorem mi_:foOf Tryz.prog 79 0=some 0:=by kernel_rfl
theorem kx_:foOf Tryz.prog 79 1=some 1:=by kernel_rfl
theorem pf57:plainF Tryz.prog 57=true:=by kernel_rfl
theorem Yd:plainF Tryz.prog 58=true:=by kernel_rfl
theorem Qn:szOf Tryz.prog 49=some 8:=by kernel_rfl
theorem Ql:szOf Tryz.prog 79=some 2:=by kernel_rfl
theorem zo_:zeroOf Tryz.prog 49=some (.agg #[.int .i64 0,.int .i64 0,.int .u64 0,.int .u64 0,.int .u64 0,.int .u64 0,.string ByteArray.empty,.bool false]):=by kernel_rfl
theorem zj_:zeroOf Tryz.prog 79=some (.agg #[.int .i64 0,.string ByteArray.empty]):=by kernel_rfl
def Er_(x0:Int)(x1:Int):Option (Bool):=
 iteO (decide (0<=x0)) (some (decide (x0<x1))) (some false)
theorem I9_{σ:aj}{x0:Int}{x1:Int}{r:Bool}(hh:Er_ x0 x1=some r):
  Con prog 58 #[.int .i64 x0,.int .i64 x1] σ [] (jq (.bool r) σ):=by
 dsimp only [Er_]at hh;refine cM 12 Tryz.func58 (λw0=> ?_);refine R9 ?_;refine δ 7 z (λgW=> ?_) (λgW=> ?_)
 ·obtain ⟨gW,hh⟩:=iT gW hh;refine R6 ?_;refine η ?_;obtain rfl:=so hh;exact rq [4] ⟨z,z,z⟩
 obtain ⟨gW,hh⟩:=iF gW hh;refine R6 ?_;refine η ?_;obtain rfl:=so hh;exact rq [4] ⟨z,z,z⟩
def Bk_(x0:List Tip)(x1:Int)(fU:Nat):Option ((Nat)⊕(Bool)):=
 iteO (decide ((fU:Int)<(x0.length:Int))) (bnd (Er_ ((nth x0 fU aY).state) x1) (λv17=>iteO (!v17) (fin (some false)) (iteO (decide (1024<(((nth x0 fU aY).out).length:Int))) (fin (some false)) (nxt (fU+1))))) (fin (some true))
def Xz(x0:List Tip)(x1:Int):Option (Bool):=
 iteO (decide (1024<(x0.length:Int))) (some false) (iter (λq:Nat=>Bk_ x0 x1 q) 0)
theorem Jh_{σ:aj}{x0:List Tip}{x1:Int}(aC:RS σ 2 bf (.slice aB x0.length aA) x0){r:Bool}(hh:Xz x0 x1=some r):
  Con prog 57 #[.slice aB x0.length aA,.int .i64 x1] σ [] (jq (.bool r) σ):=by
 dsimp only [Xz]at hh;refine cM 28 Tryz.func57 (λw0=> ?_);refine R11 ?_;refine π z hh (λgW hh=> ?_) (λgW hh=> ?_)
 ·refine R4 ?_;refine η ?_;obtain rfl:=so hh;exact rq [4] ⟨z,z,z⟩
 refine R9 ?_;refine TC.lp hh () (rgs [(4,1),(6,1),(12,16)]) (λfU _=>([(12,.int .i64 (fU:Int))],[])) (θ 0 z) ?_;rintro fU _ _ z1 hh hR1;dsimp only [Bk_]at hh ⊢;refine R5 ?_;refine π z hh (λdL hh=> ?_) (λdL hh=> ?_)
 ·refine R7 ?_;refine TL.al (λyh=> ?_);refine R7 ?_;obtain ⟨v17,GZ,hh⟩:=bg hh;refine φ z (gI (I9_ GZ) z z Yd z z z ?_);refine R2 ?_;refine δ 21 z (λiG=> ?_) (λiG=> ?_)
  ·replace hh:=uZ iG hh;refine R11 ?_;refine Ψ 0 ?_;replace hh:=bJ hR1 hh;obtain rfl:=so hh;exact rq [4] ⟨z,z,z⟩
  replace hh:=u_ iG hh;refine R2 ?_;refine TL.g z (xq z kR z) (R3 ?_);refine π z hh (λiE hh=> ?_) (λiE hh=> ?_)
  ·refine R4 ?_;refine Ψ 0 ?_;replace hh:=bJ hR1 hh;obtain rfl:=so hh;exact rq [4] ⟨z,z,z⟩
  refine R5 ?_;exact nxq hR1 hh () (θ 0 z)
 refine R1 ?_;replace hh:=bJ hR1 hh;refine R5 ?_;refine η ?_;obtain rfl:=so hh;exact rq [4] ⟨z,z,z⟩
def Ds_(x0:Fst)(jw:Nat):Option ((Nat)⊕(Int)):=
 iteO (decide ((jw:Int)<(x0.arcs.length:Int))) (bnd (Er_ ((nth x0.arcs jw aQ).frm) x0.states) (λv46=>iteO (!v46) (fin (some 1)) (bnd (Er_ ((nth x0.arcs jw aQ).to) x0.states) (λv53=>iteO (!v53) (fin (some 1)) (iteO (decide ((nth x0.arcs jw aQ).set=BSet.zero)) (fin (some 1)) (iteO (decide (1024<(((nth x0.arcs jw aQ).out).length:Int))) (fin (some 1)) (nxt (jw+1)))))))) (fin (some 0))
def Gp(x0:Fst):Option (Int):=
 iteO (decide (x0.states<0)) (some 1) (iteO (decide (1024<x0.states)) (some 1) (iteO (decide (16384<(x0.arcs.length:Int))) (some 1) (bnd (Xz x0.starts x0.states) (λv22=>iteO (!v22) (some 1) (bnd (Xz x0.ends x0.states) (λv29=>iteO (!v29) (some 1) (iter (λq:Nat=>Ds_ x0 q) 0)))))))
theorem Tm{σ:aj}{x0:Fst}(aC:RS σ 2 bf (.slice aB x0.starts.length aA) x0.starts)(aV:RS σ 2 bf (.slice ay x0.ends.length aH) x0.ends)(aS:RS σ 8 fP (.slice aG x0.arcs.length au) x0.arcs){r:Int}(hh:Gp x0=some r):
  Con prog 21 #[.agg (jB x0 aB aA ay aH aG au)] σ [] (jq (.int .i64 r) σ):=by
 dsimp only [Gp]at hh;refine cM 67 Tryz.func21 (λw0=> ?_);refine R2 ?_;refine TL.bx (λaP=> ?_);refine R9 ?_;refine δ 8 z (λnC=> ?_) (λnC=> ?_)
 ·obtain ⟨nC,hh⟩:=iT nC hh;refine R16 ?_;refine Ψ 0 ?_;obtain rfl:=so hh;exact rq [2] ⟨z,z,z⟩
 obtain ⟨nC,hh⟩:=iF nC hh;refine R5 ?_;refine δ 13 z (λgV=> ?_) (λgV=> ?_)
 ·obtain ⟨gV,hh⟩:=iT gV hh;refine R11 ?_;refine Ψ 0 ?_;obtain rfl:=so hh;exact rq [2] ⟨z,z,z⟩
 obtain ⟨gV,hh⟩:=iF gV hh;refine R6 ?_;refine π z hh (λdL hh=> ?_) (λdL hh=> ?_)
 ·refine R4 ?_;refine Ψ 0 ?_;obtain rfl:=so hh;exact rq [2] ⟨z,z,z⟩
 refine R8 ?_;obtain ⟨v22,u22,hh⟩:=bg hh;refine φ z (gI (Jh_ aC u22) z z pf57 z z z ?_);refine R2 ?_;refine δ 25 z (λfM=> ?_) (λfM=> ?_)
 ·replace hh:=uZ fM hh;refine R13 ?_;refine Ψ 0 ?_;obtain rfl:=so hh;exact rq [2] ⟨z,z,z⟩
 replace hh:=u_ fM hh;refine R4 ?_;obtain ⟨v29,u29,hh⟩:=bg hh;refine TL.gon z z z z z (gI (Jh_ aV u29) z z pf57 z z z ?_);refine R3 ?_;refine TC.cB z hh (λgq hh=> ?_) (λgq hh=> ?_)
 ·refine R4 ?_;refine Ψ 0 ?_;obtain rfl:=so hh;exact rq [2] ⟨z,z,z⟩
 refine R10 ?_;refine TC.lp hh () (rgs [(2,1),(4,1),(36,31)]) (λjw _=>([(36,.int .i64 (jw:Int))],[ω aP (jB x0 aB aA ay aH aG au) 25])) (θ 1 z) ?_;rintro jw _ _ z1 hh hR1;dsimp only [Ds_]at hh ⊢;refine R5 ?_;refine π z hh (λgZ hh=> ?_) (λgZ hh=> ?_)
 ·refine R7 ?_;refine TL.al (λuh=> ?_);refine R8 ?_;obtain ⟨v46,u46,hh⟩:=bg hh;refine φ z (gI (I9_ u46) z z Yd z z z ?_);refine R2 ?_;refine δ 46 z (λjI=> ?_) (λjI=> ?_)
  ·replace hh:=uZ jI hh;refine R25 ?_;refine Ψ 0 ?_;replace hh:=bJ hR1 hh;obtain rfl:=so hh;exact rq [2] ⟨z,z,z⟩
  replace hh:=u_ jI hh;refine R4 ?_;obtain ⟨v53,u53,hh⟩:=bg hh;refine TL.gon z z z z z (gI (I9_ u53) z z Yd z z z ?_);refine R3 ?_;refine δ 54 z (λt_=> ?_) (λt_=> ?_)
  ·replace hh:=uZ t_ hh;refine R17 ?_;refine Ψ 0 ?_;replace hh:=bJ hR1 hh;obtain rfl:=so hh;exact rq [2] ⟨z,z,z⟩
  replace hh:=u_ t_ hh;refine R2 ?_;refine TL.g z (a4_ z KE Bh PK z) (TL.g z (eqlSet (s:=(nth x0.arcs jw aQ).set) (t:=BSet.zero) z KE underlying45 JA Bh eg47 z z) (R2 ?_));refine δ 60 z (λh116=> ?_) (λh116=> ?_)
  ·obtain ⟨h116,hh⟩:=iT h116 hh;refine R11 ?_;refine Ψ 0 ?_;replace hh:=bJ hR1 hh;obtain rfl:=so hh;exact rq [2] ⟨z,z,z⟩
  obtain ⟨h116,hh⟩:=iF h116 hh;refine R2 ?_;refine TL.g z (xq z kR z) (R3 ?_);refine π z hh (λtZ hh=> ?_) (λtZ hh=> ?_)
  ·refine R4 ?_;refine Ψ 0 ?_;replace hh:=bJ hR1 hh;obtain rfl:=so hh;exact rq [2] ⟨z,z,z⟩
  refine R5 ?_;exact nxq hR1 hh () (ψ [1] 1)
 refine R1 ?_;replace hh:=bJ hR1 hh;refine R5 ?_;refine Ψ 0 ?_;obtain rfl:=so hh;exact rq [2] ⟨z,z,z⟩
end Go.Proofs.YtcfgkcfcddfccaaGreatDoor
end

noncomputable section
namespace Go.E
open Go
structure Grow where
  f:Fst
  over:Bool
def TB(X:Ctx)(R:Exit->Act->World->Prop)(c:Code)(e:Env)(σ:aj)(H:List Res):Prop:=
  ∀w a,RM X a σ w H->St X.n e a->c.wpIn (fence X.rnd) 0 X.P R a w
def TLB(X:Ctx)(ops:Array Oper)(R:Exit->Act->World->Prop)(l:List Oper)(e:Env)(σ:aj)(H:List Res):Prop:=
  ∀w a,RM X a σ w H->St X.n e a->wpListIn (fence X.rnd) 0 X.P ops R l a w
def endE(w0:World)(C:List Nat)(σ0:aj)(Post:Value->aj->List Res->Prop):Ending->World->Prop:=
  λe w'=> ∃r σ' H',e= .returned r/\Post r σ' H'/\Reach w0 C σ0 σ' w' H'
def endR(P:Program)(fn:Func)(w0:World)(C:List Nat)(σ0:aj)(Post:Value->aj->List Res->Prop):Exit->Act->World->Prop:=
  bodyPostM (fence none) 0 P fn (endE w0 C σ0 Post)
theorem q2_{args:List Value}{n:Nat}{fn:Func}(hn:fn.ntmps=n)(ha:Nat.ble args.length n=true):St n (LC args) {tmps:=args.toArray++Array.replicate (fn.ntmps - args.toArray.size) undef,defers:=[]}:=by
  have:=Nat.le_of_ble_eq_true ha;refine ⟨?_,λt=> ?_⟩
  · simp [hn];omega
  simp only [Array.getD_eq_getD_getElem?,Array.getElem?_append,LC,List.getElem?_toArray,List.size_toArray,Array.getElem?_replicate]
  split
  · rfl
  rename_i hlt
  rw [List.getElem?_eq_none (by omega)]
  split<;>rfl
theorem MarksOk.start{w0:World}{σ:aj}{H:List Res}{w:World}:MarksOk w0 none (some []) [] σ H w:=⟨(λh=>by cases h),(λ_ h=>by cases h;rfl),λ_ h=>by cases h⟩
theorem Con.mkD{P:Program}{f:FuncId}{fn:Func}{c:Code}{args:List Value}{n:Nat}{σ:aj}{H:List Res}{Post:Value->aj->List Res->Prop}
    (hf:P.funcs[f]? =some fn) (hb:fn.body=some c) (hn:fn.ntmps=n) (ha:Nat.ble args.length n=true)
    (h: ∀w0,TB ⟨P,w0,fJ H,σ,n,none,some []⟩ (endR P fn w0 (fJ H) σ Post) c (LC args) σ H):Con P f args.toArray σ H Post:=by
  intro w hw;exact hm_.1 (callsIn_of_wp_marks (F:=fence none) (n:=0) hf hb trivial (h w w _ ⟨hw,MarksOk.start⟩ (q2_ hn ha)))
def Jw(P:Program)(f:FuncId)(args:Array Value)(σ:aj)(H:List Res)(Post:Value->aj->List Res->Prop):Prop:=
  ∀w,Reach w (fJ H) σ σ w H->CallsDIn (fence none) 0 P f args .returning w λe u w'=>u= .returning/\ ∃r σ' H',e= .returned r/\Post r σ' H'/\Reach w (fJ H) σ σ' w' H'
theorem Jw.mono{P:Program}{f:FuncId}{args:Array Value}{σ:aj}{H:List Res}{Post Post':Value->aj->List Res->Prop}
    (h:Jw P f args σ H Post) (hp: ∀r σ' H',σ.le σ'->Post r σ' H'->Post' r σ' H'):Jw P f args σ H Post':=λw hw=>
  (h w hw).mono λ_ _ _ ⟨h0,r,σ',H',h1,h2,h3⟩=>⟨h0,r,σ',H',h1,hp _ _ _ h3.le h2,h3⟩
theorem Jw.mk{P:Program}{f:FuncId}{fn:Func}{c:Code}{args:List Value}{n:Nat}{σ:aj}{H:List Res}{Post:Value->aj->List Res->Prop}
    (hf:P.funcs[f]? =some fn) (hb:fn.body=some c) (hn:fn.ntmps=n) (ha:Nat.ble args.length n=true)
    (h: ∀w0,TC ⟨P,w0,fJ H,σ,n,none,some []⟩ (retQ P fn n Post) c (LC args) σ H):Jw P f args.toArray σ H Post:=by
  intro w hw;refine callsDIn_of_wp hf hb trivial (Go.wpIn_mono (h w w _ ⟨hw,MarksOk.start⟩ (q2_ hn ha)) ?_);rintro ex a w' ⟨e',σ',H',h1,h2,⟨hex,r,H'',h3,h4,h5⟩⟩;have hd:a.defers=[]:=h2.marks.is _ rfl;have hfin:a.defers=[]/\ ∃v,(results fn a.tmps).run P w'= .ok v w'/\(∃r σ' H',Ending.returned v= .returned r/\Post r σ' H'/\Reach w (fJ H) σ σ' w' H'):=
    ⟨hd,r,h3 w' a h1 h2.holds,r,σ',H'',rfl,h5,h2.toReach.sub h4⟩
  rcases hex with rfl|rfl
  · exact hfin
  exact hfin
section rules
variable {X:Ctx} {ops:Array Oper} {R:Exit->Act->World->Prop} {Q:QP} {e:Env} {σ:aj} {H F:List Res} {o:Oper} {rest:List Oper} {c c1 c2:Code} {fn:Func} {Post:Value->aj->List Res->Prop}
theorem UW{P:Program}{w0:World}{C:List Nat}{σ0:aj}{n:Nat}: ∀ex a w,low ⟨P,w0,C,σ0,n,none,some []⟩ (retQ P fn n Post) ex a w->endR P fn w0 C σ0 Post ex a w:=by
  rintro ex a w ⟨e,σ,H,h1,h2,⟨hex,r,H',h3,h4,h5⟩⟩;have hd:a.defers=[]:=h2.marks.is _ rfl;have hfin:LeavesInM (fence none) 0 P fn a.tmps (endE w0 C σ0 Post) a.defers .returning w:=by
    rw [hd];exact ⟨r,h3 w a h1 h2.holds,r,σ,H',rfl,h5,h2.toReach.sub h4⟩
  rcases hex with rfl|rfl
  · exact hfin
  exact hfin
def dfrQ(P:Program)(fn:Func)(n:Nat)(Post:Value->aj->List Res->Prop)(f:FuncId)(args:List Value):QP:=λex e σ H=>
  (ex= .ret\/ex= .normal)/\ ∃F,Sub F H/\Jw P f args.toArray σ F λ_ σ' H'=>RetOk P fn n Post .ret e σ' H'
theorem rm_{P:Program}{w0:World}{C:List Nat}{σ0:aj}{n:Nat}{f:FuncId}{cap dargs:List Value}(hp:plainF P f=true):
    ∀ex a w,low ⟨P,w0,C,σ0,n,none,some [⟨.fn (.func f) cap.toArray,dargs.toArray⟩]⟩ (dfrQ P fn n Post f (dargs++cap)) ex a w->endR P fn w0 C σ0 Post ex a w:=by
  rintro ex a w ⟨e,σ,H,h1,h2,hex,F,hs,hcon⟩;have hd:a.defers=[⟨.fn (.func f) cap.toArray,dargs.toArray⟩]:=h2.marks.is _ rfl;have h3:Reach w0 C σ0 σ w F:=h2.toReach.cu_ hs;have hfin:LeavesInM (fence none) 0 P fn a.tmps (endE w0 C σ0 Post) a.defers .returning w:=by
    rw [hd];refine ⟨by simp,.inr ⟨(λh=>by cases h),.func f,cap.toArray,f,(dargs++cap).toArray,rfl,?_,(λ_ _=>trivial),(hcon w h3.self).mono ?_⟩⟩
    · simp [invoke,Rk hp]
    rintro _ _ w' ⟨rfl,r,σ',H',rfl,⟨-,v,H'',h4,h5,h6⟩,h7⟩;have h8:Reach w0 C σ0 σ' w' H':=by
      have:=(show Reach w0 C σ0 σ w (F++[]) by rwa [List.append_nil]).call h7
      rwa [List.append_nil]at this
    exact ⟨v,h4 w' a h1 h8.holds,v,σ',H'',rfl,h6,h8.sub h5⟩
  rcases hex with rfl|rfl
  · exact hfin
  exact hfin
theorem TB.seq(hR: ∀ex a w,low X Q ex a w->R ex a w)(h:TC X (seqQ (TB X R c2) Q) c1 e σ H):TB X R (.seq c1 c2) e σ H:=λw a hw ha=>
  Go.wpIn_seq (Go.wpIn_mono (h w a hw ha) λex a' w' ⟨e',σ',H',h1,h2,h3⟩=>by
    cases ex
    case normal=>exact h3 w' a' h2 h1
    all_goals exact hR _ _ _ ⟨e',σ',H',h1,h2,h3⟩)
theorem TB.fin(hR: ∀ex a w,low X Q ex a w->R ex a w)(h:TC X Q c e σ H):TB X R c e σ H:=λw a hw ha=>Go.wpIn_mono (h w a hw ha) (hR)
theorem TLB.v{v:Value}{d:Nat}(hg:o.guard=none)(h:OpVal X.P X.n o e σ H v)(hd:o.dst=some d)(hn:Nat.blt d X.n=true)(k:TLB X ops R rest (upd e d v) σ H):TLB X ops R (o::rest) e σ H:=λw a hw ha=>
  wpListIn_plain hg λK hK=>(OpVal.ok h hd hn (K:=λe' σ' H'=>TLB X ops R rest e' σ' H') k).at hw ha λe' σ' H' a' w' hk hw' ha'=>hK a' w' (hk w' a' hw' ha')
theorem TLB.front(i:Nat){r:Res}{l:List Oper}(hi:H[i]? =some r)(hF:H.eraseIdx i=F)(h:TLB X ops R l e σ (r::F)):TLB X ops R l e σ H:=λw a hw ha=>h w a (hw.perm (PX hi hF)) ha
theorem TLB.dfr{P:Program}{w0:World}{C:List Nat}{σ0:aj}{n:Nat}{f:FuncId}{cap first:Array Value}{x:Operand}{opds:Array Operand}{ts:Array TypeId}{dargs:List Value}
    (hg:o.guard=none) (hop:o.op= .defer {callee:= .value x,args:=opds,argTypes:=ts}) (hx:ev e x= .func (.func f) first cap) (hd:o.dst=none) (ha:first.toList++opds.toList.map (ev e)=dargs)
    (hK: ∀a w,RM ⟨P,w0,C,σ0,n,none,some [⟨.fn (.func f) cap,dargs.toArray⟩]⟩ a σ w H->St n e a->R .normal a w):
    TLB ⟨P,w0,C,σ0,n,none,some []⟩ ops R [o] e σ H:=λw a hw hst=>by
  have ha':first++opds.map (ev e)=dargs.toArray:=by apply Array.ext';rw [<-ha];simp
  refine wpListIn_plain hg λK hK'=>⟨(λ_ _=>trivial),?_⟩;have hs:(o.semAt (fence none).round a.eval).run P w= .ok (.defer ⟨.fn (.func f) cap,dargs.toArray⟩) w:=by
    rw [hst.eval',<-ha'];simp [Oper.semAt,execOp,hop,resolve,hx,Deferred.ofValue]
  show Oper.uponIn _ _ _ _ _ _ _ ((o.semAt (fence none).round a.eval).run P w);rw [hs,Oper.uponIn_defer,hd];have h0:a.defers=[]:=hw.marks.is _ rfl;refine hK' _ _ (hK _ _ ⟨?_,⟨(λh=>by cases h),(λl h=> ?_),λ_ h=>by cases h⟩⟩ ⟨hst.size,hst.get⟩)
  · exact hw.toReach
  cases h;show _::a.defers=_;rw [h0]
theorem TB.seqD{id:Nat}{l:List Oper}(h:TLB X l.toArray (λex a w=>match ex with| .normal=>c2.wpIn (fence X.rnd) 0 X.P R a w|ex=>R ex a w) l e σ H):TB X R (.seq (.region id l.toArray false) c2) e σ H:=λw a hw ha=>
  Go.wpIn_seq (Go.wpIn_mono (wpIn_region_lit (h w a hw ha)) λex a' w' hq=>by cases ex<;>exact hq)
end rules
end Go.E
end

noncomputable section
namespace Go.Proofs.YtcfgkcfcddfccaaGreatDoor
open Go Go.E Go.E.OpVal Go.E.OpOk Go.Proofs.Tryz
open List (replicate)
theorem zn_:aggOf Tryz.prog 25=some true:=by kernel_rfl
theorem by49:byOf Tryz.prog 49=some 72:=by kernel_rfl
theorem by79:byOf Tryz.prog 79=some 24:=by kernel_rfl
theorem yb_:foOf Tryz.prog 93 0=some 0:=by kernel_rfl
theorem fo93_1:foOf Tryz.prog 93 1=some 4:=by kernel_rfl
theorem pl25:plOf Tryz.prog 25=some #[(0,1),(1,1),(2,1),(3,1)]:=by kernel_rfl
theorem KU:szOf Tryz.prog 22=some 1:=by kernel_rfl
theorem IX:szOf Tryz.prog 23=some 1:=by kernel_rfl
theorem uh_:szOf Tryz.prog 25=some 4:=by kernel_rfl
theorem X6:szOf Tryz.prog 27=some 1:=by kernel_rfl
theorem ze25:zeroOf Tryz.prog 25=some (.agg #[.int .i64 0,aW,aW,aW]):=by kernel_rfl
def Ci_(x0:Grow)(x1:Tip):Option (Grow):=
 iteO x0.over (some (⟨(⟨x0.f.states,x0.f.starts,x0.f.ends,x0.f.arcs⟩:Fst),true⟩:Grow)) (iteO (decide (1024<=(x0.f.starts.length:Int))) (some (⟨(⟨x0.f.states,x0.f.starts,x0.f.ends,x0.f.arcs⟩:Fst),true⟩:Grow)) (iteO (decide (1024<(x1.out.length:Int))) (some (⟨(⟨x0.f.states,x0.f.starts,x0.f.ends,x0.f.arcs⟩:Fst),true⟩:Grow)) (grd ((x0.f.starts.length+[x1].length) * 24<=140737488355328) (some (⟨(⟨x0.f.states,(x0.f.starts++[x1]),x0.f.ends,x0.f.arcs⟩:Fst),x0.over⟩:Grow)))))
theorem Is_{σ:aj}{x0:Grow}{x1:Tip}{r:Grow}(hh:Ci_ x0 x1=some r):
  Con prog 62 #[loc aZ 0,.agg #[.int .i64 x1.state,.string (bs x1.out)]] σ [ω aZ #[.int .i64 x0.f.states,.slice ay x0.f.starts.length au,.slice dh x0.f.ends.length rC,.slice rE x0.f.arcs.length ru,.bool x0.over] kE,ε 79 2 bf (.slice ay x0.f.starts.length au) x0.f.starts,ε 79 2 bf (.slice dh x0.f.ends.length rC) x0.f.ends,ε 49 8 fP (.slice rE x0.f.arcs.length ru) x0.f.arcs] (λv σ' H'=> ∃nH nD Ey Em Ew Ej,v= .tuple #[]/\σ=σ'/\H'=[ω aZ #[.int .i64 r.f.states,.slice nH r.f.starts.length nD,.slice Ey r.f.ends.length Em,.slice Ew r.f.arcs.length Ej,.bool r.over] kE,ε 79 2 bf (.slice nH r.f.starts.length nD) r.f.starts,ε 79 2 bf (.slice Ey r.f.ends.length Em) r.f.ends,ε 49 8 fP (.slice Ew r.f.arcs.length Ej) r.f.arcs]):=by
 dsimp only [Ci_]at hh;refine cM 38 Tryz.func62 (λw0=> ?_);refine TC.RJ (R2 ?_);refine TL.bx (λEu=> ?_);refine R9 ?_;refine δ 8 z (λfD=> ?_) (λfD=> ?_)
 ·replace hh:=uZ fD hh;refine R21 ?_;refine κ 1 (R2 ?_);refine Θ (ψ [4,4,4,3] 4) (η ?_);obtain rfl:=so hh;refine ⟨_,ψ [3,3,3,3] 4,?_⟩;exact ry
 replace hh:=u_ fD hh;refine R9 ?_;refine δ 17 z (λgZ=> ?_) (λgZ=> ?_)
 ·obtain ⟨gZ,hh⟩:=iT gZ hh;refine R12 ?_;refine κ 1 (R2 ?_);refine Θ (ψ [4,4,4,3] 4) (η ?_);obtain rfl:=so hh;refine ⟨_,ψ [3,3,3,3] 4,?_⟩;exact ry
 obtain ⟨gZ,hh⟩:=iF gZ hh;refine R2 ?_;refine TL.g z (xq z kR z) (R3 ?_);refine π z hh (λh112 hh=> ?_) (λh112 hh=> ?_)
 ·refine R5 ?_;refine κ 1 (R2 ?_);refine Θ (ψ [4,4,4,3] 4) (η ?_);obtain rfl:=so hh;refine ⟨_,ψ [3,3,3,3] 4,?_⟩;exact ry
 refine R1 ?_;obtain ⟨u33,hh⟩:=gd hh;refine TC.dw [8,9,10,11,12] (ν 0 z mL z (ν 1 z mL z (ν 2 z (Ba z z) z (ν 3 z fL z (ν 4 z fL z (χ 5 z lL z (χ 6 z lA z (υ 7 z (jc (enc:=bf) [x1] (λlX c119=>(k1 ?_)))))))))));refine Ω 3 (TA.la 8 z z z (apF (.inr ⟨_,0,z⟩) u33 (λCZ CP=> ?_)));refine TZ.w 9 z z z (Ba z z) z z (TZ.w 10 z z z fL z z (TZ.w 11 z z z fL z z (TZ.fr 3 (TZ.la 12 z z z (iH z KU z z z z z ?_)))));refine TZ.done (by kernel_rfl) ?_;obtain rfl:=so hh;refine ⟨_,ψ [5,5,3,3] 4,?_⟩;exact ry
def Dn_(x0:Grow)(x1:Tip):Option (Grow):=
 iteO x0.over (some (⟨(⟨x0.f.states,x0.f.starts,x0.f.ends,x0.f.arcs⟩:Fst),true⟩:Grow)) (iteO (decide (1024<=(x0.f.ends.length:Int))) (some (⟨(⟨x0.f.states,x0.f.starts,x0.f.ends,x0.f.arcs⟩:Fst),true⟩:Grow)) (iteO (decide (1024<(x1.out.length:Int))) (some (⟨(⟨x0.f.states,x0.f.starts,x0.f.ends,x0.f.arcs⟩:Fst),true⟩:Grow)) (grd ((x0.f.ends.length+[x1].length) * 24<=140737488355328) (some (⟨(⟨x0.f.states,x0.f.starts,(x0.f.ends++[x1]),x0.f.arcs⟩:Fst),x0.over⟩:Grow)))))
theorem J3_{σ:aj}{x0:Grow}{x1:Tip}{r:Grow}(hh:Dn_ x0 x1=some r):
  Con prog 63 #[loc aZ 0,.agg #[.int .i64 x1.state,.string (bs x1.out)]] σ [ω aZ #[.int .i64 x0.f.states,.slice ay x0.f.starts.length au,.slice dh x0.f.ends.length rC,.slice rE x0.f.arcs.length ru,.bool x0.over] kE,ε 79 2 bf (.slice ay x0.f.starts.length au) x0.f.starts,ε 79 2 bf (.slice dh x0.f.ends.length rC) x0.f.ends,ε 49 8 fP (.slice rE x0.f.arcs.length ru) x0.f.arcs] (λv σ' H'=> ∃nH nD Ey Em Ew Ej,v= .tuple #[]/\σ=σ'/\H'=[ω aZ #[.int .i64 r.f.states,.slice nH r.f.starts.length nD,.slice Ey r.f.ends.length Em,.slice Ew r.f.arcs.length Ej,.bool r.over] kE,ε 79 2 bf (.slice nH r.f.starts.length nD) r.f.starts,ε 79 2 bf (.slice Ey r.f.ends.length Em) r.f.ends,ε 49 8 fP (.slice Ew r.f.arcs.length Ej) r.f.arcs]):=by
 dsimp only [Dn_]at hh;refine cM 38 Tryz.func63 (λw0=> ?_);refine TC.RJ (R2 ?_);refine TL.bx (λEu=> ?_);refine R9 ?_;refine δ 8 z (λfD=> ?_) (λfD=> ?_)
 ·replace hh:=uZ fD hh;refine R21 ?_;refine κ 1 (R2 ?_);refine Θ (ψ [4,4,4,3] 4) (η ?_);obtain rfl:=so hh;refine ⟨_,ψ [3,3,3,3] 4,?_⟩;exact ry
 replace hh:=u_ fD hh;refine R9 ?_;refine δ 17 z (λgZ=> ?_) (λgZ=> ?_)
 ·obtain ⟨gZ,hh⟩:=iT gZ hh;refine R12 ?_;refine κ 1 (R2 ?_);refine Θ (ψ [4,4,4,3] 4) (η ?_);obtain rfl:=so hh;refine ⟨_,ψ [3,3,3,3] 4,?_⟩;exact ry
 obtain ⟨gZ,hh⟩:=iF gZ hh;refine R2 ?_;refine TL.g z (xq z kR z) (R3 ?_);refine π z hh (λh112 hh=> ?_) (λh112 hh=> ?_)
 ·refine R5 ?_;refine κ 1 (R2 ?_);refine Θ (ψ [4,4,4,3] 4) (η ?_);obtain rfl:=so hh;refine ⟨_,ψ [3,3,3,3] 4,?_⟩;exact ry
 refine R1 ?_;obtain ⟨u33,hh⟩:=gd hh;refine TC.dw [8,9,10,11,12] (ν 0 z mL z (ν 1 z mL z (ν 2 z (Ba z z) z (ν 3 z fL z (ν 4 z fL z (χ 5 z lL z (χ 6 z lA z (υ 7 z (jc (enc:=bf) [x1] (λlX c119=>(k1 ?_)))))))))));refine Ω 4 (TA.la 8 z z z (apF (.inr ⟨_,0,z⟩) u33 (λCZ CP=> ?_)));refine TZ.w 9 z z z (Ba z z) z z (TZ.w 10 z z z fL z z (TZ.w 11 z z z fL z z (TZ.fr 3 (TZ.la 12 z z z (iH z KU z z z z z ?_)))));refine TZ.done (by kernel_rfl) ?_;obtain rfl:=so hh;refine ⟨_,ψ [5,2,5,3] 4,?_⟩;exact ry
def D0_(x0:Grow)(x1:Arc):Option (Grow):=
 iteO x0.over (some (⟨(⟨x0.f.states,x0.f.starts,x0.f.ends,x0.f.arcs⟩:Fst),true⟩:Grow)) (iteO (decide (16384<=(x0.f.arcs.length:Int))) (some (⟨(⟨x0.f.states,x0.f.starts,x0.f.ends,x0.f.arcs⟩:Fst),true⟩:Grow)) (iteO (decide (1024<(x1.out.length:Int))) (some (⟨(⟨x0.f.states,x0.f.starts,x0.f.ends,x0.f.arcs⟩:Fst),true⟩:Grow)) (grd ((x0.f.arcs.length+[x1].length) * 72<=140737488355328) (some (⟨(⟨x0.f.states,x0.f.starts,x0.f.ends,(x0.f.arcs++[x1])⟩:Fst),x0.over⟩:Grow)))))
theorem Jy_{σ:aj}{x0:Grow}{x1:Arc}{r:Grow}(hh:D0_ x0 x1=some r):
  Con prog 67 #[loc aZ 0,.agg #[.int .i64 x1.frm,.int .i64 x1.to,.int .u64 (x1.set.a:Int),.int .u64 (x1.set.b:Int),.int .u64 (x1.set.c:Int),.int .u64 (x1.set.d:Int),.string (bs x1.out),.bool x1.copy]] σ [ω aZ #[.int .i64 x0.f.states,.slice ay x0.f.starts.length au,.slice dh x0.f.ends.length rC,.slice rE x0.f.arcs.length ru,.bool x0.over] kE,ε 79 2 bf (.slice ay x0.f.starts.length au) x0.f.starts,ε 79 2 bf (.slice dh x0.f.ends.length rC) x0.f.ends,ε 49 8 fP (.slice rE x0.f.arcs.length ru) x0.f.arcs] (λv σ' H'=> ∃nH nD Ey Em Ew Ej,v= .tuple #[]/\σ=σ'/\H'=[ω aZ #[.int .i64 r.f.states,.slice nH r.f.starts.length nD,.slice Ey r.f.ends.length Em,.slice Ew r.f.arcs.length Ej,.bool r.over] kE,ε 79 2 bf (.slice nH r.f.starts.length nD) r.f.starts,ε 79 2 bf (.slice Ey r.f.ends.length Em) r.f.ends,ε 49 8 fP (.slice Ew r.f.arcs.length Ej) r.f.arcs]):=by
 dsimp only [D0_]at hh;refine cM 38 Tryz.func67 (λw0=> ?_);refine TC.RJ (R2 ?_);refine TL.bx (λEu=> ?_);refine R9 ?_;refine δ 8 z (λfD=> ?_) (λfD=> ?_)
 ·replace hh:=uZ fD hh;refine R21 ?_;refine κ 1 (R2 ?_);refine Θ (ψ [4,4,4,3] 4) (η ?_);obtain rfl:=so hh;refine ⟨_,ψ [3,3,3,3] 4,?_⟩;exact ry
 replace hh:=u_ fD hh;refine R9 ?_;refine δ 17 z (λgZ=> ?_) (λgZ=> ?_)
 ·obtain ⟨gZ,hh⟩:=iT gZ hh;refine R12 ?_;refine κ 1 (R2 ?_);refine Θ (ψ [4,4,4,3] 4) (η ?_);obtain rfl:=so hh;refine ⟨_,ψ [3,3,3,3] 4,?_⟩;exact ry
 obtain ⟨gZ,hh⟩:=iF gZ hh;refine R2 ?_;refine TL.g z (xq z kR z) (R3 ?_);refine π z hh (λh112 hh=> ?_) (λh112 hh=> ?_)
 ·refine R5 ?_;refine κ 1 (R2 ?_);refine Θ (ψ [4,4,4,3] 4) (η ?_);obtain rfl:=so hh;refine ⟨_,ψ [3,3,3,3] 4,?_⟩;exact ry
 refine R1 ?_;obtain ⟨u33,hh⟩:=gd hh;refine TC.dw [8,9,10,11,12] (ν 0 z mL z (ν 1 z mL z (ν 2 z (Ba z z) z (ν 3 z fL z (ν 4 z fL z (χ 5 z lL z (χ 6 z lA z (υ 7 z (jc (enc:=fP) [x1] (λlX c119=>(k1 ?_)))))))))));refine Ω 5 (TA.la 8 z z z (apF (.inr ⟨_,0,z⟩) u33 (λCZ CP=> ?_)));refine TZ.w 9 z z z (Ba z z) z z (TZ.w 10 z z z fL z z (TZ.w 11 z z z fL z z (TZ.fr 3 (TZ.la 12 z z z (iH z IX z z z z z ?_)))));refine TZ.done (by kernel_rfl) ?_;obtain rfl:=so hh;refine ⟨_,ψ [1,5,5,3] 4,?_⟩;exact ry
def Tj(x0:Grow):Option (Fst×Int):=
 iteO x0.over (some ((⟨0,([]:List Tip),([]:List Tip),([]:List Arc)⟩:Fst),2)) (iteO (decide (1024<x0.f.states)) (some ((⟨0,([]:List Tip),([]:List Tip),([]:List Arc)⟩:Fst),2)) (some ((⟨x0.f.states,x0.f.starts,x0.f.ends,x0.f.arcs⟩:Fst),0)))
theorem Dh_{σ:aj}{x0:Grow}{x2g:Int}{r:Fst×Int}(hh:Tj x0=some r):
  Jw prog 61 #[loc aZ 0,loc fG 0,loc jJ 0] σ [ω aZ #[.int .i64 x0.f.states,.slice ay x0.f.starts.length au,.slice dh x0.f.ends.length rC,.slice rE x0.f.arcs.length ru,.bool x0.over] kE,ε 79 2 bf (.slice ay x0.f.starts.length au) x0.f.starts,ε 79 2 bf (.slice dh x0.f.ends.length rC) x0.f.ends,ε 49 8 fP (.slice rE x0.f.arcs.length ru) x0.f.arcs,ω fG #[.int .i64 0,aW,aW,aW] wK,ω jJ #[.int .i64 x2g] C_] (λv σ' H'=> ∃nH nD ao4 co5 ao7 co8,v= .tuple #[]/\RS σ' 2 bf (.slice nH r.1.starts.length nD) r.1.starts/\RS σ' 2 bf (.slice ao4 r.1.ends.length co5) r.1.ends/\RS σ' 8 fP (.slice ao7 r.1.arcs.length co8) r.1.arcs/\H'=[ω fG (jB r.1 nH nD ao4 co5 ao7 co8) wK,ω jJ #[.int .i64 r.2] C_]):=by
 dsimp only [Tj]at hh;refine Jw.mk (n:=31) Tryz.func61 z z z (λw0=> ?_);refine TC.RJ (R8 ?_);refine δ 10 z (λfD=> ?_) (λfD=> ?_)
 ·replace hh:=uZ fD hh;refine R15 ?_;refine κ 4 (R2 ?_);refine κ 5 (R2 ?_);refine Θ (ψ [1] 2) (η ?_);obtain rfl:=so hh;refine ⟨_,ψ [1,1] 2,?_⟩;exact rz
 replace hh:=u_ fD hh;refine R8 ?_;refine π z hh (λgZ hh=> ?_) (λgZ hh=> ?_)
 ·refine R6 ?_;refine κ 4 (R2 ?_);refine κ 5 (R2 ?_);refine Θ (ψ [1] 2) (η ?_);obtain rfl:=so hh;refine ⟨_,ψ [1,1] 2,?_⟩;exact rz
 refine R9 ?_;refine κ 4 (R2 ?_);refine κ 5 (φ z (c9_ z X6 z z z z z ?_));refine κ 3 (TL.jO iV (λτ114 pF Hl=> ?_));refine κ 3 (TL.jO iV (λτ117 og uM=> ?_));replace Hl:=Hl.mono og;refine κ 3 (TL.jO IE (λτ120 nZ su=> ?_));replace Hl:=Hl.mono nZ;replace uM:=uM.mono nZ;refine TL.nil ?_;obtain rfl:=so hh;refine ⟨_,ψ [1] 2,?_⟩;exact rz
end Go.Proofs.YtcfgkcfcddfccaaGreatDoor
end

noncomputable section
namespace Go.Proofs.YtcfgkcfcddfccaaGreatDoor
open Go Go.E Go.E.OpVal Go.E.OpOk
theorem ag27:aggOf Tryz.prog 27=some false:=by kernel_rfl
theorem s1_:foOf Tryz.prog 49 4=some 7:=by kernel_rfl
theorem Qb:plainF Tryz.prog 21=true:=by kernel_rfl
theorem pf61:plainF Tryz.prog 61=true:=by kernel_rfl
theorem pf62:plainF Tryz.prog 62=true:=by kernel_rfl
theorem pf63:plainF Tryz.prog 63=true:=by kernel_rfl
theorem pf67:plainF Tryz.prog 67=true:=by kernel_rfl
theorem pf68:plainF Tryz.prog 68=true:=by kernel_rfl
theorem pf69:plainF Tryz.prog 69=true:=by kernel_rfl
theorem pf70:plainF Tryz.prog 70=true:=by kernel_rfl
theorem pf71:plainF Tryz.prog 71=true:=by kernel_rfl
theorem pl49:plOf Tryz.prog 49=some #[(0,1),(1,1),(2,4),(6,1),(7,1)]:=by kernel_rfl
theorem pl79:plOf Tryz.prog 79=some #[(0,1),(1,1)]:=by kernel_rfl
theorem pl93:plOf Tryz.prog 93=some #[(0,4),(4,1)]:=by kernel_rfl
theorem ze27:zeroOf Tryz.prog 27=some (.int .i64 0):=by kernel_rfl
theorem ze93:zeroOf Tryz.prog 93=some (.agg #[.int .i64 0,aW,aW,aW,.bool false]):=by kernel_rfl
def An_(x1:List Tip)(x2:Int)(i138:Int)(bQ:List Tip)(iw:List Tip)(mX:List Arc)(qC:Bool)(f_:Nat):Option ((Int×(List Tip)×(List Tip)×(List Arc)×Bool×Nat)⊕(Grow)):=
 iteO (decide ((f_:Int)<(x1.length:Int))) (bnd (Ci_ (⟨(⟨i138,bQ,iw,mX⟩:Fst),qC⟩:Grow) (⟨IntKind.i64.wrap (((nth x1 f_ aY).state)+x2),(nth x1 f_ aY).out⟩:Tip)) (λv17=>nxt (v17.f.states,v17.f.starts,v17.f.ends,v17.f.arcs,v17.over,(f_+1)))) (fin (some (⟨(⟨i138,bQ,iw,mX⟩:Fst),qC⟩:Grow)))
def B1_(x0:Grow)(x1:List Tip)(x2:Int):Option (Grow):=
 iter (λq:Int×(List Tip)×(List Tip)×(List Arc)×Bool×Nat=>An_ x1 x2 q.1 q.2.1 q.2.2.1 q.2.2.2.1 q.2.2.2.2.1 q.2.2.2.2.2) (x0.f.states,x0.f.starts,x0.f.ends,x0.f.arcs,x0.over,0)
theorem Hv_{σ:aj}{x0:Grow}{x1:List Tip}{x2:Int}(bn:RS σ 2 bf (.slice bY x1.length bW) x1){r:Grow}(hh:B1_ x0 x1 x2=some r):
  Con Tryz.prog 69 #[loc aZ 0,.slice bY x1.length bW,.int .i64 x2] σ [ω aZ #[.int .i64 x0.f.states,.slice ay x0.f.starts.length au,.slice dh x0.f.ends.length rC,.slice rE x0.f.arcs.length ru,.bool x0.over] kE,ε 79 2 bf (.slice ay x0.f.starts.length au) x0.f.starts,ε 79 2 bf (.slice dh x0.f.ends.length rC) x0.f.ends,ε 49 8 fP (.slice rE x0.f.arcs.length ru) x0.f.arcs] (λv σ' H'=> ∃nH nD Ey Em Ew Ej,v= .tuple #[]/\σ=σ'/\H'=[ω aZ #[.int .i64 r.f.states,.slice nH r.f.starts.length nD,.slice Ey r.f.ends.length Em,.slice Ew r.f.arcs.length Ej,.bool r.over] kE,ε 79 2 bf (.slice nH r.f.starts.length nD) r.f.starts,ε 79 2 bf (.slice Ey r.f.ends.length Em) r.f.ends,ε 49 8 fP (.slice Ew r.f.arcs.length Ej) r.f.arcs]):=by
 dsimp only [B1_]at hh;have f1_0b:=bn.rv.big;refine cM 24 Tryz.func69 (λw0=> ?_);refine R7 ?_;refine TC.lp hh (ay,au,dh,rC,rE,ru) (rgs [(7,1),(10,14)]) (λ⟨i138,bQ,iw,mX,qC,f_⟩ ⟨a141,oV,a145,c146,zJ,zG⟩=>([(10,.int .i64 (f_:Int))],[ω aZ #[.int .i64 i138,.slice a141 bQ.length oV,.slice a145 iw.length c146,.slice zJ mX.length zG,.bool qC] kE,ε 79 2 bf (.slice a141 bQ.length oV) bQ,ε 79 2 bf (.slice a145 iw.length c146) iw,ε 49 8 fP (.slice zJ mX.length zG) mX])) (ψ [3,3,3,3] 4) ?_;rintro ⟨i138,bQ,iw,mX,qC,f_⟩ ⟨a141,oV,a145,c146,zJ,zG⟩ _ z1 hh hR1;dsimp only [An_]at hh ⊢;refine ζ 1 z (λIu=> ?_);refine ζ 2 z (λIr=> ?_);refine ζ 3 z (λIq=> ?_);refine R5 ?_;refine π z hh (λOb hh=> ?_) (λOb hh=> ?_)
 ·refine R7 ?_;refine TL.al (λEp=> ?_);refine R11 ?_;refine κ 4 (κ 4 (κ 4 (κ 4 ?_)));obtain ⟨v17,GZ,hh⟩:=bg hh;refine φ z (OpOk.call (Is_ GZ) z z pf62 z z z z ?_);rintro _ _ _ M_ ⟨a159_1,c159_2,a159_3,c159_4,a159_5,c159_6,rfl,rfl,rfl⟩;refine R5 ?_;exact nxq hR1 hh (a159_1,c159_2,a159_3,c159_4,a159_5,c159_6) (ψ [3,3,3,3] 4)
 refine R1 ?_;replace hh:=bJ hR1 hh;refine R1 ?_;obtain rfl:=so hh;exact ry
def A4_(x1:List Tip)(x2:Int)(i138:Int)(bQ:List Tip)(iw:List Tip)(mX:List Arc)(qC:Bool)(f_:Nat):Option ((Int×(List Tip)×(List Tip)×(List Arc)×Bool×Nat)⊕(Grow)):=
 iteO (decide ((f_:Int)<(x1.length:Int))) (bnd (Dn_ (⟨(⟨i138,bQ,iw,mX⟩:Fst),qC⟩:Grow) (⟨IntKind.i64.wrap (((nth x1 f_ aY).state)+x2),(nth x1 f_ aY).out⟩:Tip)) (λv17=>nxt (v17.f.states,v17.f.starts,v17.f.ends,v17.f.arcs,v17.over,(f_+1)))) (fin (some (⟨(⟨i138,bQ,iw,mX⟩:Fst),qC⟩:Grow)))
def C1_(x0:Grow)(x1:List Tip)(x2:Int):Option (Grow):=
 iter (λq:Int×(List Tip)×(List Tip)×(List Arc)×Bool×Nat=>A4_ x1 x2 q.1 q.2.1 q.2.2.1 q.2.2.2.1 q.2.2.2.2.1 q.2.2.2.2.2) (x0.f.states,x0.f.starts,x0.f.ends,x0.f.arcs,x0.over,0)
theorem Jf_{σ:aj}{x0:Grow}{x1:List Tip}{x2:Int}(bn:RS σ 2 bf (.slice bY x1.length bW) x1){r:Grow}(hh:C1_ x0 x1 x2=some r):
  Con Tryz.prog 70 #[loc aZ 0,.slice bY x1.length bW,.int .i64 x2] σ [ω aZ #[.int .i64 x0.f.states,.slice ay x0.f.starts.length au,.slice dh x0.f.ends.length rC,.slice rE x0.f.arcs.length ru,.bool x0.over] kE,ε 79 2 bf (.slice ay x0.f.starts.length au) x0.f.starts,ε 79 2 bf (.slice dh x0.f.ends.length rC) x0.f.ends,ε 49 8 fP (.slice rE x0.f.arcs.length ru) x0.f.arcs] (λv σ' H'=> ∃nH nD Ey Em Ew Ej,v= .tuple #[]/\σ=σ'/\H'=[ω aZ #[.int .i64 r.f.states,.slice nH r.f.starts.length nD,.slice Ey r.f.ends.length Em,.slice Ew r.f.arcs.length Ej,.bool r.over] kE,ε 79 2 bf (.slice nH r.f.starts.length nD) r.f.starts,ε 79 2 bf (.slice Ey r.f.ends.length Em) r.f.ends,ε 49 8 fP (.slice Ew r.f.arcs.length Ej) r.f.arcs]):=by
 dsimp only [C1_]at hh;have f1_0b:=bn.rv.big;refine cM 24 Tryz.func70 (λw0=> ?_);refine R7 ?_;refine TC.lp hh (ay,au,dh,rC,rE,ru) (rgs [(7,1),(10,14)]) (λ⟨i138,bQ,iw,mX,qC,f_⟩ ⟨a141,oV,a145,c146,zJ,zG⟩=>([(10,.int .i64 (f_:Int))],[ω aZ #[.int .i64 i138,.slice a141 bQ.length oV,.slice a145 iw.length c146,.slice zJ mX.length zG,.bool qC] kE,ε 79 2 bf (.slice a141 bQ.length oV) bQ,ε 79 2 bf (.slice a145 iw.length c146) iw,ε 49 8 fP (.slice zJ mX.length zG) mX])) (ψ [3,3,3,3] 4) ?_;rintro ⟨i138,bQ,iw,mX,qC,f_⟩ ⟨a141,oV,a145,c146,zJ,zG⟩ _ z1 hh hR1;dsimp only [A4_]at hh ⊢;refine ζ 1 z (λIu=> ?_);refine ζ 2 z (λIr=> ?_);refine ζ 3 z (λIq=> ?_);refine R5 ?_;refine π z hh (λOb hh=> ?_) (λOb hh=> ?_)
 ·refine R7 ?_;refine TL.al (λEp=> ?_);refine R11 ?_;refine κ 4 (κ 4 (κ 4 (κ 4 ?_)));obtain ⟨v17,GZ,hh⟩:=bg hh;refine φ z (OpOk.call (J3_ GZ) z z pf63 z z z z ?_);rintro _ _ _ M_ ⟨a159_1,c159_2,a159_3,c159_4,a159_5,c159_6,rfl,rfl,rfl⟩;refine R5 ?_;exact nxq hR1 hh (a159_1,c159_2,a159_3,c159_4,a159_5,c159_6) (ψ [3,3,3,3] 4)
 refine R1 ?_;replace hh:=bJ hR1 hh;refine R1 ?_;obtain rfl:=so hh;exact ry
def A3_(x1:List Arc)(x2:Int)(i138:Int)(bQ:List Tip)(iw:List Tip)(mX:List Arc)(qC:Bool)(f_:Nat):Option ((Int×(List Tip)×(List Tip)×(List Arc)×Bool×Nat)⊕(Grow)):=
 iteO (decide ((f_:Int)<(x1.length:Int))) (bnd (D0_ (⟨(⟨i138,bQ,iw,mX⟩:Fst),qC⟩:Grow) (⟨IntKind.i64.wrap (((nth x1 f_ aQ).frm)+x2),IntKind.i64.wrap (((nth x1 f_ aQ).to)+x2),(nth x1 f_ aQ).set,(nth x1 f_ aQ).out,(nth x1 f_ aQ).copy⟩:Arc)) (λv25=>nxt (v25.f.states,v25.f.starts,v25.f.ends,v25.f.arcs,v25.over,(f_+1)))) (fin (some (⟨(⟨i138,bQ,iw,mX⟩:Fst),qC⟩:Grow)))
def C2_(x0:Grow)(x1:List Arc)(x2:Int):Option (Grow):=
 iter (λq:Int×(List Tip)×(List Tip)×(List Arc)×Bool×Nat=>A3_ x1 x2 q.1 q.2.1 q.2.2.1 q.2.2.2.1 q.2.2.2.2.1 q.2.2.2.2.2) (x0.f.states,x0.f.starts,x0.f.ends,x0.f.arcs,x0.over,0)
theorem Jg_{σ:aj}{x0:Grow}{x1:List Arc}{x2:Int}(bn:RS σ 8 fP (.slice bY x1.length bW) x1){r:Grow}(hh:C2_ x0 x1 x2=some r):
  Con Tryz.prog 71 #[loc aZ 0,.slice bY x1.length bW,.int .i64 x2] σ [ω aZ #[.int .i64 x0.f.states,.slice ay x0.f.starts.length au,.slice dh x0.f.ends.length rC,.slice rE x0.f.arcs.length ru,.bool x0.over] kE,ε 79 2 bf (.slice ay x0.f.starts.length au) x0.f.starts,ε 79 2 bf (.slice dh x0.f.ends.length rC) x0.f.ends,ε 49 8 fP (.slice rE x0.f.arcs.length ru) x0.f.arcs] (λv σ' H'=> ∃nH nD Ey Em Ew Ej,v= .tuple #[]/\σ=σ'/\H'=[ω aZ #[.int .i64 r.f.states,.slice nH r.f.starts.length nD,.slice Ey r.f.ends.length Em,.slice Ew r.f.arcs.length Ej,.bool r.over] kE,ε 79 2 bf (.slice nH r.f.starts.length nD) r.f.starts,ε 79 2 bf (.slice Ey r.f.ends.length Em) r.f.ends,ε 49 8 fP (.slice Ew r.f.arcs.length Ej) r.f.arcs]):=by
 dsimp only [C2_]at hh;have f1_0b:=bn.rv.big;refine cM 32 Tryz.func71 (λw0=> ?_);refine R7 ?_;refine TC.lp hh (ay,au,dh,rC,rE,ru) (rgs [(7,1),(10,22)]) (λ⟨i138,bQ,iw,mX,qC,f_⟩ ⟨a141,oV,a145,c146,zJ,zG⟩=>([(10,.int .i64 (f_:Int))],[ω aZ #[.int .i64 i138,.slice a141 bQ.length oV,.slice a145 iw.length c146,.slice zJ mX.length zG,.bool qC] kE,ε 79 2 bf (.slice a141 bQ.length oV) bQ,ε 79 2 bf (.slice a145 iw.length c146) iw,ε 49 8 fP (.slice zJ mX.length zG) mX])) (ψ [3,3,3,3] 4) ?_;rintro ⟨i138,bQ,iw,mX,qC,f_⟩ ⟨a141,oV,a145,c146,zJ,zG⟩ _ z1 hh hR1;dsimp only [A3_]at hh ⊢;refine ζ 1 z (λIu=> ?_);refine ζ 2 z (λIr=> ?_);refine ζ 3 z (λIq=> ?_);refine R5 ?_;refine π z hh (λOb hh=> ?_) (λOb hh=> ?_)
 ·refine R7 ?_;refine TL.al (λEp=> ?_);refine R19 ?_;refine κ 4 (κ 4 (κ 4 (κ 4 ?_)));obtain ⟨v25,u25,hh⟩:=bg hh;refine φ z (OpOk.call (Jy_ u25) z z pf67 z z z z ?_);rintro _ _ _ M_ ⟨a159_1,c159_2,a159_3,c159_4,a159_5,c159_6,rfl,rfl,rfl⟩;refine R5 ?_;exact nxq hR1 hh (a159_1,c159_2,a159_3,c159_4,a159_5,c159_6) (ψ [3,3,3,3] 4)
 refine R1 ?_;replace hh:=bJ hR1 hh;refine R1 ?_;obtain rfl:=so hh;exact ry
def J5_(x0:Fst)(x1:Fst):Option (Bool):=
 bnd (Gp x0) (λv5=>iteO (decide (v5=0)) (bnd (Gp x1) (λv9=>some (decide (v9=0)))) (some false))
theorem Mw_{σ:aj}{x0:Fst}{x1:Fst}(aC:RS σ 2 bf (.slice aB x0.starts.length aA) x0.starts)(aV:RS σ 2 bf (.slice ay x0.ends.length aH) x0.ends)(aS:RS σ 8 fP (.slice aG x0.arcs.length au) x0.arcs)(bn:RS σ 2 bf (.slice bY x1.starts.length bW) x1.starts)(gu:RS σ 2 bf (.slice dV x1.ends.length iR) x1.ends)(fF:RS σ 8 fP (.slice iI x1.arcs.length dU) x1.arcs){r:Bool}(hh:J5_ x0 x1=some r):
  Con Tryz.prog 68 #[.agg (jB x0 aB aA ay aH aG au),.agg (jB x1 bY bW dV iR iI dU)] σ [] (jq (.bool r) σ):=by
 dsimp only [J5_]at hh;refine cM 13 Tryz.func68 (λw0=> ?_);refine R2 ?_;refine TL.bx (λaP=> ?_);refine TL.bx (λbK=> ?_);refine R5 ?_;obtain ⟨v5,u5,hh⟩:=bg hh;refine φ z (gI (Tm (x0:=x0) aC aV aS u5) z z Qb z z z ?_);refine R2 ?_;refine δ 8 z (λdL=> ?_) (λdL=> ?_)
 ·obtain ⟨dL,hh⟩:=iT dL hh;refine TL.g z lA ?_;obtain ⟨v9,u9,hh⟩:=bg hh;refine TL.gon z z z z z (gI (Tm (x0:=x1) bn gu fF u9) z z Qb z z z ?_);refine R4 ?_;refine Ψ 0 ?_;obtain rfl:=so hh;exact rq [4] ⟨z,z,z⟩
 obtain ⟨dL,hh⟩:=iF dL hh;refine R6 ?_;refine Ψ 0 ?_;obtain rfl:=so hh;exact rq [4] ⟨z,z,z⟩
def H1_(x0:Fst)(x1:Fst):Option (Fst×Int):=
 bnd (J5_ x0 x1) (λv7=>iteO (!v7) (some ((⟨0,([]:List Tip),([]:List Tip),([]:List Arc)⟩:Fst),1)) (bnd (B1_ (⟨(⟨IntKind.i64.wrap (x0.states+x1.states),([]:List Tip),([]:List Tip),([]:List Arc)⟩:Fst),false⟩:Grow) x0.starts 0) (λv30=>bnd (B1_ (⟨(⟨v30.f.states,v30.f.starts,v30.f.ends,v30.f.arcs⟩:Fst),v30.over⟩:Grow) x1.starts x0.states) (λv36=>bnd (C1_ (⟨(⟨v36.f.states,v36.f.starts,v36.f.ends,v36.f.arcs⟩:Fst),v36.over⟩:Grow) x0.ends 0) (λv40=>bnd (C1_ (⟨(⟨v40.f.states,v40.f.starts,v40.f.ends,v40.f.arcs⟩:Fst),v40.over⟩:Grow) x1.ends x0.states) (λv46=>bnd (C2_ (⟨(⟨v46.f.states,v46.f.starts,v46.f.ends,v46.f.arcs⟩:Fst),v46.over⟩:Grow) x0.arcs 0) (λv50=>bnd (C2_ (⟨(⟨v50.f.states,v50.f.starts,v50.f.ends,v50.f.arcs⟩:Fst),v50.over⟩:Grow) x1.arcs x0.states) (λv56=>bnd (Tj (⟨(⟨v56.f.states,v56.f.starts,v56.f.ends,v56.f.arcs⟩:Fst),v56.over⟩:Grow)) (λv57=>some ((⟨v57.1.states,v57.1.starts,v57.1.ends,v57.1.arcs⟩:Fst),v57.2))))))))))
def Iu_(σ:aj)(r:Fst×Int):Value->aj->List Res->Prop:=λv σ' H'=>
 ∃a1 c1 a2 c2 a3 c3,v= .tuple #[.agg (jB r.1 a1 c1 a2 c2 a3 c3),.int .i64 r.2]/\RS σ' 2 bf (.slice a1 r.1.starts.length c1) r.1.starts/\RS σ' 2 bf (.slice a2 r.1.ends.length c2) r.1.ends/\RS σ' 8 fP (.slice a3 r.1.arcs.length c3) r.1.arcs/\H'=[]
theorem M4_{σ:aj}{x0:Fst}{x1:Fst}(aC:RS σ 2 bf (.slice aB x0.starts.length aA) x0.starts)(aV:RS σ 2 bf (.slice ay x0.ends.length aH) x0.ends)(aS:RS σ 8 fP (.slice aG x0.arcs.length au) x0.arcs)(bn:RS σ 2 bf (.slice bY x1.starts.length bW) x1.starts)(gu:RS σ 2 bf (.slice dV x1.ends.length iR) x1.ends)(fF:RS σ 8 fP (.slice iI x1.arcs.length dU) x1.arcs){r:Fst×Int}(hh:H1_ x0 x1=some r):
  Con Tryz.prog 24 #[.agg (jB x0 aB aA ay aH aG au),.agg (jB x1 bY bW dV iR iI dU)] σ [] (Iu_ σ r):=by
 dsimp only [H1_]at hh;refine Con.mkD (n:=54) Tryz.func24 z z z (λw0=> ?_);refine TB.seq UW (Ξ (TL.bx (λaP=> ?_)));refine TL.bx (λbK=> ?_);refine TL.al (λiq=> ?_);refine TL.al (λnG=> ?_);refine R1 ?_;refine TB.seq UW (R4 ?_);obtain ⟨v7,u7,hh⟩:=bg hh;refine φ z (gI (Mw_ (x0:=x0) (x1:=x1) aC aV aS bn gu fF u7) z z pf68 z z z ?_);refine R2 ?_;refine TC.cB z hh (λiE hh=> ?_) (λiE hh=> ?_)
 ·refine R3 ?_;refine κ 1 (φ z (storeAll z uh_ z z z z z z ?_));refine κ 1 (R2 ?_);refine Θ (ψ [1] 2) (η ?_);obtain rfl:=so hh;exact rz
 refine R1 ?_;refine TB.seq UW (R2 ?_);refine TL.bx (λb110=> ?_);refine R2 ?_;refine TB.seqD (TLB.v z mL z z (TLB.dfr (dargs:=[loc b110 0,loc iq 0,loc nG 0]) z z z z z (λa_ w_ Vg Xa=> ?_)));refine TB.fin (Q:=dfrQ _ _ _ _ 61 [loc b110 0,loc iq 0,loc nG 0]) (rm_ (cap:=[]) (dargs:=[loc b110 0,loc iq 0,loc nG 0]) pf61) ?_ w_ a_ Vg Xa;clear Vg Xa a_ w_;refine R18 ?_;refine TL.nilS 79 2 bf (TL.nilS 79 2 bf (TL.nilS 49 8 fP (κ 1 (κ 2 (κ 3 ?_)))));obtain ⟨v30,u30,hh⟩:=bg hh;refine φ z (OpOk.call (Hv_ aC u30) z z pf69 z z z z ?_);rintro _ _ _ gY ⟨a115_1,c115_2,a115_3,c115_4,a115_5,c115_6,rfl,rfl,rfl⟩;refine R8 ?_;refine κ 3 (κ 3 (κ 3 (κ 3 ?_)));obtain ⟨v36,u36,hh⟩:=bg hh;refine φ z (OpOk.call (Hv_ bn u36) z z pf69 z z z z ?_);rintro _ _ _ nZ ⟨a119_1,c119_2,a119_3,c119_4,a119_5,c119_6,rfl,rfl,rfl⟩;refine R6 ?_;refine κ 3 (κ 3 (κ 3 (κ 3 ?_)));obtain ⟨v40,u40,hh⟩:=bg hh;refine φ z (OpOk.call (Jf_ aV u40) z z pf70 z z z z ?_);rintro _ _ _ Nb ⟨a123_1,c123_2,a123_3,c123_4,a123_5,c123_6,rfl,rfl,rfl⟩;refine R8 ?_;refine κ 3 (κ 3 (κ 3 (κ 3 ?_)));obtain ⟨v46,u46,hh⟩:=bg hh;refine φ z (OpOk.call (Jf_ gu u46) z z pf70 z z z z ?_);rintro _ _ _ ny ⟨a127_1,c127_2,a127_3,c127_4,a127_5,c127_6,rfl,rfl,rfl⟩;refine R6 ?_;refine κ 3 (κ 3 (κ 3 (κ 3 ?_)));obtain ⟨v50,u50,hh⟩:=bg hh;refine φ z (OpOk.call (Jg_ aS u50) z z pf71 z z z z ?_);rintro _ _ _ hle131 ⟨a131_1,c131_2,a131_3,c131_4,a131_5,c131_6,rfl,rfl,rfl⟩;refine R8 ?_;refine κ 3 (κ 3 (κ 3 (κ 3 ?_)));obtain ⟨v56,u56,hh⟩:=bg hh;refine φ z (OpOk.call (Jg_ fF u56) z z pf71 z z z z ?_);rintro _ _ _ Zj ⟨a135_1,c135_2,a135_3,c135_4,a135_5,c135_6,rfl,rfl,rfl⟩;refine R1 ?_;refine TC.fr 4 (TC.fr 5 (TC.fr 5 (TC.fr 5 (TC.fr 5 (TC.fr 5 ?_)))));obtain ⟨v57,u57,hh⟩:=bg hh;refine η (⟨.inl z,_,θ 6 z,(Dh_ u57).mono ?_⟩);rintro _ τ139 _ vZ ⟨a139_1,c139_2,a139_4,c139_5,a139_7,c139_8,rfl,f139_3,f139_6,f139_9,rfl⟩;obtain rfl:=so hh;exact rz
end Go.Proofs.YtcfgkcfcddfccaaGreatDoor
end

noncomputable section
namespace Go.Proofs.YtcfgkcfcddfccaaGreatDoor
open Go Go.Shelf
def z6_:Go.Shelf.Ren:=⟨fun|6=>188|15=>176|14=>211|28=>206|29=>207|20=>237|21=>238|22=>239|23=>240|24=>241|25=>242|26=>243|27=>244|46=>256|47=>231|48=>232|49=>257|50=>258|57=>265|n=>n,fun|22=>31|24=>3|25=>205|3=>3|39=>181|0=>0|53=>263|55=>45|4=>4|46=>257|45=>256|50=>158|5=>5|9=>9|66=>276|70=>280|76=>293|77=>294|n=>n,fun|n=>n⟩
theorem layI:Go.Proofs.SlLaysF.n6 Tryz.prog z6_:={
  mixed:=by kernel_rfl,
  f6:=⟨Tryz.f188.name,by decide,Tryz.func188.trans (congrArg some (by kernel_rfl))⟩,
  f14:=⟨Tryz.f211.name,by decide,Tryz.func211.trans (congrArg some (by kernel_rfl))⟩,
  f15:=Tryz.func176.trans (congrArg some (by kernel_rfl)),
  f20:=⟨Tryz.f237.name,by decide,Tryz.func237.trans (congrArg some (by kernel_rfl))⟩,
  f21:=⟨Tryz.f238.name,by decide,Tryz.func238.trans (congrArg some (by kernel_rfl))⟩,
  f22:=⟨Tryz.f239.name,by decide,Tryz.func239.trans (congrArg some (by kernel_rfl))⟩,
  f23:=⟨Tryz.f240.name,by decide,Tryz.func240.trans (congrArg some (by kernel_rfl))⟩,
  f24:=⟨Tryz.f241.name,by decide,Tryz.func241.trans (congrArg some (by kernel_rfl))⟩,
  f25:=⟨Tryz.f242.name,by decide,Tryz.func242.trans (congrArg some (by kernel_rfl))⟩,
  f26:=⟨Tryz.f243.name,by decide,Tryz.func243.trans (congrArg some (by kernel_rfl))⟩,
  f27:=⟨Tryz.f244.name,by decide,Tryz.func244.trans (congrArg some (by kernel_rfl))⟩,
  f28:=Tryz.func206.trans (congrArg some (by kernel_rfl)),
  f29:=Tryz.func207.trans (congrArg some (by kernel_rfl)),
  f46:=⟨Tryz.f256.name,by decide,Tryz.func256.trans (congrArg some (by kernel_rfl))⟩,
  f47:=Tryz.func231.trans (congrArg some (by kernel_rfl)),
  f48:=Tryz.func232.trans (congrArg some (by kernel_rfl)),
  f49:=⟨Tryz.f257.name,by decide,Tryz.func257.trans (congrArg some (by kernel_rfl))⟩,
  f50:=⟨Tryz.f258.name,by decide,Tryz.func258.trans (congrArg some (by kernel_rfl))⟩,
  f57:=⟨Tryz.f265.name,by decide,Tryz.func265.trans (congrArg some (by kernel_rfl))⟩,
  t0:=Tryz.underlying0,
  a0:=Tryz.isAgg0,
  z0:=Tryz.sizeOf0,
  v0:=Tryz.zeroValue0,
  t3:=Tryz.underlying3,
  a3:=Tryz.isAgg3,
  z3:=Tryz.sizeOf3,
  v3:=Tryz.zeroValue3,
  t4:=Tryz.underlying4,
  a4:=Tryz.isAgg4,
  z4:=Tryz.sizeOf4,
  v4:=Tryz.zeroValue4,
  t5:=Tryz.underlying5,
  a5:=Tryz.isAgg5,
  z5:=Tryz.sizeOf5,
  v5:=Tryz.zeroValue5,
  t9:=Tryz.underlying9,
  a9:=Tryz.isAgg9,
  z9:=Tryz.sizeOf9,
  v9:=Tryz.zeroValue9,
  t22:=Tryz.underlying31,
  a22:=Tryz.isAgg31,
  z22:=Tryz.sizeOf31,
  v22:=Tryz.zeroValue31,
  a24:=Tryz.isAgg3,
  z24:=Tryz.sizeOf3,
  t25:=Tryz.underlying205,
  a25:=Tryz.isAgg205,
  z25:=Tryz.sizeOf205,
  v25:=Tryz.zeroValue205,
  t39:=Tryz.underlying181,
  a39:=Tryz.isAgg181,
  z39:=Tryz.sizeOf181,
  v39:=Tryz.zeroValue181,
  t45:=Tryz.underlying256,
  a45:=Tryz.isAgg256,
  z45:=Tryz.sizeOf256,
  v45:=Tryz.zeroValue256,
  t46:=Tryz.underlying257,
  a46:=Tryz.isAgg257,
  z46:=Tryz.sizeOf257,
  v46:=Tryz.zeroValue257,
  t50:=Tryz.underlying158,
  a50:=Tryz.isAgg158,
  z50:=Tryz.sizeOf158,
  v50:=Tryz.zeroValue158,
  t53:=Tryz.underlying263,
  a53:=Tryz.isAgg263,
  z53:=Tryz.sizeOf263,
  v53:=Tryz.zeroValue263,
  t55:=Tryz.underlying45,
  a55:=Tryz.isAgg45,
  z55:=Tryz.sizeOf45,
  v55:=Tryz.zeroValue45,
  t66:=Tryz.underlying276,
  a66:=Tryz.isAgg276,
  z66:=Tryz.sizeOf276,
  v66:=Tryz.zeroValue276,
  t70:=Tryz.underlying280,
  a70:=Tryz.isAgg280,
  z70:=Tryz.sizeOf280,
  v70:=Tryz.zeroValue280,
  t76:=Tryz.underlying293,
  a76:=Tryz.isAgg293,
  z76:=Tryz.sizeOf293,
  v76:=Tryz.zeroValue293,
  t77:=Tryz.underlying294,
  a77:=Tryz.isAgg294,
  z77:=Tryz.sizeOf294,
  v77:=Tryz.zeroValue294}
def w5_:Go.Shelf.Ren:=⟨fun|6=>188|15=>176|14=>211|28=>206|29=>207|20=>237|21=>238|22=>239|23=>240|24=>241|25=>242|26=>243|27=>244|46=>256|47=>231|48=>232|49=>257|50=>258|57=>265|n=>n,fun|22=>31|24=>3|25=>205|3=>3|39=>181|0=>0|53=>263|55=>45|4=>4|46=>257|45=>256|50=>158|5=>5|9=>9|66=>276|70=>280|76=>293|77=>294|n=>n,fun|n=>n⟩
theorem layI0:Go.Proofs.SlLaysF0.n6 Tryz.prog w5_:={
  mixed:=by kernel_rfl,
  f6:=⟨Tryz.f188.name,by decide,Tryz.func188.trans (congrArg some (by kernel_rfl))⟩,
  f14:=⟨Tryz.f211.name,by decide,Tryz.func211.trans (congrArg some (by kernel_rfl))⟩,
  f15:=Tryz.func176.trans (congrArg some (by kernel_rfl)),
  f20:=⟨Tryz.f237.name,by decide,Tryz.func237.trans (congrArg some (by kernel_rfl))⟩,
  f21:=⟨Tryz.f238.name,by decide,Tryz.func238.trans (congrArg some (by kernel_rfl))⟩,
  f22:=⟨Tryz.f239.name,by decide,Tryz.func239.trans (congrArg some (by kernel_rfl))⟩,
  f23:=⟨Tryz.f240.name,by decide,Tryz.func240.trans (congrArg some (by kernel_rfl))⟩,
  f24:=⟨Tryz.f241.name,by decide,Tryz.func241.trans (congrArg some (by kernel_rfl))⟩,
  f25:=⟨Tryz.f242.name,by decide,Tryz.func242.trans (congrArg some (by kernel_rfl))⟩,
  f26:=⟨Tryz.f243.name,by decide,Tryz.func243.trans (congrArg some (by kernel_rfl))⟩,
  f27:=⟨Tryz.f244.name,by decide,Tryz.func244.trans (congrArg some (by kernel_rfl))⟩,
  f28:=Tryz.func206.trans (congrArg some (by kernel_rfl)),
  f29:=Tryz.func207.trans (congrArg some (by kernel_rfl)),
  f46:=⟨Tryz.f256.name,by decide,Tryz.func256.trans (congrArg some (by kernel_rfl))⟩,
  f47:=Tryz.func231.trans (congrArg some (by kernel_rfl)),
  f48:=Tryz.func232.trans (congrArg some (by kernel_rfl)),
  f49:=⟨Tryz.f257.name,by decide,Tryz.func257.trans (congrArg some (by kernel_rfl))⟩,
  f50:=⟨Tryz.f258.name,by decide,Tryz.func258.trans (congrArg some (by kernel_rfl))⟩,
  f57:=⟨Tryz.f265.name,by decide,Tryz.func265.trans (congrArg some (by kernel_rfl))⟩,
  t0:=Tryz.underlying0,
  a0:=Tryz.isAgg0,
  z0:=Tryz.sizeOf0,
  v0:=Tryz.zeroValue0,
  t3:=Tryz.underlying3,
  a3:=Tryz.isAgg3,
  z3:=Tryz.sizeOf3,
  v3:=Tryz.zeroValue3,
  t4:=Tryz.underlying4,
  a4:=Tryz.isAgg4,
  z4:=Tryz.sizeOf4,
  v4:=Tryz.zeroValue4,
  t5:=Tryz.underlying5,
  a5:=Tryz.isAgg5,
  z5:=Tryz.sizeOf5,
  v5:=Tryz.zeroValue5,
  t9:=Tryz.underlying9,
  a9:=Tryz.isAgg9,
  z9:=Tryz.sizeOf9,
  v9:=Tryz.zeroValue9,
  t22:=Tryz.underlying31,
  a22:=Tryz.isAgg31,
  z22:=Tryz.sizeOf31,
  v22:=Tryz.zeroValue31,
  t25:=Tryz.underlying205,
  a25:=Tryz.isAgg205,
  z25:=Tryz.sizeOf205,
  v25:=Tryz.zeroValue205,
  t39:=Tryz.underlying181,
  a39:=Tryz.isAgg181,
  z39:=Tryz.sizeOf181,
  v39:=Tryz.zeroValue181,
  t45:=Tryz.underlying256,
  a45:=Tryz.isAgg256,
  z45:=Tryz.sizeOf256,
  v45:=Tryz.zeroValue256,
  t46:=Tryz.underlying257,
  a46:=Tryz.isAgg257,
  z46:=Tryz.sizeOf257,
  v46:=Tryz.zeroValue257,
  t50:=Tryz.underlying158,
  a50:=Tryz.isAgg158,
  z50:=Tryz.sizeOf158,
  v50:=Tryz.zeroValue158,
  t53:=Tryz.underlying263,
  a53:=Tryz.isAgg263,
  z53:=Tryz.sizeOf263,
  v53:=Tryz.zeroValue263,
  t55:=Tryz.underlying45,
  a55:=Tryz.isAgg45,
  z55:=Tryz.sizeOf45,
  v55:=Tryz.zeroValue45,
  t66:=Tryz.underlying276,
  a66:=Tryz.isAgg276,
  z66:=Tryz.sizeOf276,
  v66:=Tryz.zeroValue276,
  t70:=Tryz.underlying280,
  a70:=Tryz.isAgg280,
  z70:=Tryz.sizeOf280,
  v70:=Tryz.zeroValue280,
  t76:=Tryz.underlying293,
  a76:=Tryz.isAgg293,
  z76:=Tryz.sizeOf293,
  v76:=Tryz.zeroValue293,
  t77:=Tryz.underlying294,
  a77:=Tryz.isAgg294,
  z77:=Tryz.sizeOf294,
  v77:=Tryz.zeroValue294}
def y6_:Go.Shelf.Ren:=⟨fun|6=>157|15=>176|14=>192|28=>206|29=>207|20=>212|21=>213|22=>214|23=>215|24=>216|25=>217|26=>218|27=>219|46=>245|47=>231|48=>232|49=>246|50=>247|57=>259|n=>n,fun|22=>22|24=>79|25=>162|3=>3|39=>181|0=>0|53=>263|55=>45|4=>4|46=>257|45=>256|50=>158|5=>5|9=>9|66=>276|70=>280|76=>293|77=>294|n=>n,fun|n=>n⟩
theorem layT0:Go.Proofs.SlLaysF0.n6 Tryz.prog y6_:={
  mixed:=by kernel_rfl,
  f6:=⟨Tryz.f157.name,by decide,Tryz.func157.trans (congrArg some (by kernel_rfl))⟩,
  f14:=⟨Tryz.f192.name,by decide,Tryz.func192.trans (congrArg some (by kernel_rfl))⟩,
  f15:=Tryz.func176.trans (congrArg some (by kernel_rfl)),
  f20:=⟨Tryz.f212.name,by decide,Tryz.func212.trans (congrArg some (by kernel_rfl))⟩,
  f21:=⟨Tryz.f213.name,by decide,Tryz.func213.trans (congrArg some (by kernel_rfl))⟩,
  f22:=⟨Tryz.f214.name,by decide,Tryz.func214.trans (congrArg some (by kernel_rfl))⟩,
  f23:=⟨Tryz.f215.name,by decide,Tryz.func215.trans (congrArg some (by kernel_rfl))⟩,
  f24:=⟨Tryz.f216.name,by decide,Tryz.func216.trans (congrArg some (by kernel_rfl))⟩,
  f25:=⟨Tryz.f217.name,by decide,Tryz.func217.trans (congrArg some (by kernel_rfl))⟩,
  f26:=⟨Tryz.f218.name,by decide,Tryz.func218.trans (congrArg some (by kernel_rfl))⟩,
  f27:=⟨Tryz.f219.name,by decide,Tryz.func219.trans (congrArg some (by kernel_rfl))⟩,
  f28:=Tryz.func206.trans (congrArg some (by kernel_rfl)),
  f29:=Tryz.func207.trans (congrArg some (by kernel_rfl)),
  f46:=⟨Tryz.f245.name,by decide,Tryz.func245.trans (congrArg some (by kernel_rfl))⟩,
  f47:=Tryz.func231.trans (congrArg some (by kernel_rfl)),
  f48:=Tryz.func232.trans (congrArg some (by kernel_rfl)),
  f49:=⟨Tryz.f246.name,by decide,Tryz.func246.trans (congrArg some (by kernel_rfl))⟩,
  f50:=⟨Tryz.f247.name,by decide,Tryz.func247.trans (congrArg some (by kernel_rfl))⟩,
  f57:=⟨Tryz.f259.name,by decide,Tryz.func259.trans (congrArg some (by kernel_rfl))⟩,
  t0:=Tryz.underlying0,
  a0:=Tryz.isAgg0,
  z0:=Tryz.sizeOf0,
  v0:=Tryz.zeroValue0,
  t3:=Tryz.underlying3,
  a3:=Tryz.isAgg3,
  z3:=Tryz.sizeOf3,
  v3:=Tryz.zeroValue3,
  t4:=Tryz.underlying4,
  a4:=Tryz.isAgg4,
  z4:=Tryz.sizeOf4,
  v4:=Tryz.zeroValue4,
  t5:=Tryz.underlying5,
  a5:=Tryz.isAgg5,
  z5:=Tryz.sizeOf5,
  v5:=Tryz.zeroValue5,
  t9:=Tryz.underlying9,
  a9:=Tryz.isAgg9,
  z9:=Tryz.sizeOf9,
  v9:=Tryz.zeroValue9,
  t22:=Tryz.underlying22,
  a22:=Tryz.isAgg22,
  z22:=Tryz.sizeOf22,
  v22:=Tryz.zeroValue22,
  t25:=Tryz.underlying162,
  a25:=Tryz.isAgg162,
  z25:=Tryz.sizeOf162,
  v25:=Tryz.zeroValue162,
  t39:=Tryz.underlying181,
  a39:=Tryz.isAgg181,
  z39:=Tryz.sizeOf181,
  v39:=Tryz.zeroValue181,
  t45:=Tryz.underlying256,
  a45:=Tryz.isAgg256,
  z45:=Tryz.sizeOf256,
  v45:=Tryz.zeroValue256,
  t46:=Tryz.underlying257,
  a46:=Tryz.isAgg257,
  z46:=Tryz.sizeOf257,
  v46:=Tryz.zeroValue257,
  t50:=Tryz.underlying158,
  a50:=Tryz.isAgg158,
  z50:=Tryz.sizeOf158,
  v50:=Tryz.zeroValue158,
  t53:=Tryz.underlying263,
  a53:=Tryz.isAgg263,
  z53:=Tryz.sizeOf263,
  v53:=Tryz.zeroValue263,
  t55:=Tryz.underlying45,
  a55:=Tryz.isAgg45,
  z55:=Tryz.sizeOf45,
  v55:=Tryz.zeroValue45,
  t66:=Tryz.underlying276,
  a66:=Tryz.isAgg276,
  z66:=Tryz.sizeOf276,
  v66:=Tryz.zeroValue276,
  t70:=Tryz.underlying280,
  a70:=Tryz.isAgg280,
  z70:=Tryz.sizeOf280,
  v70:=Tryz.zeroValue280,
  t76:=Tryz.underlying293,
  a76:=Tryz.isAgg293,
  z76:=Tryz.sizeOf293,
  v76:=Tryz.zeroValue293,
  t77:=Tryz.underlying294,
  a77:=Tryz.isAgg294,
  z77:=Tryz.sizeOf294,
  v77:=Tryz.zeroValue294}
def y4_:Go.Shelf.Ren:=⟨fun|6=>162|15=>176|14=>194|28=>206|29=>207|20=>221|21=>222|22=>223|23=>224|24=>225|25=>226|26=>227|27=>228|46=>248|47=>231|48=>232|49=>249|50=>250|57=>260|n=>n,fun|22=>23|24=>49|25=>164|3=>3|39=>181|0=>0|53=>263|55=>45|4=>4|46=>257|45=>256|50=>158|5=>5|9=>9|66=>276|70=>280|76=>293|77=>294|n=>n,fun|n=>n⟩
theorem layA0:Go.Proofs.SlLaysF0.n6 Tryz.prog y4_:={
  mixed:=by kernel_rfl,
  f6:=⟨Tryz.f162.name,by decide,Tryz.func162.trans (congrArg some (by kernel_rfl))⟩,
  f14:=⟨Tryz.f194.name,by decide,Tryz.func194.trans (congrArg some (by kernel_rfl))⟩,
  f15:=Tryz.func176.trans (congrArg some (by kernel_rfl)),
  f20:=⟨Tryz.f221.name,by decide,Tryz.func221.trans (congrArg some (by kernel_rfl))⟩,
  f21:=⟨Tryz.f222.name,by decide,Tryz.func222.trans (congrArg some (by kernel_rfl))⟩,
  f22:=⟨Tryz.f223.name,by decide,Tryz.func223.trans (congrArg some (by kernel_rfl))⟩,
  f23:=⟨Tryz.f224.name,by decide,Tryz.func224.trans (congrArg some (by kernel_rfl))⟩,
  f24:=⟨Tryz.f225.name,by decide,Tryz.func225.trans (congrArg some (by kernel_rfl))⟩,
  f25:=⟨Tryz.f226.name,by decide,Tryz.func226.trans (congrArg some (by kernel_rfl))⟩,
  f26:=⟨Tryz.f227.name,by decide,Tryz.func227.trans (congrArg some (by kernel_rfl))⟩,
  f27:=⟨Tryz.f228.name,by decide,Tryz.func228.trans (congrArg some (by kernel_rfl))⟩,
  f28:=Tryz.func206.trans (congrArg some (by kernel_rfl)),
  f29:=Tryz.func207.trans (congrArg some (by kernel_rfl)),
  f46:=⟨Tryz.f248.name,by decide,Tryz.func248.trans (congrArg some (by kernel_rfl))⟩,
  f47:=Tryz.func231.trans (congrArg some (by kernel_rfl)),
  f48:=Tryz.func232.trans (congrArg some (by kernel_rfl)),
  f49:=⟨Tryz.f249.name,by decide,Tryz.func249.trans (congrArg some (by kernel_rfl))⟩,
  f50:=⟨Tryz.f250.name,by decide,Tryz.func250.trans (congrArg some (by kernel_rfl))⟩,
  f57:=⟨Tryz.f260.name,by decide,Tryz.func260.trans (congrArg some (by kernel_rfl))⟩,
  t0:=Tryz.underlying0,
  a0:=Tryz.isAgg0,
  z0:=Tryz.sizeOf0,
  v0:=Tryz.zeroValue0,
  t3:=Tryz.underlying3,
  a3:=Tryz.isAgg3,
  z3:=Tryz.sizeOf3,
  v3:=Tryz.zeroValue3,
  t4:=Tryz.underlying4,
  a4:=Tryz.isAgg4,
  z4:=Tryz.sizeOf4,
  v4:=Tryz.zeroValue4,
  t5:=Tryz.underlying5,
  a5:=Tryz.isAgg5,
  z5:=Tryz.sizeOf5,
  v5:=Tryz.zeroValue5,
  t9:=Tryz.underlying9,
  a9:=Tryz.isAgg9,
  z9:=Tryz.sizeOf9,
  v9:=Tryz.zeroValue9,
  t22:=Tryz.underlying23,
  a22:=Tryz.isAgg23,
  z22:=Tryz.sizeOf23,
  v22:=Tryz.zeroValue23,
  t25:=Tryz.underlying164,
  a25:=Tryz.isAgg164,
  z25:=Tryz.sizeOf164,
  v25:=Tryz.zeroValue164,
  t39:=Tryz.underlying181,
  a39:=Tryz.isAgg181,
  z39:=Tryz.sizeOf181,
  v39:=Tryz.zeroValue181,
  t45:=Tryz.underlying256,
  a45:=Tryz.isAgg256,
  z45:=Tryz.sizeOf256,
  v45:=Tryz.zeroValue256,
  t46:=Tryz.underlying257,
  a46:=Tryz.isAgg257,
  z46:=Tryz.sizeOf257,
  v46:=Tryz.zeroValue257,
  t50:=Tryz.underlying158,
  a50:=Tryz.isAgg158,
  z50:=Tryz.sizeOf158,
  v50:=Tryz.zeroValue158,
  t53:=Tryz.underlying263,
  a53:=Tryz.isAgg263,
  z53:=Tryz.sizeOf263,
  v53:=Tryz.zeroValue263,
  t55:=Tryz.underlying45,
  a55:=Tryz.isAgg45,
  z55:=Tryz.sizeOf45,
  v55:=Tryz.zeroValue45,
  t66:=Tryz.underlying276,
  a66:=Tryz.isAgg276,
  z66:=Tryz.sizeOf276,
  v66:=Tryz.zeroValue276,
  t70:=Tryz.underlying280,
  a70:=Tryz.isAgg280,
  z70:=Tryz.sizeOf280,
  v70:=Tryz.zeroValue280,
  t76:=Tryz.underlying293,
  a76:=Tryz.isAgg293,
  z76:=Tryz.sizeOf293,
  v76:=Tryz.zeroValue293,
  t77:=Tryz.underlying294,
  a77:=Tryz.isAgg294,
  z77:=Tryz.sizeOf294,
  v77:=Tryz.zeroValue294}
end Go.Proofs.YtcfgkcfcddfccaaGreatDoor
end

noncomputable section
namespace Go.Proofs.YtcfgkcfcddfccaaGreatDoor
open Go Go.E Go.E.OpVal Go.E.OpOk Go.Proofs.Tryz
open List (replicate)
theorem wv_:plainF Tryz.prog 143=true:=by kernel_rfl
theorem K_:plainF Tryz.prog 159=true:=by kernel_rfl
theorem Us:plainF Tryz.prog 160=true:=by kernel_rfl
theorem pf164:plainF Tryz.prog 164=true:=by kernel_rfl
theorem Ur:plainF Tryz.prog 165=true:=by kernel_rfl
theorem pf193:plainF Tryz.prog 193=true:=by kernel_rfl
theorem pf195:plainF Tryz.prog 195=true:=by kernel_rfl
theorem Uj:plainF Tryz.prog 229=true:=by kernel_rfl
def A8_(x0:T_1)(x1:T_1):Option (Int):=
 some (Lib.compareBytes x0 x1)
theorem Fi_{σ:aj}{x0:T_1}{x1:T_1}{r:Int}(hh:A8_ x0 x1=some r):
  Con prog 193 #[.string (bs x0),.string (bs x1)] σ [] (jq (.int .i64 r) σ):=by
 dsimp only [A8_]at hh;refine cM 8 Tryz.func193 (λw0=> ?_);refine R8 ?_;refine ι z (cmpStr z z Tryz.func220 (by kernel_rfl) (by kernel_rfl) (by kernel_rfl) (by kernel_rfl) z z) (R2 ?_);refine η ?_;obtain rfl:=so hh;exact rq [4] ⟨z,z,z⟩
def C5_(x0:T_1)(x1:T_1):Option (Int):=
 bnd (A8_ x0 x1) (λv4=>some v4)
theorem Hu_{σ:aj}{x0:T_1}{x1:T_1}{r:Int}(hh:C5_ x0 x1=some r):
  Con prog 160 #[.string (bs x0),.string (bs x1)] σ [] (jq (.int .i64 r) σ):=by
 dsimp only [C5_]at hh;refine cM 8 Tryz.func160 (λw0=> ?_);refine R8 ?_;obtain ⟨v4,u4,hh⟩:=bg hh;refine φ z (gI (Fi_ u4) z z pf193 z z z ?_);refine R2 ?_;refine η ?_;obtain rfl:=so hh;exact rq [4] ⟨z,z,z⟩
def si_(x0:Nat):Option (Bool):=
 some (decide (x0≠x0))
theorem p7_{σ:aj}{x0:Nat}{r:Bool}(hh:si_ x0=some r):
  Con prog 229 #[.int .u64 (x0:Int)] σ [] (jq (.bool r) σ):=by
 dsimp only [si_]at hh;refine cM 6 Tryz.func229 (λw0=> ?_);refine R8 ?_;refine ι z (neqU z z z) (R2 ?_);refine η ?_;obtain rfl:=so hh;exact rq [2] ⟨z,z,z⟩
def lq_(x0:Nat)(x1:Nat):Option (Int):=
 bnd (si_ x0) (λv3=>bnd (si_ x1) (λv6=>iteO v3 (iteO v6 (some 0) (some (-1))) (iteO v6 (some 1) (iteO (decide (x0<x1)) (some (-1)) (iteO (decide (x1<x0)) (some 1) (some 0))))))
theorem sm_{σ:aj}{x0:Nat}{x1:Nat}{r:Int}(hh:lq_ x0 x1=some r):
  Con prog 195 #[.int .u64 (x0:Int),.int .u64 (x1:Int)] σ [] (jq (.int .i64 r) σ):=by
 dsimp only [lq_]at hh;refine cM 20 Tryz.func195 (λw0=> ?_);refine R7 ?_;obtain ⟨v3,u3,hh⟩:=bg hh;refine φ z (gI (p7_ u3) z z Uj z z z ?_);refine R5 ?_;obtain ⟨v6,u6,hh⟩:=bg hh;refine φ z (gI (p7_ u6) z z Uj z z z ?_);refine R7 ?_;refine TC.cB z hh (λgW hh=> ?_) (λgW hh=> ?_)
 ·refine R5 ?_;refine TC.cB z hh (λwC hh=> ?_) (λwC hh=> ?_)
  ·refine R4 ?_;refine η ?_;obtain rfl:=so hh;exact rq [4] ⟨z,z,z⟩
  refine R5 ?_;refine η ?_;obtain rfl:=so hh;exact rq [4] ⟨z,z,z⟩
 refine R6 ?_;refine TC.cB z hh (λnC hh=> ?_) (λnC hh=> ?_)
 ·refine R4 ?_;refine η ?_;obtain rfl:=so hh;exact rq [4] ⟨z,z,z⟩
 refine R6 ?_;refine ι z (lssU z z z) (R1 ?_);refine π z hh (λgV hh=> ?_) (λgV hh=> ?_)
 ·refine R4 ?_;refine η ?_;obtain rfl:=so hh;exact rq [4] ⟨z,z,z⟩
 refine R6 ?_;refine ι z (gtrU z z z) (R1 ?_);refine π z hh (λdL hh=> ?_) (λdL hh=> ?_)
 ·refine R4 ?_;refine η ?_;obtain rfl:=so hh;exact rq [4] ⟨z,z,z⟩
 refine R5 ?_;refine η ?_;obtain rfl:=so hh;exact rq [4] ⟨z,z,z⟩
def G6_(x0:Bool):Option (Int):=
 iteO x0 (some 1) (some 0)
theorem Kp_{σ:aj}{x0:Bool}{r:Int}(hh:G6_ x0=some r):
  Con prog 165 #[.bool x0] σ [] (jq (.int .i64 r) σ):=by
 dsimp only [G6_]at hh;refine cM 4 Tryz.func165 (λw0=> ?_);refine R9 ?_;refine TC.cB z hh (λgW hh=> ?_) (λgW hh=> ?_)
 ·refine R4 ?_;refine η ?_;obtain rfl:=so hh;exact rq [2] ⟨z,z,z⟩
 refine R5 ?_;refine η ?_;obtain rfl:=so hh;exact rq [2] ⟨z,z,z⟩
def Gu_(x0:ah)(kD:Nat):Option ((Nat)⊕(Int)):=
 iteO (decide ((kD:Int)<(x0.length:Int))) (iteO (decide ((nth x0 kD 0)≠0)) (fin (some (nth x0 kD 0))) (nxt (kD+1))) (fin (some 0))
def Jw_(x0:ah):Option (Int):=
 iter (λq:Nat=>Gu_ x0 q) 0
theorem K0_{σ:aj}{x0:ah}(aC:dH σ ak aB aA x0){r:Int}(hh:Jw_ x0=some r):
  Con prog 159 #[.slice aB x0.length aA] σ [] (jq (.int .i64 r) σ):=by
 dsimp only [Jw_]at hh;have f0_0b:=aC.rv.big;refine cM 18 Tryz.func159 (λw0=> ?_);refine R16 ?_;refine TC.lp hh () (rgs [(2,1),(5,1),(8,9)]) (λkD _=>([(8,.int .i64 (kD:Int))],[])) (θ 0 z) ?_;rintro kD _ _ z1 hh hR1;dsimp only [Gu_]at hh ⊢;refine R5 ?_;refine π z hh (λgV hh=> ?_) (λgV hh=> ?_)
 ·refine R15 ?_;refine π z hh (λdL hh=> ?_) (λdL hh=> ?_)
  ·refine R5 ?_;refine η ?_;replace hh:=bJ hR1 hh;obtain rfl:=so hh;exact rq [2] ⟨z,z,z⟩
  refine R5 ?_;exact nxq hR1 hh () (θ 0 z)
 refine R1 ?_;replace hh:=bJ hR1 hh;refine R6 ?_;refine η ?_;obtain rfl:=so hh;exact rq [2] ⟨z,z,z⟩
def Em_(x0:Tip)(x1:Tip):Option (Int):=
 bnd (Tf x0.state x1.state) (λv8=>bnd (C5_ x0.out x1.out) (λv13=>bnd (Jw_ [v8,v13]) (λv15=>some v15)))
theorem K8_{σ:aj}{x0:Tip}{x1:Tip}{r:Int}(hh:Em_ x0 x1=some r):
  Con prog 100 #[.agg #[.int .i64 x0.state,.string (bs x0.out)],.agg #[.int .i64 x1.state,.string (bs x1.out)]] σ [] (jq (.int .i64 r) σ):=by
 dsimp only [Em_]at hh;refine cM 17 Tryz.func100 (λw0=> ?_);refine R2 ?_;refine TL.bx (λaP=> ?_);refine TL.bx (λbK=> ?_);refine R3 ?_;obtain ⟨v8,u8,hh⟩:=bg hh;obtain ⟨v13,u13,hh⟩:=bg hh;obtain ⟨v15,u15,hh⟩:=bg hh;refine TC.dw [] (ν 0 z fL z (χ 1 z lL z (ν 2 z fL z (χ 3 z lL z (ν 5 z fL z (χ 6 z lL z (ν 7 z fL z (χ 8 z lL z (υ 4 z (gI (B4_ u8) z z wv_ z z z (k0 ?_)))))))))));refine υ 9 z (gI (Hu_ u13) z z Us z z z (k0 ?_));refine υ 10 z (jc (enc:=ak) [v8,v13] (λJu Jg=>(k1 ?_)));refine υ 11 z (OQ (Con.lend aT (λ_ tV yS=>K0_ yS u15)) z z K_ z z z z (k1 ?_));refine ν 12 z mI z (R1 ?_);refine Ψ 0 ?_;obtain rfl:=so hh;exact rq [4] ⟨z,z,z⟩
def Oo(x0:List Nat)(x1:List Nat)(kD:Nat):Option ((Nat)⊕(Int)):=
 iteO (decide ((kD:Int)<(x0.length:Int))) (iteO (decide ((x1.length:Int)<=(kD:Int))) (fin (some 1)) (grd (kD<x1.length) (bnd (lq_ (nth x0 kD (0:Nat)) (nth x1 kD (0:Nat))) (λv23=>iteO (decide (v23≠0)) (fin (some v23)) (nxt (kD+1)))))) (fin (iteO (decide ((x0.length:Int)<(x1.length:Int))) (some (-1)) (some 0)))
def k0_(x0:List Nat)(x1:List Nat):Option (Int):=
 iter (λq:Nat=>Oo x0 x1 q) 0
theorem rt_{σ:aj}{x0:List Nat}{x1:List Nat}(aC:dH σ encW aB aA x0)(bn:dH σ encW bY bW x1){r:Int}(hh:k0_ x0 x1=some r):
  Con prog 164 #[.slice aB x0.length aA,.slice bY x1.length bW] σ [] (jq (.int .i64 r) σ):=by
 dsimp only [k0_]at hh;have f1_0b:=bn.rv.big;refine cM 36 Tryz.func164 (λw0=> ?_);refine R12 ?_;refine TC.lp hh () (rgs [(4,5),(11,20)]) (λkD _=>([(11,.int .i64 (kD:Int))],[])) (θ 0 z) ?_;rintro kD _ _ z1 hh hR1;dsimp only [Oo]at hh ⊢;refine R5 ?_;refine π z hh (λgV hh=> ?_) (λgV hh=> ?_)
 ·refine R19 ?_;refine π z hh (λdL hh=> ?_) (λdL hh=> ?_)
  ·refine R4 ?_;refine η ?_;replace hh:=bJ hR1 hh;obtain rfl:=so hh;exact rq [4] ⟨z,z,z⟩
  refine R5 ?_;obtain ⟨TV,hh⟩:=gd hh;refine R8 ?_;obtain ⟨v23,u23,hh⟩:=bg hh;refine φ z (gI (sm_ u23) z z pf195 z z z ?_);refine R7 ?_;refine π z hh (λfM hh=> ?_) (λfM hh=> ?_)
  ·refine R5 ?_;refine η ?_;replace hh:=bJ hR1 hh;obtain rfl:=so hh;exact rq [4] ⟨z,z,z⟩
  refine R5 ?_;exact nxq hR1 hh () (θ 0 z)
 refine R1 ?_;replace hh:=bJ hR1 hh;refine R10 ?_;refine π z hh (λiG hh=> ?_) (λiG hh=> ?_)
 ·refine R4 ?_;refine η ?_;obtain rfl:=so hh;exact rq [4] ⟨z,z,z⟩
 refine R5 ?_;refine η ?_;obtain rfl:=so hh;exact rq [4] ⟨z,z,z⟩
def En_(x0:Arc)(x1:Arc):Option (Int):=
 bnd (Tf x0.frm x1.frm) (λv8=>bnd (Tf x0.to x1.to) (λv13=>bnd (k0_ [x0.set.a,x0.set.b,x0.set.c,x0.set.d] [x1.set.a,x1.set.b,x1.set.c,x1.set.d]) (λv18=>bnd (C5_ x0.out x1.out) (λv23=>bnd (G6_ x0.copy) (λv26=>bnd (G6_ x1.copy) (λv29=>bnd (Tf v26 v29) (λv30=>bnd (Jw_ [v8,v13,v18,v23,v30]) (λv32=>some v32))))))))
theorem K7_{σ:aj}{x0:Arc}{x1:Arc}{r:Int}(hh:En_ x0 x1=some r):
  Con prog 102 #[.agg #[.int .i64 x0.frm,.int .i64 x0.to,.int .u64 (x0.set.a:Int),.int .u64 (x0.set.b:Int),.int .u64 (x0.set.c:Int),.int .u64 (x0.set.d:Int),.string (bs x0.out),.bool x0.copy],.agg #[.int .i64 x1.frm,.int .i64 x1.to,.int .u64 (x1.set.a:Int),.int .u64 (x1.set.b:Int),.int .u64 (x1.set.c:Int),.int .u64 (x1.set.d:Int),.string (bs x1.out),.bool x1.copy]] σ [] (jq (.int .i64 r) σ):=by
 dsimp only [En_]at hh;refine cM 34 Tryz.func102 (λw0=> ?_);refine R2 ?_;refine TL.bx (λaP=> ?_);refine TL.bx (λbK=> ?_);refine R3 ?_;obtain ⟨v8,u8,hh⟩:=bg hh;obtain ⟨v13,u13,hh⟩:=bg hh;obtain ⟨v18,TV,hh⟩:=bg hh;obtain ⟨v23,u23,hh⟩:=bg hh;obtain ⟨v26,u26,hh⟩:=bg hh;obtain ⟨v29,u29,hh⟩:=bg hh;obtain ⟨v30,u30,hh⟩:=bg hh;obtain ⟨v32,u32,hh⟩:=bg hh;refine TC.dw [] (ν 0 z fL z (χ 1 z lL z (ν 2 z fL z (χ 3 z lL z (ν 5 z fL z (χ 6 z lL z (ν 7 z fL z (χ 8 z lL z (ν 10 z fL z (χ 11 z (co_ z KE Bh z) z (ν 12 z fL z (χ 13 z (co_ z KE Bh z) z (ν 15 z fL z (χ 16 z lL z (ν 17 z fL z ?_)))))))))))))));refine χ 18 z lL z (ν 20 z fL z (χ 21 z lL z (ν 23 z fL z (χ 24 z lL z (υ 4 z (gI (B4_ u8) z z wv_ z z z (k0 ?_)))))));refine υ 9 z (gI (B4_ u13) z z wv_ z z z (k0 ?_));refine Ω 1 (υ 14 z (OQ (Con.lendC (λ_ og D8=>Con.lendC (λ_ jF uM=>rt_ (RS.dd_ (l:=[x0.set.a,x0.set.b,x0.set.c,x0.set.d]) (jF _ _ D8) uj_ u7_ z z z) (RS.dd_ (l:=[x1.set.a,x1.set.b,x1.set.c,x1.set.d]) uM uj_ u7_ z z z) TV))) z z pf164 z z z z ⟨(λw h=>qj (aj.le.refl _) (λr hr=>oU [1,0] z hr) w h),?_⟩));refine υ 19 z (gI (Hu_ u23) z z Us z z z ⟨(λw h=>qj (aj.le.refl _) (λr hr=>oU [1,0] z hr) w h),?_⟩);refine υ 22 z (gI (Kp_ u26) z z Ur z z z ⟨(λw h=>qj (aj.le.refl _) (λr hr=>oU [1,0] z hr) w h),?_⟩);refine υ 25 z (gI (Kp_ u29) z z Ur z z z ⟨(λw h=>qj (aj.le.refl _) (λr hr=>oU [1,0] z hr) w h),?_⟩);refine υ 26 z (gI (B4_ u30) z z wv_ z z z ⟨(λw h=>qj (aj.le.refl _) (λr hr=>oU [1,0] z hr) w h),?_⟩);refine υ 27 z (jc (enc:=ak) [v8,v13,v18,v23,v30] (λlX c119=>⟨(λw h=>qj (aj.le.refl _) (λr hr=>oU [2,1] z hr) w h),?_⟩));refine υ 28 z (OQ (Con.lend aT (λ_ kJ D7=>K0_ D7 u32)) z z K_ z z z z ⟨(λw h=>qj (aj.le.refl _) (λr hr=>oU [2,1] z hr) w h),?_⟩);refine ν 29 z mI z (R1 ?_);refine Ψ 0 ?_;obtain rfl:=so hh;exact rq [4] ⟨z,z,z⟩
end Go.Proofs.YtcfgkcfcddfccaaGreatDoor
end
