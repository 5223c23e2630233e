/- Parts of a proof, one behind the other: what a machine reaches, functions decompiled, plain lemmas. Conditions stand with each lemma. -/
import Derived.Test.YtcfgkcfcddfccaaGreatDoorB147a8df593
import Derived.Test.YtcfgkcfcddfccaaGreatDoorBb70fbe2253
import Derived.ProofKit
import Derived.SizedLaws
import Derived.Below

set_option linter.unusedVariables false
set_option linter.unusedSimpArgs false
set_option linter.unusedSectionVars false
set_option maxRecDepth 100000
set_option maxHeartbeats 8000000
variable {aB ay aG bY dV Pm Pj lD O5:Option Go.Addr}{wK C_ EO fG jJ kM aA aH au bW dU OL OH lu Oy:Nat}

noncomputable section
namespace Go.Proofs.YtcfgkcfcddfccaaGreatDoor
open Go Go.E Go.Sort
structure GoodCmp {α:Type} (c:α->α->Int):Prop where
  eq: ∀x y,c x y=0↔x=y
  anti: ∀x y,c x y<0↔0<c y x
  trans: ∀x y z,c x y<0->c y z<0->c x z<0
theorem GoodCmp.total{α:Type}{c:α->α->Int}(h:GoodCmp c):TotalCmp c where
  swo := {
    irrefl:=λx=>by have:=(h.eq x x).2 rfl;simp [ltOf,this]
    trans:=λx y z h1 h2=>by
      simp only [ltOf,iL]at *;exact h.trans x y z h1 h2
    ntrans:=λx y z h1 h2=>by
      simp only [ltOf,decide_eq_false_iff_not]at *;intro h3
      by_cases e1:x=y
      · subst e1;exact h2 h3
      by_cases e2:y=z
      · subst e2;exact h1 h3
      have n1:c x y≠0:=λe=>e1 ((h.eq _ _).1 e);have n2:c y z≠0:=λe=>e2 ((h.eq _ _).1 e);have h4:c z y<0:=(h.anti _ _).2 (by omega);exact h1 (h.trans _ _ _ h3 h4)}
  tot:=λx y h1 h2=>by
    simp only [ltOf,decide_eq_false_iff_not]at *;refine (h.eq x y).1 ?_;have:=(h.anti y x);omega
def sV(a b:Int):Int:=if a≠0 then a else b
theorem GoodCmp.lex {α β γ : Type} {c : β -> β -> Int} {d : γ -> γ -> Int} (hc : GoodCmp c) (hd : GoodCmp d) (f : α -> β) (g : α -> γ) (hfg : ∀ x y, f x = f y -> g x = g y -> x = y) : GoodCmp λx y => sV (c (f x) (f y)) (d (g x) (g y)) where
  eq x y:=by
    unfold sV
    by_cases h:c (f x) (f y)=0
    · have hf:=(hc.eq _ _).1 h
      simp only [h,ne_eq,not_true_eq_false,if_false,hd.eq];exact ⟨λhg=>hfg x y hf hg,λe=>by rw [e]⟩
    simp only [ne_eq,h,not_false_eq_true,if_true,false_iff];intro e;subst e;exact h ((hc.eq _ _).2 rfl)
  anti x y:=by
    unfold sV;have h1:=hc.anti (f x) (f y);have h2:=hc.anti (f y) (f x);have h3:=hd.anti (g x) (g y)
    by_cases h:c (f x) (f y)=0
    · have hf:=(hc.eq _ _).1 h
      have h':c (f y) (f x)=0:=(hc.eq _ _).2 hf.symm;simp only [h,h',ne_eq,not_true_eq_false,if_false];exact h3
    have h':c (f y) (f x)≠0:=λe=>h ((hc.eq _ _).2 ((hc.eq _ _).1 e).symm);simp only [h,h',ne_eq,not_false_eq_true,if_true];exact h1
  trans x y z := by
    unfold sV;intro h1 h2
    by_cases a:c (f x) (f y)=0
    · have ea:=(hc.eq _ _).1 a
      rw [a]at h1;simp only [ne_eq,not_true_eq_false,if_false]at h1;rw [ea]
      by_cases b:c (f y) (f z)=0
      · rw [b]at h2 ⊢
        simp only [ne_eq,not_true_eq_false,if_false]at h2 ⊢;exact hd.trans _ _ _ h1 h2
      simp only [ne_eq,b,not_false_eq_true,if_true]at h2 ⊢;exact h2
    simp only [ne_eq,a,not_false_eq_true,if_true]at h1
    by_cases b:c (f y) (f z)=0
    · have eb:=(hc.eq _ _).1 b
      rw [<-eb];simp only [ne_eq,a,not_false_eq_true,if_true];exact h1
    simp only [ne_eq,b,not_false_eq_true,if_true]at h2;have h3:=hc.trans _ _ _ h1 h2;have h4:c (f x) (f z)≠0:=by omega
    simp only [ne_eq,h4,not_false_eq_true,if_true];exact h3
def qg(x y:Int):Int:=if x<y then -1 else if y<x then 1 else 0
theorem Vh:GoodCmp qg where
  eq x y:=by unfold qg;(repeat' split)<;>omega
  anti x y:=by unfold qg;(repeat' split)<;>omega
  trans x y z:=by unfold qg;(repeat' split)<;>omega
def zK(x y:Nat):Int:=if x<y then -1 else if y<x then 1 else 0
theorem lh_:GoodCmp zK where
  eq x y:=by unfold zK;(repeat' split)<;>omega
  anti x y:=by unfold zK;(repeat' split)<;>omega
  trans x y z:=by unfold zK;(repeat' split)<;>omega
theorem xe_: ∀a b:T_1,Lib.compareBytes a b=0↔a=b
  |[],[]=>by simp [Lib.compareBytes]
  |[],_::_=>by simp [Lib.compareBytes]
  |_::_,[]=>by simp [Lib.compareBytes]
  |x::a,y::b=>by
    simp only [Lib.compareBytes]
    split
    · rename_i h;simp;intro e;subst e;exact absurd h (UInt8.lt_irrefl _)
    rename_i h
    split
    · rename_i h';simp;intro e;subst e;exact absurd h' (UInt8.lt_irrefl _)
    rename_i h'
    have:x=y:=UInt8.le_antisymm (UInt8.not_lt.1 h') (UInt8.not_lt.1 h);subst this;simp [xe_ a b]
theorem sl_: ∀a b:T_1,Lib.compareBytes a b<0↔0<Lib.compareBytes b a
  |[],[]=>by simp [Lib.compareBytes]
  |[],_::_=>by simp [Lib.compareBytes]
  |_::_,[]=>by simp [Lib.compareBytes]
  | x :: a, y :: b => by
    simp only [Lib.compareBytes]
    by_cases h:x<y
    · have h': ¬ y<x:=λh2=>UInt8.lt_irrefl _ (UInt8.lt_trans h h2)
      simp [h,h']
    by_cases h':y<x
    · simp [h,h']
    simp [h,h',sl_ a b]
theorem pq_: ∀a b c:T_1,Lib.compareBytes a b<0->Lib.compareBytes b c<0->Lib.compareBytes a c<0
  |[],[],c,h,_=>by simp [Lib.compareBytes]at h
  |[],_::_,[],_,h=>by simp [Lib.compareBytes]at h
  |[],_::_,_::_,_,_=>by simp [Lib.compareBytes]
  |_::_,[],c,h,_=>by simp [Lib.compareBytes]at h
  |_::_,_::_,[],_,h=>by simp [Lib.compareBytes]at h
  | x :: a, y :: b, z :: c, h1, h2 => by
    simp only [Lib.compareBytes]at *
    by_cases hxy:x<y
    · by_cases hyz:y<z
      · have:=UInt8.lt_trans hxy hyz;simp [this]
      by_cases hzy:z<y
      · simp [hyz,hzy]at h2
      have:y=z:=UInt8.le_antisymm (UInt8.not_lt.1 hzy) (UInt8.not_lt.1 hyz);subst this;simp [hxy]
    by_cases hyx:y<x
    · simp [hxy,hyx]at h1
    have:x=y:=UInt8.le_antisymm (UInt8.not_lt.1 hyx) (UInt8.not_lt.1 hxy);subst this;simp only [UInt8.lt_irrefl,if_false]at h1
    by_cases hyz:x<z
    · simp [hyz]
    by_cases hzy:z<x
    · simp [hyz,hzy]at h2
    simp only [hyz,hzy,if_false]at h2 ⊢;exact pq_ a b c h1 h2
theorem lb_:GoodCmp Lib.compareBytes:=⟨xe_,sl_,pq_⟩
def tg_(x y:Bool):Int:=qg (if x then 1 else 0) (if y then 1 else 0)
theorem sx_:GoodCmp tg_ where
  eq x y:=by cases x<;>cases y<;>decide
  anti x y:=by cases x<;>cases y<;>decide
  trans x y z:=by cases x<;>cases y<;>cases z<;>decide
theorem JG{k n:Nat}(h:k<n):decide (((k:Nat):Int)<((n:Nat):Int))=true:=decide_eq_true (by omega)
theorem n2_{x y:Int}:qg x y<0↔x<y:=by unfold qg;(repeat' split)<;>omega
theorem Ck_(x y:Int):Tf x y=some (qg x y):=by
  unfold Tf Im_ qg;simp only [bnd,Option.bind_some,ne_eq,not_true_eq_false,decide_false,iteO_false]
  by_cases h:x<y
  · simp [h]
  by_cases h':y<x<;>simp [h,h']
theorem on_(x y:Nat):lq_ x y=some (zK x y):=by
  unfold lq_ si_ zK;simp only [bnd,Option.bind_some,ne_eq,not_true_eq_false,decide_false,iteO_false]
  by_cases h:x<y
  · simp [h]
  by_cases h':y<x<;>simp [h,h']
theorem Iv_(x y:T_1):C5_ x y=some (Lib.compareBytes x y):=rfl
def orL:ah->Int
  |[]=>0
  |a::l=>sV a (orL l)
theorem M1_(l:ah): ∀m k,l.length=k+m->iter (λq:Nat=>Gu_ l q) k=some (orL (l.drop k)):=by
  intro m
  induction m with
  |zero=>
    intro k hk;refine Jb ?_;rw [List.drop_of_length_le (by omega)];simp only [Gu_,decide_eq_false (show ¬ ((k:Nat):Int)<((l.length:Nat):Int) by omega),iteO_false];rfl
  |succ m ih=>
    intro k hk;have hlt:k<l.length:=by omega
    have hd:l.drop k=nth l k 0::l.drop (k+1):=by
      rw [List.drop_eq_getElem_cons hlt];have:=getD_some l hlt 0;rw [List.getElem?_eq_getElem hlt,Option.some.injEq]at this;rw [this]
    rw [hd,orL,sV]
    by_cases h:nth l k 0≠0
    · rw [if_pos h]
      refine Jb ?_;simp only [Gu_,decide_eq_true (show ((k:Nat):Int)<((l.length:Nat):Int) by omega),iteO_true,decide_eq_true h];rfl
    rw [if_neg h];refine Vj (s':=k+1) ?_ (ih (k+1) (by omega));simp only [Gu_,decide_eq_true (show ((k:Nat):Int)<((l.length:Nat):Int) by omega),iteO_true,decide_eq_false h];rfl
theorem Ll_(l:ah):Jw_ l=some (orL l):=by
  unfold Jw_;rw [M1_ l l.length 0 (by omega),List.drop_zero]
def I7(x y:Tip):Int:=sV (qg x.state y.state) (sV (Lib.compareBytes x.out y.out) 0)
theorem ph_(x y:Tip):Em_ x y=some (I7 x y):=by
  unfold Em_;rw [iM (Ck_ _ _),iM (Iv_ _ _),iM (Ll_ _)];rfl
theorem ov_(a:Int):sV a 0=a:=by unfold sV;split<;>omega
theorem of_:GoodCmp I7:=by
  have:=GoodCmp.lex Vh lb_ Tip.state Tip.out (λx y h1 h2=>by cases x;cases y;simp_all);have e:I7=λx y=>sV (qg x.state y.state) (Lib.compareBytes x.out y.out):=by
    funext x y;unfold I7;rw [ov_]
  rw [e];exact this
def ya_(s t:BSet):Int:=sV (zK s.a t.a) (sV (zK s.b t.b) (sV (zK s.c t.c) (zK s.d t.d)))
theorem pf_(a b c d a' b' c' d':Nat):k0_ [a,b,c,d] [a',b',c',d']=some (sV (zK a a') (sV (zK b b') (sV (zK c c') (zK d d')))):=by
  have st: ∀(k x y:Nat),k<4->nth [a,b,c,d] k 0=x->nth [a',b',c',d'] k 0=y->(zK x y≠0->iter (λq:Nat=>Oo [a,b,c,d] [a',b',c',d'] q) k=some (zK x y))/\(∀r,zK x y=0->iter (λq:Nat=>Oo [a,b,c,d] [a',b',c',d'] q) (k+1)=some r->iter (λq:Nat=>Oo [a,b,c,d] [a',b',c',d'] q) k=some r):=by
    intro k x y hk hx hy;have e1:((k:Nat):Int)<(([a,b,c,d].length:Nat):Int):=by simp;omega
    have e2: ¬ (([a',b',c',d'].length:Nat):Int)<=((k:Nat):Int):=by simp;omega
    refine ⟨λh=>Jb ?_,λr h hr=>Vj (s':=k+1) ?_ hr⟩
    · simp only [Oo,decide_eq_true e1,iteO_true,decide_eq_false e2,iteO_false]
      rw [cu (by simp;omega),hx,hy,iM (on_ _ _),decide_eq_true h];rfl
    simp only [Oo,decide_eq_true e1,iteO_true,decide_eq_false e2,iteO_false];rw [cu (by simp;omega),hx,hy,iM (on_ _ _),h];rfl
  have fi:iter (λq:Nat=>Oo [a,b,c,d] [a',b',c',d'] q) 4=some 0:=Jb (by simp [Oo]);have go: ∀(k x y:Nat) (r:Int),k<4->nth [a,b,c,d] k 0=x->nth [a',b',c',d'] k 0=y->iter (λq:Nat=>Oo [a,b,c,d] [a',b',c',d'] q) (k+1)=some r->iter (λq:Nat=>Oo [a,b,c,d] [a',b',c',d'] q) k=some (sV (zK x y) r):=by
    intro k x y r hk hx hy hr;obtain ⟨h1,h2⟩:=st k x y hk hx hy
    by_cases h:zK x y=0
    · rw [show sV (zK x y) r=r from by simp [sV,h]];exact h2 r h hr
    rw [show sV (zK x y) r=zK x y from by simp [sV,h]];exact h1 h
  have h3:=go 3 d d' 0 (by omega) rfl rfl fi;rw [ov_]at h3;exact go 0 a a' _ (by omega) rfl rfl (go 1 b b' _ (by omega) rfl rfl (go 2 c c' _ (by omega) rfl rfl h3))
theorem uc_:GoodCmp ya_:=by
  have h1:=GoodCmp.lex (α:=Nat×Nat) lh_ lh_ Prod.fst Prod.snd (λx y h1 h2=>Prod.ext h1 h2);have h2:=GoodCmp.lex (α:=Nat×Nat×Nat) lh_ h1 Prod.fst Prod.snd (λx y h1 h2=>Prod.ext h1 h2);have h3:=GoodCmp.lex (α:=BSet) lh_ h2 BSet.a (λs=>(s.b,s.c,s.d)) (λx y h1 h2=>by
    cases x;cases y;simp_all)
  exact h3
def UM(x y:Arc):Int:=sV (qg x.frm y.frm) (sV (qg x.to y.to) (sV (ya_ x.set y.set) (sV (Lib.compareBytes x.out y.out) (sV (tg_ x.copy y.copy) 0))))
theorem K6_(b:Bool):G6_ b=some (if b then 1 else 0):=by cases b<;>rfl
theorem pc_(x y:Arc):En_ x y=some (UM x y):=by
  unfold En_;rw [iM (Ck_ _ _),iM (Ck_ _ _),iM (pf_ ..),iM (Iv_ _ _),iM (K6_ _),iM (K6_ _),iM (Ck_ _ _),iM (Ll_ _)];rfl
theorem tv_:GoodCmp UM:=by
  have h1:=GoodCmp.lex (α:=T_1×Bool) lb_ sx_ Prod.fst Prod.snd (λx y h1 h2=>Prod.ext h1 h2);have h2:=GoodCmp.lex (α:=BSet×T_1×Bool) uc_ h1 Prod.fst Prod.snd (λx y h1 h2=>Prod.ext h1 h2);have h3:=GoodCmp.lex (α:=Int×BSet×T_1×Bool) Vh h2 Prod.fst Prod.snd (λx y h1 h2=>Prod.ext h1 h2);have h4:=GoodCmp.lex (α:=Arc) Vh h3 Arc.frm (λs=>(s.to,s.set,s.out,s.copy)) (λx y h1 h2=>by
    cases x;cases y;simp_all)
  have e:UM=λx y=>sV (qg x.frm y.frm) (sV (qg x.to y.to) (sV (ya_ x.set y.set) (sV (Lib.compareBytes x.out y.out) (tg_ x.copy y.copy)))):=by
    funext x y;unfold UM;rw [ov_]
  rw [e];exact h4
end Go.Proofs.YtcfgkcfcddfccaaGreatDoor
end

noncomputable section
namespace Go.Proofs.YtcfgkcfcddfccaaGreatDoor
open Go Go.E
instance:Inhabited Tip:=⟨aY⟩
instance:Inhabited Arc:=⟨aQ⟩
theorem Nc_{σ:aj}{a:Option Addr}{c:Nat}{l:ah}:Con Tryz.prog 188 #[.slice a l.length c,.func (.func 143) #[] #[]] σ [ε 3 1 ak (.slice a l.length c) l] (Uc 3 1 ak a c l (rF qg l) σ):=
  Con.sort1 (enc:=gX) layI layI0 rfl (λ_=>rfl) (λ_=>rfl) Vh.total (λargs w=>Rk (by kernel_rfl) args w) (λx y τ=>B4_ (Ck_ x y))
theorem Nf_{σ:aj}{a:Option Addr}{c:Nat}{l:List Tip}:Con Tryz.prog 157 #[.slice a l.length c,.func (.func 100) #[] #[]] σ [ε 79 2 bf (.slice a l.length c) l] (Uc 79 2 bf a c l (rF I7 l) σ):=
  Con.sortK (k:=2) layT0 rfl Tryz.isAgg79 Tryz.sizeOf79 iV j2_ of_.total (λargs w=>Rk (by kernel_rfl) args w) (λx y τ=>K8_ (ph_ x y))
theorem Na_{σ:aj}{a:Option Addr}{c:Nat}{l:List Arc}:Con Tryz.prog 162 #[.slice a l.length c,.func (.func 102) #[] #[]] σ [ε 49 8 fP (.slice a l.length c) l] (Uc 49 8 fP a c l (rF UM l) σ):=
  Con.sortK (k:=8) layA0 rfl Tryz.isAgg49 Tryz.sizeOf49 IE l3_ tv_.total (λargs w=>Rk (by kernel_rfl) args w) (λx y τ=>K7_ (pc_ x y))
end Go.Proofs.YtcfgkcfcddfccaaGreatDoor
end

noncomputable section
namespace Go.Proofs.YtcfgkcfcddfccaaGreatDoor
open Go Go.E Go.E.OpVal Go.E.OpOk Go.Proofs.Tryz
open List (replicate)
theorem ag65:aggOf Tryz.prog 65=some true:=by kernel_rfl
theorem by129:byOf Tryz.prog 129=some 48:=by kernel_rfl
theorem eg49:Tryz.prog.eqGuardType Tryz.prog.depth 49=false:=by kernel_rfl
theorem eg79:Tryz.prog.eqGuardType Tryz.prog.depth 79=false:=by kernel_rfl
theorem es49(x y:Arc):Go.E.EqAt Tryz.prog 3 49 (.agg (fP x).toArray) (.agg (fP y).toArray) (decide (x=y)):=
 (EqAt.struct (ts:=[(false,3,0),(false,3,1),(false,47,2),(false,9,6),(false,4,7)]) (by kernel_rfl) (by kernel_rfl) (by kernel_rfl) (EqC.one (by kernel_rfl) rfl rfl (EqAt.int um x.frm y.frm |>.up (by decide)) (EqC.one (by kernel_rfl) rfl rfl (EqAt.int um x.to y.to |>.up (by decide)) (EqC.agg (s:=4) (us:=Go.E.setA x.set) (vs:=Go.E.setA y.set) (by kernel_rfl) (by kernel_rfl) rfl rfl (EqAt.set KE underlying45 (by kernel_rfl) (by kernel_rfl) x.set y.set) (EqC.one (by kernel_rfl) rfl rfl (EqAt.str kR x.out y.out |>.up (by decide)) (EqC.one (by kernel_rfl) rfl rfl (EqAt.bool underlying4 x.copy y.copy |>.up (by decide)) EqC.nil)))))).of (by rw [Bool.eq_iff_iff];cases x;cases y;simp)
theorem es79(x y:Tip):Go.E.EqAt Tryz.prog 2 79 (.agg (bf x).toArray) (.agg (bf y).toArray) (decide (x=y)):=
 (EqAt.struct (ts:=[(false,3,0),(false,9,1)]) (by kernel_rfl) (by kernel_rfl) (by kernel_rfl) (EqC.one (by kernel_rfl) rfl rfl (EqAt.int um x.state y.state) (EqC.one (by kernel_rfl) rfl rfl (EqAt.str kR x.out y.out) EqC.nil))).of (by rw [Bool.eq_iff_iff];cases x;cases y;simp)
theorem pf101:plainF Tryz.prog 101=true:=by kernel_rfl
theorem UH:plainF Tryz.prog 132=true:=by kernel_rfl
theorem pf142:plainF Tryz.prog 142=true:=by kernel_rfl
theorem Uu:plainF Tryz.prog 157=true:=by kernel_rfl
theorem Ut:plainF Tryz.prog 158=true:=by kernel_rfl
theorem pf161:plainF Tryz.prog 161=true:=by kernel_rfl
theorem pf162:plainF Tryz.prog 162=true:=by kernel_rfl
theorem pf163:plainF Tryz.prog 163=true:=by kernel_rfl
theorem pf188:plainF Tryz.prog 188=true:=by kernel_rfl
theorem KX:plainF Tryz.prog 81=true:=by kernel_rfl
theorem pf99:plainF Tryz.prog 99=true:=by kernel_rfl
theorem pl129:plOf Tryz.prog 129=some #[(0,1),(1,1),(2,4)]:=by kernel_rfl
theorem pl65:plOf Tryz.prog 65=some #[(0,1),(1,1),(2,1),(3,1)]:=by kernel_rfl
theorem Qi:szOf Tryz.prog 65=some 4:=by kernel_rfl
theorem P9:zeroOf Tryz.prog 65=some (.agg #[.int .i64 0,aW,aW,aW]):=by kernel_rfl
theorem L0_{σ:aj}{a:Option Addr}{c:Nat}{l:List Tip}(hl:RS σ 2 bf (.slice a l.length c) l)(hsz:l.length * 24<=140737488355328):
  Con prog 132 #[.slice a l.length c] σ [] (RowP 79 2 bf l σ):=by
 have hb:=hl.rv.big;refine cM 8 Tryz.func132 (λw0=> ?_);refine R3 ?_;refine TL.nilS 79 2 bf (R5 ?_);refine ι z (b6_ z PG z z) (R1 ?_);refine TC.cond z (λh2=> ?_) (λh2=> ?_)
 ·refine R3 ?_;refine TL.nilS 79 2 bf (R1 ?_);refine η ?_;cases a with
  |some _=>simp at h2
  |none=>
   obtain rfl:=hl.b0_;exact v4_ z z
 refine R3 ?_;refine φ z (Ll (enc:=bf) z z PG Ql z z (λa4 c5=> ?_));refine TL.s z z (φ z (bp_ z z PG Ql by79 zj_ z z (by decide) z z z (.inl hl) (by simpa using hsz) (by decide) (λa7 c8=> ?_)));refine R2 ?_;exact η (v4_ z z)
def Ii_(aU:Nat)(zZ:List Tip)(bV:Nat):Option (((List Tip)×Nat×Nat)⊕((Nat)⊕((List Tip)))):=
 nxt (zZ,bV,(aU+1))
def Kk_(x0:List Tip)(aI:Nat)(aK:List Tip)(aX:Nat)(aU:Nat):Option (((List Tip)×Nat×Nat)⊕((Nat)⊕((List Tip)))):=
 iteO (decide ((aU:Int)<(((x0.length - aI):Nat):Int))) (grd (aU<(x0.length - aI)) (grd (0<=(IntKind.i64.wrap ((aU:Int) - 1))/\(IntKind.i64.wrap ((aU:Int) - 1))<((x0.length - aI):Nat)) (iteO (decide (¬ ((nth aK (aI+aU) aY)=(nth aK (aI+(IntKind.i64.wrap ((aU:Int) - 1)).toNat) aY)))) (grd (aU<(x0.length - aI)) (grd (aX<aK.length) (Ii_ aU (aK.set aX (nth aK (aI+aU) aY)) (aX+1)))) (Ii_ aU aK aX)))) (fin (grd (aX<=x0.length) (grd (aX<=(aK.take aX++replicate (aK.length - aX) aY).length) (fin (some ((aK.take aX++replicate (aK.length - aX) aY).take aX))))))
def Ij_(x0:List Tip)(aI:Nat):Option ((Nat)⊕((List Tip))):=
 iteO (decide ((aI:Int)<(x0.length:Int))) (grd (0<=(IntKind.i64.wrap ((aI:Int) - 1))/\(IntKind.i64.wrap ((aI:Int) - 1))<(x0.length:Int)) (iteO (decide ((nth x0 aI aY)=(nth x0 ((IntKind.i64.wrap ((aI:Int) - 1)).toNat) aY))) (grd (aI<=x0.length) (iter (λq:(List Tip)×Nat×Nat=>Kk_ x0 aI q.1 q.2.1 q.2.2) (x0,aI,1))) (nxt (aI+1)))) (fin (some x0))
def jz_(x0:List Tip):Option ((List Tip)):=
 iteO (decide ((x0.length:Int)<2)) (some x0) (iter (λq:Nat=>Ij_ x0 q) 1)
theorem La_{σ:aj}{x0:List Tip}{r:(List Tip)}(hh:jz_ x0=some r):
  Con prog 158 #[.slice ay x0.length au] σ [ε 79 2 bf (.slice ay x0.length au) x0] (λv σ' H'=> ∃a1 c1,v= .slice a1 r.length c1/\σ=σ'/\H'=[ε 79 2 bf (.slice a1 r.length c1) r]):=by
 dsimp only [jz_]at hh;refine cM 61 Tryz.func158 (λw0=> ?_);refine R11 ?_;refine π z hh (λwC hh=> ?_) (λwC hh=> ?_)
 ·refine R5 ?_;refine η ?_;obtain rfl:=so hh;exact rz
 refine R7 ?_;refine TC.lp hh () (rgs [(2,4),(10,50)]) (λaI _=>([(3,.int .i64 (aI:Int))],[ε 79 2 bf (.slice ay x0.length au) x0])) (θ 1 z) ?_;rintro aI _ _ z1 hh hR1;dsimp only [Ij_]at hh ⊢;refine ζ 0 z (λW_=> ?_);refine R8 ?_;refine π z hh (λgq hh=> ?_) (λgq hh=> ?_)
 ·refine R4 ?_;obtain ⟨yG,hh⟩:=gd hh;refine TC.dw [] (ν 0 z mS z (ν 1 z mI z (TA.isSl (i:=0) z (λG8 _ _=> ?_))));refine χ 2 z iN z (χ 3 z oT z (ν 4 z mS z (ν 5 z mI z (ν 6 z (subW z z z) z (TA.isSl (i:=0) z (λVo _ _=> ?_))))));refine χ 7 z iX z (χ 8 z oT z (ν 9 z (eqlSt (p:=(nth x0 aI aY)=(nth x0 ((IntKind.i64.wrap ((aI:Int) - 1)).toNat) aY)) z z z eg79 (es79 (nth x0 aI aY) (nth x0 ((IntKind.i64.wrap ((aI:Int) - 1)).toNat) aY)) z) z (R1 ?_)));refine π z hh (λh112 hh=> ?_) (λh112 hh=> ?_)
  ·refine R4 ?_;obtain ⟨u24,hh⟩:=gd hh;refine TL.iS 0 z (λDU=> ?_);obtain ⟨jl,Z4,hv113,D_⟩:=wh_ (k:=aI) (size:=2) DU (by omega);refine ι z (D_ z PG Ql z z) (R8 ?_);refine TC.lk hh () (rgs [(3,1),(5,1),(29,25)]) (λ⟨aK,aX,aU⟩ _=>([(3,.int .i64 (aX:Int)),(5,.int .i64 (aU:Int))],[ε 79 2 bf (.slice ay x0.length au) aK])) (λ⟨aK,_,_⟩ _=>aK.length=x0.length) z (θ 1 z) ?_;rintro ⟨aK,aX,aU⟩ _ _ z2 hh hR2 gG;dsimp only [Kk_]at hh gG ⊢;refine ζ 0 z (λNY=> ?_);refine R8 ?_;refine π z hh (λh127 hh=> ?_) (λh127 hh=> ?_)
   ·refine R1 ?_;refine TC.cutG (α:=((List Tip)×Nat)×(Unit)) (rgs [(3,1),(35,19)]) (λg=>[(3,.int .i64 (g.1.2:Int))]) (λg=>[ε 79 2 bf (.slice ay x0.length au) g.1.1]) (λg=>σ) (λg=>Ii_ aU g.1.1 g.1.2=some z2/\g.1.1.length=x0.length) ?_ (λg j hg=> ?_)
    ·refine R2 ?_;obtain ⟨u33,hh⟩:=gd hh;obtain ⟨u38,hh⟩:=gd hh;refine TC.dw [] (ν 0 z mS z (ν 1 z mI z (χ 2 z (elVw hv113 (by omega) (A_ z PG Ql z z hv113.sl (by omega))) z (χ 3 z oT z (ν 4 z mS z (ν 5 z mI z (ν 6 z (subW z z z) z (χ 7 z (elVw hv113 (by omega) (OpVal.index z PG Ql z z hv113.sl u38.1 u38.2)) z (χ 8 z oT z (ν 9 z (neqSt (p:=(nth aK (aI+aU) aY)=(nth aK (aI+(IntKind.i64.wrap ((aU:Int) - 1)).toNat) aY)) z z z eg79 (es79 (nth aK (aI+aU) aY) (nth aK (aI+(IntKind.i64.wrap ((aU:Int) - 1)).toNat) aY)) z) z (R1 ?_)))))))))));refine π z hh (λCi hh=> ?_) (λCi hh=> ?_)
     ·refine R6 ?_;obtain ⟨u45,hh⟩:=gd hh;refine ι z (elVw hv113 (by omega) (A_ z PG Ql z z hv113.sl (by omega))) (ι z oT ?_);obtain ⟨PU,hh⟩:=gd hh;refine TL.iS 0 z (λLU=> ?_);refine ι z iN ?_;have y9:(aK.set aX (nth aK (aI+aU) aY)).length=x0.length:=by rw [fV];exact gG
      refine φ z (sS (nth aK (aI+aU) aY) ?_);refine R6 ?_;exact cf (((aK.set aX (nth aK (aI+aU) aY)),(aX+1)),()) ⟨hh,y9⟩ (θ 1 z)
     refine R1 ?_;exact cf ((aK,aX),()) ⟨hh,gG⟩ (θ 1 z)
    obtain ⟨⟨zZ,bV⟩,_⟩:=g;obtain ⟨hh,wW⟩:=hg
    try dsimp only at wW ⊢
    dsimp only [Ii_]at hh;refine ζ 0 z (λIy=> ?_);refine R5 ?_;exact nk hR2 hh () (θ 1 z) wW
   refine R1 ?_;replace hh:=bJ hR2 hh;refine R5 ?_;obtain ⟨u57,hh⟩:=gd hh;refine TL.iS 0 z (λwP=> ?_);rw [gG]at wP;obtain ⟨a136,rV,DN,D9⟩:=wh_ (k:=aX) (size:=2) wP (by omega);refine ι z (D9 z PG Ql z z) ?_;have wV:(aK.take aX++replicate (aK.length - aX) aY).length=x0.length:=by simp only [iK,List.length_take,oI];(try simp only [oI]at *);omega
   refine φ z (cw_ (k:=aX) aY z PG zj_ z z DN (by omega) (by omega) iV (by decide) z j2_ ?_);refine R5 ?_;rw [<-wV];obtain ⟨u61,hh⟩:=gd hh;refine φ z (cutS z PG Ql z z z z z (by omega) iV ?_);refine R2 ?_;refine η ?_;replace hh:=bJ hR1 hh;obtain rfl:=so hh;exact rz
  refine R6 ?_;exact nxq hR1 hh () (θ 1 z)
 refine R1 ?_;replace hh:=bJ hR1 hh;refine R6 ?_;refine η ?_;obtain rfl:=so hh;exact rz
theorem M8_{σ:aj}{a:Option Addr}{c:Nat}{l:List Arc}(hl:RS σ 8 fP (.slice a l.length c) l)(hsz:l.length * 72<=140737488355328):
  Con prog 161 #[.slice a l.length c] σ [] (RowP 49 8 fP l σ):=by
 have hb:=hl.rv.big;refine cM 8 Tryz.func161 (λw0=> ?_);refine R3 ?_;refine TL.nilS 49 8 fP (R5 ?_);refine ι z (b6_ z PD z z) (R1 ?_);refine TC.cond z (λh2=> ?_) (λh2=> ?_)
 ·refine R3 ?_;refine TL.nilS 49 8 fP (R1 ?_);refine η ?_;cases a with
  |some _=>simp at h2
  |none=>
   obtain rfl:=hl.b0_;exact v4_ z z
 refine R3 ?_;refine φ z (Ll (enc:=fP) z z PD Qn z z (λa4 c5=> ?_));refine TL.s z z (φ z (bp_ z z PD Qn by49 zo_ z z (by decide) z z z (.inl hl) (by simpa using hsz) (by decide) (λa7 c8=> ?_)));refine R2 ?_;exact η (v4_ z z)
def Ik_(aU:Nat)(zZ:List Arc)(bV:Nat):Option (((List Arc)×Nat×Nat)⊕((Nat)⊕((List Arc)))):=
 nxt (zZ,bV,(aU+1))
def Ki_(x0:List Arc)(aI:Nat)(aK:List Arc)(aX:Nat)(aU:Nat):Option (((List Arc)×Nat×Nat)⊕((Nat)⊕((List Arc)))):=
 iteO (decide ((aU:Int)<(((x0.length - aI):Nat):Int))) (grd (aU<(x0.length - aI)) (grd (0<=(IntKind.i64.wrap ((aU:Int) - 1))/\(IntKind.i64.wrap ((aU:Int) - 1))<((x0.length - aI):Nat)) (iteO (decide (¬ ((nth aK (aI+aU) aQ)=(nth aK (aI+(IntKind.i64.wrap ((aU:Int) - 1)).toNat) aQ)))) (grd (aU<(x0.length - aI)) (grd (aX<aK.length) (Ik_ aU (aK.set aX (nth aK (aI+aU) aQ)) (aX+1)))) (Ik_ aU aK aX)))) (fin (grd (aX<=x0.length) (grd (aX<=(aK.take aX++replicate (aK.length - aX) aQ).length) (fin (some ((aK.take aX++replicate (aK.length - aX) aQ).take aX))))))
def Ie_(x0:List Arc)(aI:Nat):Option ((Nat)⊕((List Arc))):=
 iteO (decide ((aI:Int)<(x0.length:Int))) (grd (0<=(IntKind.i64.wrap ((aI:Int) - 1))/\(IntKind.i64.wrap ((aI:Int) - 1))<(x0.length:Int)) (iteO (decide ((nth x0 aI aQ)=(nth x0 ((IntKind.i64.wrap ((aI:Int) - 1)).toNat) aQ))) (grd (aI<=x0.length) (iter (λq:(List Arc)×Nat×Nat=>Ki_ x0 aI q.1 q.2.1 q.2.2) (x0,aI,1))) (nxt (aI+1)))) (fin (some x0))
def lt_(x0:List Arc):Option ((List Arc)):=
 iteO (decide ((x0.length:Int)<2)) (some x0) (iter (λq:Nat=>Ie_ x0 q) 1)
theorem Mu_{σ:aj}{x0:List Arc}{r:(List Arc)}(hh:lt_ x0=some r):
  Con prog 163 #[.slice ay x0.length au] σ [ε 49 8 fP (.slice ay x0.length au) x0] (λv σ' H'=> ∃a1 c1,v= .slice a1 r.length c1/\σ=σ'/\H'=[ε 49 8 fP (.slice a1 r.length c1) r]):=by
 dsimp only [lt_]at hh;refine cM 61 Tryz.func163 (λw0=> ?_);refine R11 ?_;refine π z hh (λwC hh=> ?_) (λwC hh=> ?_)
 ·refine R5 ?_;refine η ?_;obtain rfl:=so hh;exact rz
 refine R7 ?_;refine TC.lp hh () (rgs [(2,4),(10,50)]) (λaI _=>([(3,.int .i64 (aI:Int))],[ε 49 8 fP (.slice ay x0.length au) x0])) (θ 1 z) ?_;rintro aI _ _ z1 hh hR1;dsimp only [Ie_]at hh ⊢;refine ζ 0 z (λW_=> ?_);refine R8 ?_;refine π z hh (λgq hh=> ?_) (λgq hh=> ?_)
 ·refine R4 ?_;obtain ⟨yG,hh⟩:=gd hh;refine TC.dw [] (ν 0 z mS z (ν 1 z mI z (TA.isSl (i:=0) z (λG8 _ _=> ?_))));refine χ 2 z iN z (χ 3 z oT z (ν 4 z mS z (ν 5 z mI z (ν 6 z (subW z z z) z (TA.isSl (i:=0) z (λVo _ _=> ?_))))));refine χ 7 z iX z (χ 8 z oT z (ν 9 z (eqlSt (p:=(nth x0 aI aQ)=(nth x0 ((IntKind.i64.wrap ((aI:Int) - 1)).toNat) aQ)) z z z eg49 (es49 (nth x0 aI aQ) (nth x0 ((IntKind.i64.wrap ((aI:Int) - 1)).toNat) aQ)) z) z (R1 ?_)));refine π z hh (λh112 hh=> ?_) (λh112 hh=> ?_)
  ·refine R4 ?_;obtain ⟨u24,hh⟩:=gd hh;refine TL.iS 0 z (λDU=> ?_);obtain ⟨jl,Z4,hv113,D_⟩:=wh_ (k:=aI) (size:=8) DU (by omega);refine ι z (D_ z PD Qn z z) (R8 ?_);refine TC.lk hh () (rgs [(3,1),(5,1),(29,25)]) (λ⟨aK,aX,aU⟩ _=>([(3,.int .i64 (aX:Int)),(5,.int .i64 (aU:Int))],[ε 49 8 fP (.slice ay x0.length au) aK])) (λ⟨aK,_,_⟩ _=>aK.length=x0.length) z (θ 1 z) ?_;rintro ⟨aK,aX,aU⟩ _ _ z2 hh hR2 gG;dsimp only [Ki_]at hh gG ⊢;refine ζ 0 z (λNY=> ?_);refine R8 ?_;refine π z hh (λh127 hh=> ?_) (λh127 hh=> ?_)
   ·refine R1 ?_;refine TC.cutG (α:=((List Arc)×Nat)×(Unit)) (rgs [(3,1),(35,19)]) (λg=>[(3,.int .i64 (g.1.2:Int))]) (λg=>[ε 49 8 fP (.slice ay x0.length au) g.1.1]) (λg=>σ) (λg=>Ik_ aU g.1.1 g.1.2=some z2/\g.1.1.length=x0.length) ?_ (λg j hg=> ?_)
    ·refine R2 ?_;obtain ⟨u33,hh⟩:=gd hh;obtain ⟨u38,hh⟩:=gd hh;refine TC.dw [] (ν 0 z mS z (ν 1 z mI z (χ 2 z (elVw hv113 (by omega) (A_ z PD Qn z z hv113.sl (by omega))) z (χ 3 z oT z (ν 4 z mS z (ν 5 z mI z (ν 6 z (subW z z z) z (χ 7 z (elVw hv113 (by omega) (OpVal.index z PD Qn z z hv113.sl u38.1 u38.2)) z (χ 8 z oT z (ν 9 z (neqSt (p:=(nth aK (aI+aU) aQ)=(nth aK (aI+(IntKind.i64.wrap ((aU:Int) - 1)).toNat) aQ)) z z z eg49 (es49 (nth aK (aI+aU) aQ) (nth aK (aI+(IntKind.i64.wrap ((aU:Int) - 1)).toNat) aQ)) z) z (R1 ?_)))))))))));refine π z hh (λCi hh=> ?_) (λCi hh=> ?_)
     ·refine R6 ?_;obtain ⟨u45,hh⟩:=gd hh;refine ι z (elVw hv113 (by omega) (A_ z PD Qn z z hv113.sl (by omega))) (ι z oT ?_);obtain ⟨PU,hh⟩:=gd hh;refine TL.iS 0 z (λLU=> ?_);refine ι z iN ?_;have y9:(aK.set aX (nth aK (aI+aU) aQ)).length=x0.length:=by rw [fV];exact gG
      refine φ z (sS (nth aK (aI+aU) aQ) ?_);refine R6 ?_;exact cf (((aK.set aX (nth aK (aI+aU) aQ)),(aX+1)),()) ⟨hh,y9⟩ (θ 1 z)
     refine R1 ?_;exact cf ((aK,aX),()) ⟨hh,gG⟩ (θ 1 z)
    obtain ⟨⟨zZ,bV⟩,_⟩:=g;obtain ⟨hh,wW⟩:=hg
    try dsimp only at wW ⊢
    dsimp only [Ik_]at hh;refine ζ 0 z (λIy=> ?_);refine R5 ?_;exact nk hR2 hh () (θ 1 z) wW
   refine R1 ?_;replace hh:=bJ hR2 hh;refine R5 ?_;obtain ⟨u57,hh⟩:=gd hh;refine TL.iS 0 z (λwP=> ?_);rw [gG]at wP;obtain ⟨a136,rV,DN,D9⟩:=wh_ (k:=aX) (size:=8) wP (by omega);refine ι z (D9 z PD Qn z z) ?_;have wV:(aK.take aX++replicate (aK.length - aX) aQ).length=x0.length:=by simp only [iK,List.length_take,oI];(try simp only [oI]at *);omega
   refine φ z (cw_ (k:=aX) aQ z PD zo_ z z DN (by omega) (by omega) IE (by decide) z l3_ ?_);refine R5 ?_;rw [<-wV];obtain ⟨u61,hh⟩:=gd hh;refine φ z (cutS z PD Qn z z z z z (by omega) IE ?_);refine R2 ?_;refine η ?_;replace hh:=bJ hR1 hh;obtain rfl:=so hh;exact rz
  refine R6 ?_;exact nxq hR1 hh () (θ 1 z)
 refine R1 ?_;replace hh:=bJ hR1 hh;refine R6 ?_;refine η ?_;obtain rfl:=so hh;exact rz
def zg_(x0:ah):Option (ah):=
 grd (x0.length * 8<=140737488355328) (bnd (j4_ (rF qg x0)) (λv9=>some v9))
theorem Nb_{σ:aj}{x0:ah}(aC:dH σ ak aB aA x0){r:ah}(hh:zg_ x0=some r):
  Con prog 142 #[.slice aB x0.length aA,.func (.func 143) #[] #[]] σ [] (gw_ σ r):=by
 dsimp only [zg_]at hh;refine cM 13 Tryz.func142 (λw0=> ?_);refine R7 ?_;obtain ⟨u3,hh⟩:=gd hh;refine φ z (OpOk.call (Ho_ aC u3) z z KY z z z z ?_);rintro _ _ _ _ ⟨⟨oh,nN,rfl⟩,rfl,rfl⟩;refine R5 ?_;refine ι z (RN (.inl z) z) ?_;have zf:(rF qg x0).length=x0.length:=List.length_mergeSort _;refine φ z (OpOk.call (Nc_ (l:=x0)) z z pf188 z z z z ?_);rintro _ _ _ _ ⟨rfl,rfl,rfl⟩;refine R4 ?_;rw [<-zf];obtain ⟨v9,u9,hh⟩:=bg hh;refine φ z (OpOk.call (Lh_ u9) z z Ul z z z z ?_);rintro _ _ _ jH ⟨a105_1,c105_2,rfl,rfl,rfl⟩;refine R2 ?_;refine η ?_;obtain rfl:=so hh;exact rz
def v7_(x0:List Tip):Option ((List Tip)):=
 grd (x0.length * 24<=140737488355328) (bnd (jz_ (rF I7 x0)) (λv9=>some v9))
def Nl_(σ:aj)(r:(List Tip)):Value->aj->List Res->Prop:=λv σ' H'=>
 ∃a1 c1,v= .slice a1 r.length c1/\σ=σ'/\H'=[ε 79 2 bf (.slice a1 r.length c1) r]
theorem Mi_{σ:aj}{x0:List Tip}(aC:RS σ 2 bf (.slice aB x0.length aA) x0){r:(List Tip)}(hh:v7_ x0=some r):
  Con prog 99 #[.slice aB x0.length aA,.func (.func 100) #[] #[]] σ [] (Nl_ σ r):=by
 dsimp only [v7_]at hh;refine cM 13 Tryz.func99 (λw0=> ?_);refine R7 ?_;obtain ⟨u3,hh⟩:=gd hh;refine φ z (OpOk.call (L0_ aC u3) z z UH z z z z ?_);rintro _ _ _ _ ⟨⟨oh,nN,rfl⟩,rfl,rfl⟩;refine R5 ?_;refine ι z (RN (.inl z) z) ?_;have zf:(rF I7 x0).length=x0.length:=List.length_mergeSort _;refine φ z (OpOk.call (Nf_ (l:=x0)) z z Uu z z z z ?_);rintro _ _ _ _ ⟨rfl,rfl,rfl⟩;refine R4 ?_;rw [<-zf];obtain ⟨v9,u9,hh⟩:=bg hh;refine φ z (OpOk.call (La_ u9) z z Ut z z z z ?_);rintro _ _ _ jH ⟨a105_1,c105_2,rfl,rfl,rfl⟩;refine R2 ?_;refine η ?_;obtain rfl:=so hh;exact rz
def w8_(x0:List Arc):Option ((List Arc)):=
 grd (x0.length * 72<=140737488355328) (bnd (lt_ (rF UM x0)) (λv9=>some v9))
def Nm_(σ:aj)(r:(List Arc)):Value->aj->List Res->Prop:=λv σ' H'=>
 ∃a1 c1,v= .slice a1 r.length c1/\σ=σ'/\H'=[ε 49 8 fP (.slice a1 r.length c1) r]
theorem Nd_{σ:aj}{x0:List Arc}(aC:RS σ 8 fP (.slice aB x0.length aA) x0){r:(List Arc)}(hh:w8_ x0=some r):
  Con prog 101 #[.slice aB x0.length aA,.func (.func 102) #[] #[]] σ [] (Nm_ σ r):=by
 dsimp only [w8_]at hh;refine cM 13 Tryz.func101 (λw0=> ?_);refine R7 ?_;obtain ⟨u3,hh⟩:=gd hh;refine φ z (OpOk.call (M8_ aC u3) z z pf161 z z z z ?_);rintro _ _ _ _ ⟨⟨oh,nN,rfl⟩,rfl,rfl⟩;refine R5 ?_;refine ι z (RN (.inl z) z) ?_;have zf:(rF UM x0).length=x0.length:=List.length_mergeSort _;refine φ z (OpOk.call (Na_ (l:=x0)) z z pf162 z z z z ?_);rintro _ _ _ _ ⟨rfl,rfl,rfl⟩;refine R4 ?_;rw [<-zf];obtain ⟨v9,u9,hh⟩:=bg hh;refine φ z (OpOk.call (Mu_ u9) z z pf163 z z z z ?_);rintro _ _ _ jH ⟨a105_1,c105_2,rfl,rfl,rfl⟩;refine R2 ?_;refine η ?_;obtain rfl:=so hh;exact rz
def Eh_(x0:List Tip)(dY:ah)(fB:Nat):Option ((ah×Nat)⊕(ah)):=
 iteO (decide ((fB:Int)<(x0.length:Int))) (grd ((dY.length+[(nth x0 fB aY).state].length) * 8<=140737488355328) (nxt ((dY++[(nth x0 fB aY).state]),(fB+1)))) (fin (bnd (zg_ dY) (λv20=>some v20)))
def Ff_(x0:List Tip):Option (ah):=
 iter (λq:ah×Nat=>Eh_ x0 q.1 q.2) (([]:ah),0)
theorem D2_{σ:aj}{x0:List Tip}(aC:RS σ 2 bf (.slice aB x0.length aA) x0){r:ah}(hh:Ff_ x0=some r):
  Con prog 81 #[.slice aB x0.length aA] σ [] (gw_ σ r):=by
 dsimp only [Ff_]at hh;have f0_0b:=aC.rv.big;refine cM 20 Tryz.func81 (λw0=> ?_);refine R16 ?_;refine TC.nilS 3 1 ak (TC.lp hh (nO,oO) (rgs [(3,1),(5,1),(8,10)]) (λ⟨dY,fB⟩ ⟨jl,jR⟩=>([(3,.slice jl dY.length jR),(8,.int .i64 (fB:Int))],[dO 3 ak jl jR dY])) (θ 1 z) ?_);rintro ⟨dY,fB⟩ ⟨jl,jR⟩ _ z1 hh hR1;dsimp only [Eh_]at hh ⊢;refine ζ 0 z (λN7=> ?_);refine R5 ?_;refine π z hh (λqY hh=> ?_) (λqY hh=> ?_)
 ·refine R7 ?_;refine TL.al (λb119=> ?_);refine R6 ?_;refine φ z (jc (enc:=ak) [(nth x0 fB aY).state] (λCZ CP=> ?_));refine κ 2 ?_;obtain ⟨u15,hh⟩:=gd hh;refine φ z (apF (.inr ⟨_,0,z⟩) u15 (λa124 Eo=> ?_));refine R6 ?_;exact nxq hR1 hh (a124,Eo) (θ 1 z)
 refine R1 ?_;replace hh:=bJ hR1 hh;refine R4 ?_;refine TL.jO aT (λτ129 pz VE=> ?_);have hr127b:=VE.rv.big;obtain ⟨v20,u20,hh⟩:=bg hh;refine φ z (OpOk.call (Nb_ VE u20) z z pf142 z z z z ?_);rintro _ _ _ tN ⟨a130_1,c130_1,rfl,rfl,rfl⟩;refine R2 ?_;refine TC.back (η ?_);obtain rfl:=so hh;exact rz
def Iq_(x0:Fst)(I4:ah)(gK:ah)(DK:List Arrow)(uG:Nat):Option (((List Arrow)×Nat)⊕(Nfa×Int)):=
 iteO (decide ((uG:Int)<(x0.arcs.length:Int))) (grd ((DK.length+[(⟨(nth x0.arcs uG aQ).frm,(nth x0.arcs uG aQ).to,(nth x0.arcs uG aQ).set⟩:Arrow)].length) * 48<=140737488355328) (nxt ((DK++[(⟨(nth x0.arcs uG aQ).frm,(nth x0.arcs uG aQ).to,(nth x0.arcs uG aQ).set⟩:Arrow)]),(uG+1)))) (fin (some ((⟨x0.states,I4,gK,DK⟩:Nfa),0)))
def Kf_(x0:Fst)(I4:ah)(gK:ah):Option (Nfa×Int):=
 iter (λq:(List Arrow)×Nat=>Iq_ x0 I4 gK q.1 q.2) (([]:List Arrow),0)
def Lc_(x0:Fst):Option (Nfa×Int):=
 bnd (Gp x0) (λv5=>iteO (decide (v5≠0)) (some ((⟨0,([]:ah),([]:ah),([]:List Arrow)⟩:Nfa),1)) (bnd (Ff_ x0.starts) (λv14=>bnd (Ff_ x0.ends) (λv17=>Kf_ x0 v14 v17))))
def Ni_(σ:aj)(r:Nfa×Int):Value->aj->List Res->Prop:=λv σ' H'=>
 ∃a1 c1 a2 c2 a3 c3,v= .tuple #[.agg #[.int .i64 r.1.states,.slice a1 r.1.starts.length c1,.slice a2 r.1.ends.length c2,.slice a3 r.1.edges.length c3],.int .i64 r.2]/\dH σ' ak a1 c1 r.1.starts/\dH σ' ak a2 c2 r.1.ends/\RS σ' 6 Bj (.slice a3 r.1.edges.length c3) r.1.edges/\H'=[]
theorem M9_{σ:aj}{x0:Fst}(aC:RS σ 2 bf (.slice aB x0.starts.length aA) x0.starts)(aV:RS σ 2 bf (.slice ay x0.ends.length aH) x0.ends)(aS:RS σ 8 fP (.slice aG x0.arcs.length au) x0.arcs){r:Nfa×Int}(hh:Lc_ x0=some r):
  Con prog 29 #[.agg (jB x0 aB aA ay aH aG au)] σ [] (Ni_ σ r):=by
 dsimp only [Lc_]at hh;have f0_2b:=aS.rv.big;refine cM 41 Tryz.func29 (λw0=> ?_);refine R2 ?_;refine TL.bx (λaP=> ?_);refine TL.al (λbK=> ?_);refine R6 ?_;obtain ⟨v5,u5,hh⟩:=bg hh;refine φ z (gI (Tm (x0:=x0) aC aV aS u5) z z Qb z z z ?_);refine R2 ?_;refine π z hh (λdL hh=> ?_) (λdL hh=> ?_)
 ·refine R6 ?_;refine Ψ 1 ?_;obtain rfl:=so hh;exact rz
 refine R1 ?_;refine TC.cutG (α:=(ah×ah)×(Nat×(Option Addr)×Nat×(Option Addr)×Nat)) (rgs [(4,1),(11,9)]) (λg=>[(4,loc g.2.1 0)]) (λg=>[ω aP (jB x0 aB aA ay aH aG au) 25,ω bK #[.int .i64 0,aW,aW,aW] 65,ω g.2.1 #[.int .i64 x0.states,.slice g.2.2.1 g.1.1.length g.2.2.2.1,.slice g.2.2.2.2.1 g.1.2.length g.2.2.2.2.2,aW] 65,ε 3 1 ak (.slice g.2.2.1 g.1.1.length g.2.2.2.1) g.1.1,ε 3 1 ak (.slice g.2.2.2.2.1 g.1.2.length g.2.2.2.2.2) g.1.2]) (λg=>σ) (λg=>Kf_ x0 g.1.1 g.1.2=some r) ?_ (λg j hg=> ?_)
 ·obtain ⟨v14,u14,hh⟩:=bg hh;obtain ⟨v17,GZ,hh⟩:=bg hh;refine TC.dw [10] (ν 0 z fL z (χ 1 z lL z (ν 2 z fL z (χ 3 z lL z (ν 5 z fL z (χ 6 z lL z (TA.aN [4,9] (an z z (OpOk.call (D2_ aC u14) z z KX z z z z ?_) (an z z (OpOk.alloc z P9 z z (λb124=>(k1 ?_))) (True.intro))))))))))
  ·rintro _ _ _ kJ ⟨a122_1,c122_1,rfl,rfl,rfl⟩;refine k1 (TA.aN [7,9] (an z z (OpOk.call (D2_ aV GZ) z z KX z z z z ?_) (an z z (OpOk.alloc z P9 z z (λR_=>(k2 ?_))) (True.intro))))
   ·rintro _ _ _ Na ⟨a126_1,c126_1,rfl,rfl,rfl⟩;refine k2 (ν 8 z bL z (υ 9 z (OpOk.alloc z P9 z z (λb130=>(k3 ?_)))));refine TA.la 10 z z z (storeAll z Qi z z z z z z ?_);refine R1 ?_;exact cf ((v14,v17),(b130,a122_1,c122_1,a126_1,c126_1)) hh (ψ [1,2,2,3,4] 5)
   refine υ 7 z (OpOk.call (D2_ aV GZ) z z KX z z z z ?_);rintro _ _ _ wo ⟨a132_1,c132_1,rfl,rfl,rfl⟩;refine k3 (ν 8 z bL z (Ω 1 (TA.la 10 z z z (storeAll z Qi z z z z z z ?_))));refine R1 ?_;exact cf ((v14,v17),(R_,a122_1,c122_1,a132_1,c132_1)) hh (ψ [1,2,2,3,4] 5)
  refine υ 4 z (OpOk.call (D2_ aC u14) z z KX z z z z ?_);rintro _ _ _ qU ⟨a134_1,c134_1,rfl,rfl,rfl⟩;refine k2 (υ 7 z (OpOk.call (D2_ aV GZ) z z KX z z z z ?_));rintro _ _ _ Zi ⟨a136_1,c136_1,rfl,rfl,rfl⟩;refine k3 (ν 8 z bL z (Ω 2 (TA.la 10 z z z (storeAll z Qi z z z z z z ?_))));refine R1 ?_;exact cf ((v14,v17),(b124,a134_1,c134_1,a136_1,c136_1)) hh (ψ [1,2,2,3,4] 5)
 obtain ⟨⟨I4,gK⟩,⟨nG,Ju,Jg,mM,mJ⟩⟩:=g;have hh:=hg;clear hg
 try dsimp only
 dsimp only [Kf_]at hh;refine ζ 3 z (λhb138=> ?_);refine ζ 4 z (λhb139=> ?_);refine R9 ?_;refine TC.nilS 129 6 Bj (TC.lp hh (nO,oO) (rgs [(6,1),(23,17)]) (λ⟨DK,uG⟩ ⟨a152,wE⟩=>([(23,.int .i64 (uG:Int))],[ω bK #[.int .i64 0,aW,aW,aW] 65,ω nG #[.int .i64 x0.states,.slice Ju I4.length Jg,.slice mM gK.length mJ,.slice a152 DK.length wE] 65,dO 3 ak Ju Jg I4,dO 3 ak mM mJ gK,ε 129 6 Bj (.slice a152 DK.length wE) DK])) (ψ [5,5,5,5] 5) ?_);rintro ⟨DK,uG⟩ ⟨a152,wE⟩ _ z1 hh hR1;dsimp only [Iq_]at hh ⊢;refine ζ 2 z (λNT=> ?_);refine ζ 3 z (λWX=> ?_);refine ζ 4 z (λhb158=> ?_);refine R5 ?_;refine π z hh (λh159 hh=> ?_) (λh159 hh=> ?_)
 ·refine R7 ?_;refine TL.al (λb160=> ?_);refine R12 ?_;refine φ z (jc (enc:=Bj) [(⟨(nth x0.arcs uG aQ).frm,(nth x0.arcs uG aQ).to,(nth x0.arcs uG aQ).set⟩:Arrow)] (λa162 uQ=> ?_));refine κ 6 ?_;obtain ⟨u40,hh⟩:=gd hh;refine φ z (apF (.inr ⟨_,0,z⟩) u40 (λa165 c166=> ?_));refine ι z fL (κ 4 (R6 ?_));exact nxq hR1 hh (a165,c166) (ψ [1,6,6,3,6] 5)
 refine R1 ?_;replace hh:=bJ hR1 hh;refine R7 ?_;refine TC.fr 2 (TC.jO aT (λτ170 lQ Hg=> ?_));refine TC.fr 2 (TC.jO aT (λτ173 MZ D5=> ?_));replace Hg:=Hg.mono MZ;refine TC.fr 2 (TC.jO lg_ (λτ176 FK hr174=> ?_));replace Hg:=Hg.mono FK;replace D5:=D5.mono FK;have hr174b:=hr174.rv.big;refine Ψ 1 ?_;obtain rfl:=so hh;exact rz
def J4_(x0:Fst):Option (Fst×Int):=
 bnd (Gp x0) (λv5=>iteO (decide (v5≠0)) (some ((⟨0,([]:List Tip),([]:List Tip),([]:List Arc)⟩:Fst),1)) (bnd (v7_ x0.starts) (λv14=>bnd (v7_ x0.ends) (λv17=>bnd (w8_ x0.arcs) (λv20=>some ((⟨x0.states,v14,v17,v20⟩:Fst),0))))))
theorem Mz_{σ:aj}{x0:Fst}(aC:RS σ 2 bf (.slice aB x0.starts.length aA) x0.starts)(aV:RS σ 2 bf (.slice ay x0.ends.length aH) x0.ends)(aS:RS σ 8 fP (.slice aG x0.arcs.length au) x0.arcs){r:Fst×Int}(hh:J4_ x0=some r):
  Con prog 40 #[.agg (jB x0 aB aA ay aH aG au)] σ [] (Iu_ σ r):=by
 dsimp only [J4_]at hh;refine cM 20 Tryz.func40 (λw0=> ?_);refine R2 ?_;refine TL.bx (λaP=> ?_);refine TL.al (λbK=> ?_);refine R6 ?_;obtain ⟨v5,u5,hh⟩:=bg hh;refine φ z (gI (Tm (x0:=x0) aC aV aS u5) z z Qb z z z ?_);refine R2 ?_;refine π z hh (λdL hh=> ?_) (λdL hh=> ?_)
 ·refine R6 ?_;refine Ψ 1 ?_;obtain rfl:=so hh;exact rz
 refine R2 ?_;obtain ⟨v14,u14,hh⟩:=bg hh;obtain ⟨v17,GZ,hh⟩:=bg hh;obtain ⟨v20,u20,hh⟩:=bg hh;refine TC.dw [12,13] (ν 0 z fL z (χ 1 z lL z (ν 2 z fL z (χ 3 z lL z (ν 5 z fL z (χ 6 z lL z (ν 8 z fL z (χ 9 z lL z (υ 4 z (OpOk.call (Mi_ aC u14) z z pf99 z z z z ?_))))))))));rintro _ _ _ lU ⟨a112_1,c112_1,rfl,rfl,rfl⟩;refine k1 (υ 7 z (OpOk.call (Mi_ aV GZ) z z pf99 z z z z ?_));rintro _ _ _ tV ⟨a114_1,c114_1,rfl,rfl,rfl⟩;refine k2 (υ 10 z (OpOk.call (Nd_ aS u20) z z pf101 z z z z ?_));rintro _ _ _ og ⟨a116_1,c116_1,rfl,rfl,rfl⟩;refine k3 (ν 11 z bL z (Ω 3 (TA.la 12 z z z (storeAll z uh_ z z z z z z ?_))));refine TZ.w 13 z z z mI z z (R1 ?_);refine TC.fr 3 (TC.jO iV (λτ120 nZ su=> ?_));refine TC.fr 2 (TC.jO iV (λτ123 kJ D7=> ?_));replace su:=su.mono kJ;refine TC.fr 1 (TC.jO IE (λτ126 FN VF=> ?_));replace su:=su.mono FN;replace D7:=D7.mono FN;refine Ψ 1 ?_;obtain rfl:=so hh;exact rz
def Cm_(x0:List Tip)(x1:List Tip)(fU:Nat):Option ((Nat)⊕(Bool)):=
 iteO (decide ((fU:Int)<(x0.length:Int))) (grd (fU<x1.length) (iteO (decide (¬ ((nth x0 fU aY)=(nth x1 fU aY)))) (fin (some false)) (nxt (fU+1)))) (fin (some true))
def Gp_(x0:List Tip)(x1:List Tip):Option (Bool):=
 iteO (decide ((x0.length:Int)≠(x1.length:Int))) (some false) (iter (λq:Nat=>Cm_ x0 x1 q) 0)
def Ax_(x0:Fst)(i123:Int):Option (Bool):=
 iteO (decide (i123<=60)) (iteO (decide (x0.states<=20)) (some true) (some (decide (1024<x0.states)))) (some false)
def XH(x0:Fst)(BJ:Int)(gU:Nat):Option ((Int×Nat)⊕(Bool)):=
 iteO (decide ((gU:Int)<(x0.arcs.length:Int))) (iteO (decide (BJ<=60)) (nxt ((IntKind.i64.wrap (BJ+(IntKind.i64.wrap (Int.tdiv (((nth x0.arcs gU aQ).out).length:Int) 40)))),(gU+1))) (fin (Ax_ x0 BJ))) (fin (Ax_ x0 BJ))
def Ay_(x0:Fst)(i113:Int):Option (Bool):=
 iter (λq:Int×Nat=>XH x0 q.1 q.2) (i113,0)
def XG(x0:Fst)(BK:Int)(mZ:Nat):Option ((Int×Nat)⊕(Bool)):=
 iteO (decide ((mZ:Int)<(x0.ends.length:Int))) (iteO (decide (BK<=60)) (nxt ((IntKind.i64.wrap (BK+(IntKind.i64.wrap (Int.tdiv (((nth x0.ends mZ aY).out).length:Int) 40)))),(mZ+1))) (fin (Ay_ x0 BK))) (fin (Ay_ x0 BK))
def Au_(x0:Fst)(I9:Int):Option (Bool):=
 iter (λq:Int×Nat=>XG x0 q.1 q.2) (I9,0)
def XF(x0:Fst)(o7:Int)(vS:Nat):Option ((Int×Nat)⊕(Bool)):=
 iteO (decide ((vS:Int)<(x0.starts.length:Int))) (iteO (decide (o7<=60)) (nxt ((IntKind.i64.wrap (o7+(IntKind.i64.wrap (Int.tdiv (((nth x0.starts vS aY).out).length:Int) 40)))),(vS+1))) (fin (Au_ x0 o7))) (fin (Au_ x0 o7))
def Cn_(x0:Fst):Option (Bool):=
 iter (λq:Int×Nat=>XF x0 q.1 q.2) ((IntKind.i64.wrap ((IntKind.i64.wrap ((x0.starts.length:Int)+(x0.ends.length:Int)))+(x0.arcs.length:Int))),0)
theorem Kx_{σ:aj}{x0:Fst}(aC:RS σ 2 bf (.slice aB x0.starts.length aA) x0.starts)(aV:RS σ 2 bf (.slice ay x0.ends.length aH) x0.ends)(aS:RS σ 8 fP (.slice aG x0.arcs.length au) x0.arcs){r:Bool}(hh:Cn_ x0=some r):
  Con prog 38 #[.agg (jB x0 aB aA ay aH aG au)] σ [] (jq (.bool r) σ):=by
 dsimp only [Cn_]at hh;have f0_0b:=aC.rv.big;have f0_1b:=aV.rv.big;have f0_2b:=aS.rv.big;refine cM 93 Tryz.func38 (λw0=> ?_);refine R2 ?_;refine TL.bx (λaP=> ?_);refine R17 ?_;refine TC.cutG (α:=(Int)×(Unit)) (rgs [(3,2),(18,21)]) (λg=>[(3,.int .i64 g.1)]) (λg=>[ω aP (jB x0 aB aA ay aH aG au) 25]) (λg=>σ) (λg=>Au_ x0 g.1=some r) ?_ (λg j hg=> ?_)
 ·refine R5 ?_;refine TC.lp hh () (rgs [(3,2),(18,21)]) (λ⟨o7,vS⟩ _=>([(3,.int .i64 o7),(4,.int .i64 (vS:Int))],[ω aP (jB x0 aB aA ay aH aG au) 25])) (θ 1 z) ?_;rintro ⟨o7,vS⟩ _ _ z1 hh hR1;dsimp only [XF]at hh ⊢;refine R9 ?_;refine δ 23 z (λfD=> ?_) (λfD=> ?_)
  ·obtain ⟨fD,hh⟩:=iT fD hh;refine R4 ?_;refine π z hh (λgZ hh=> ?_) (λgZ hh=> ?_)
   ·refine R11 ?_;refine ι z (xq z kR z) (ι z (quoW z z z (by decide)) (R8 ?_));exact nxq hR1 hh () (θ 1 z)
   refine R1 ?_;replace hh:=bJ hR1 hh;refine R1 ?_;exact cf (o7,()) hh (θ 1 z)
  obtain ⟨fD,hh⟩:=iF fD hh;refine R6 ?_;replace hh:=bJ hR1 hh;refine R1 ?_;exact cf (o7,()) hh (θ 1 z)
 obtain ⟨I9,_⟩:=g;have hh:=hg;clear hg
 try dsimp only
 dsimp only [Au_]at hh;refine TC.cutG (α:=(Int)×(Unit)) (rgs [(3,1),(5,1),(39,21)]) (λg=>[(3,.int .i64 g.1)]) (λg=>[ω aP (jB x0 aB aA ay aH aG au) 25]) (λg=>σ) (λg=>Ay_ x0 g.1=some r) ?_ (λg j hg=> ?_)
 ·refine R5 ?_;refine TC.lp hh () (rgs [(3,1),(5,1),(39,21)]) (λ⟨BK,mZ⟩ _=>([(3,.int .i64 BK),(5,.int .i64 (mZ:Int))],[ω aP (jB x0 aB aA ay aH aG au) 25])) (θ 1 z) ?_;rintro ⟨BK,mZ⟩ _ _ z1 hh hR1;dsimp only [XG]at hh ⊢;refine R9 ?_;refine δ 44 z (λqX=> ?_) (λqX=> ?_)
  ·obtain ⟨qX,hh⟩:=iT qX hh;refine R4 ?_;refine π z hh (λtY hh=> ?_) (λtY hh=> ?_)
   ·refine R11 ?_;refine ι z (xq z kR z) (ι z (quoW z z z (by decide)) (R8 ?_));exact nxq hR1 hh () (θ 1 z)
   refine R1 ?_;replace hh:=bJ hR1 hh;refine R1 ?_;exact cf (BK,()) hh (θ 1 z)
  obtain ⟨qX,hh⟩:=iF qX hh;refine R6 ?_;replace hh:=bJ hR1 hh;refine R1 ?_;exact cf (BK,()) hh (θ 1 z)
 obtain ⟨i113,_⟩:=g;have hh:=hg;clear hg
 try dsimp only
 dsimp only [Ay_]at hh;refine TC.cutG (α:=(Int)×(Unit)) (rgs [(3,1),(6,1),(60,21)]) (λg=>[(3,.int .i64 g.1)]) (λg=>[ω aP (jB x0 aB aA ay aH aG au) 25]) (λg=>σ) (λg=>Ax_ x0 g.1=some r) ?_ (λg j hg=> ?_)
 ·refine R5 ?_;refine TC.lp hh () (rgs [(3,1),(6,1),(60,21)]) (λ⟨BJ,gU⟩ _=>([(3,.int .i64 BJ),(6,.int .i64 (gU:Int))],[ω aP (jB x0 aB aA ay aH aG au) 25])) (θ 1 z) ?_;rintro ⟨BJ,gU⟩ _ _ z1 hh hR1;dsimp only [XH]at hh ⊢;refine R9 ?_;refine δ 65 z (λtX=> ?_) (λtX=> ?_)
  ·obtain ⟨tX,hh⟩:=iT tX hh;refine R4 ?_;refine π z hh (λCi hh=> ?_) (λCi hh=> ?_)
   ·refine R11 ?_;refine ι z (xq z kR z) (ι z (quoW z z z (by decide)) (R8 ?_));exact nxq hR1 hh () (θ 1 z)
   refine R1 ?_;replace hh:=bJ hR1 hh;refine R1 ?_;exact cf (BJ,()) hh (θ 1 z)
  obtain ⟨tX,hh⟩:=iF tX hh;refine R6 ?_;replace hh:=bJ hR1 hh;refine R1 ?_;exact cf (BJ,()) hh (θ 1 z)
 obtain ⟨i123,_⟩:=g;have hh:=hg;clear hg
 try dsimp only
 dsimp only [Ax_]at hh;refine R5 ?_;refine δ 83 z (λCc=> ?_) (λCc=> ?_)
 ·obtain ⟨Cc,hh⟩:=iT Cc hh;refine R4 ?_;refine δ 87 z (λOi=> ?_) (λOi=> ?_)
  ·obtain ⟨Oi,hh⟩:=iT Oi hh;refine R7 ?_;refine Ψ 0 ?_;obtain rfl:=so hh;exact rq [2] ⟨z,z,z⟩
  obtain ⟨Oi,hh⟩:=iF Oi hh;refine R7 ?_;refine Ψ 0 ?_;obtain rfl:=so hh;exact rq [2] ⟨z,z,z⟩
 obtain ⟨Cc,hh⟩:=iF Cc hh;refine R11 ?_;refine Ψ 0 ?_;obtain rfl:=so hh;exact rq [2] ⟨z,z,z⟩
end Go.Proofs.YtcfgkcfcddfccaaGreatDoor
end

noncomputable section
namespace Go.Proofs.YtcfgkcfcddfccaaGreatDoor
open Go Go.E
section
variable {α:Type} [DecidableEq α] (d:α)
def ddN(l:List α):Nat->List α
  |0=>[]
  |n+1=>ddN l n++(if n=0\/nth l n d≠nth l (n - 1) d then [nth l n d] else [])
theorem tk_(l:List α): ∀n,n<=l.length-> ∀x,x∈ddN d l n↔x∈l.take n
  |0,_,x=>by simp [ddN]
  | n + 1, h, x => by
    rw [ddN,qh l (by omega) d,List.mem_append,List.mem_append,tk_ l n (by omega)]
    by_cases hc:n=0\/nth l n d≠nth l (n - 1) d
    · rw [if_pos hc]
    rw [if_neg hc];simp only [not_or,ne_eq,Decidable.not_not]at hc;have:nth l n d∈l.take n:=by
      rw [hc.2];have h1:(l.take n)[n - 1]? =some (nth l (n - 1) d):=by rw [List.getElem?_take,if_pos (by omega)];exact getD_some l (by omega) d
      exact List.mem_of_getElem? h1
    constructor
    · rintro (h|h)
      · exact .inl h
      cases h
    rintro (h|h)
    · exact .inl h
    rw [List.mem_singleton.1 h];exact .inl this
theorem wj_{l:List α}{k i:Nat}{v:α}(h:i≠k):nth (l.set k v) i d=nth l i d:=by
  simp [nth,List.getD,List.getElem?_set,Ne.symm h]
include d in
theorem q6_{l:List α}{k:Nat}{v:α}(h:k<l.length):(l.set k v).take (k+1)=l.take k++[v]:=by
  rw [qh (l.set k v) (by simpa using h) d];congr 1
  · rw [List.take_set_of_le (Nat.le_refl _)]
  simp [nth,List.getD,h]
def gC_j(aU:Nat)(zZ:List α)(bV:Nat):Option ((List α×Nat×Nat)⊕(Nat⊕List α)):=
  nxt (zZ,bV,(aU+1))
def w9_(x0:List α)(aI:Nat)(aK:List α)(aX:Nat)(aU:Nat):Option ((List α×Nat×Nat)⊕(Nat⊕List α)):=
  iteO (decide (((aU:Nat):Int)<(((x0.length - aI):Nat):Int))) (grd (aU<(x0.length - aI)) (grd (0<=(IntKind.i64.wrap (((aU:Nat):Int) - 1))/\(IntKind.i64.wrap (((aU:Nat):Int) - 1))<((x0.length - aI):Nat)) (iteO (decide (¬ ((nth aK (aI+aU) d)=(nth aK (aI+(IntKind.i64.wrap (((aU:Nat):Int) - 1)).toNat) d)))) (grd (aU<(x0.length - aI)) (grd (aX<aK.length) (gC_j aU (aK.set aX (nth aK (aI+aU) d)) (aX+1)))) (gC_j aU aK aX)))) (fin (grd (aX<=x0.length) (grd (aX<=(aK.take aX++List.replicate (aK.length - aX) d).length) (fin (some ((aK.take aX++List.replicate (aK.length - aX) d).take aX))))))
def z0_(x0:List α)(aI:Nat):Option ((Nat)⊕(List α)):=
  iteO (decide (((aI:Nat):Int)<((x0.length:Nat):Int))) (grd (0<=(IntKind.i64.wrap (((aI:Nat):Int) - 1))/\(IntKind.i64.wrap (((aI:Nat):Int) - 1))<(x0.length:Int)) (iteO (decide ((nth x0 aI d)=(nth x0 ((IntKind.i64.wrap (((aI:Nat):Int) - 1)).toNat) d))) (grd (aI<=x0.length) (iter (λq:(List α)×Nat×Nat=>w9_ d x0 aI q.1 q.2.1 q.2.2) (x0,aI,1))) (nxt (aI+1)))) (fin (some x0))
def gC(x0:List α):Option (List α):=
  iteO (decide (((x0.length:Nat):Int)<2)) (some x0) (iter (λq:Nat=>z0_ d x0 q) 1)
theorem r4_{k:Nat}(h1:1<=k)(h2:k<=281474976710656):IntKind.i64.wrap ((k:Int) - 1)=((k - 1:Nat):Int):=by
  rw [Ja (by omega) (by omega)];omega
theorem gC_in {l : List α} (hl : l.length <= 281474976710656) {k0 : Nat} (h0 : 1 <= k0) (hk : k0 < l.length) (he : nth l k0 d = nth l (k0 - 1) d) (hd : ddN d l k0 = l.take k0) :
    iter (λq:(List α)×Nat×Nat=>w9_ d l k0 q.1 q.2.1 q.2.2) (l,k0,1)=some (.inr (ddN d l l.length)):=by
  refine Exists.elim (Rh (step:=λq:(List α)×Nat×Nat=>w9_ d l k0 q.1 q.2.1 q.2.2)
    (λq=>1<=q.2.2/\k0+q.2.2<=l.length/\q.1.length=l.length/\q.2.1<=k0+q.2.2 - 1/\(∀i,k0+q.2.2 - 1<=i->nth q.1 i d=nth l i d)/\q.1.take q.2.1=ddN d l (k0+q.2.2))
    (λr=>r= .inr (ddN d l l.length)) (λq=>l.length - q.2.2) ?_ (l,k0,1) ⟨Nat.le_refl _,hk,rfl,by simp only;omega,λ_ _=>rfl,?_⟩) (λr hr=>by rw [hr.1,hr.2])
  · rintro ⟨l2,k,j⟩ ⟨hj,hjl,hlen,hkj,hI,ht⟩
    simp only at hj hjl hlen hkj hI ht;have hw:IntKind.i64.wrap ((j:Int) - 1)=((j - 1:Nat):Int):=r4_ hj (by omega)
    by_cases hlt:k0+j<l.length
    · left
      have e1:=hI (k0+j) (by omega);have e2:=hI (k0+(j - 1)) (by omega);simp only [w9_,hw,nI,decide_eq_true (show ((j:Nat):Int)<((l.length - k0:Nat):Int) by omega),iteO_true,
        cu (show j<l.length - k0 by omega),cu (show (0:Int)<=((j - 1:Nat):Int)/\((j - 1:Nat):Int)<((l.length - k0:Nat):Int) by omega),e1,e2]
      have e3:k0+(j - 1)=k0+j - 1:=by omega
      by_cases hc:nth l (k0+j) d=nth l (k0+(j - 1)) d
      · simp only [hc,not_true_eq_false,decide_false,iteO_false,gC_j]
        refine ⟨_,rfl,⟨by simp only;omega,by simp only;omega,hlen,by simp only;omega,λi hi=>hI i (by simp only at hi;omega),?_⟩,by simp only;omega⟩;simp only;rw [ht,<-Nat.add_assoc,ddN,if_neg,List.append_nil];rw [hc,e3];simp;omega
      simp only [hc,not_false_eq_true,decide_true,iteO_true,cu (show k<l2.length by omega),gC_j];refine ⟨_,rfl,⟨by simp only;omega,by simp only;omega,by simp only [fV];exact hlen,by simp only;omega,λi hi=> ?_,?_⟩,by simp only;omega⟩
      · simp only at hi ⊢
        rw [wj_ d (by omega)];exact hI i (by omega)
      simp only;rw [q6_ d (by omega),ht,<-Nat.add_assoc,ddN,if_pos];rw [e3]at hc;exact .inr hc
    right;have hjl':k0+j=l.length:=by omega
    have hkl:(l2.take k).length=k:=by rw [List.length_take];omega
    refine ⟨.inr (ddN d l l.length),?_,rfl⟩;simp only [w9_,decide_eq_false (show ¬ ((j:Nat):Int)<((l.length - k0:Nat):Int) by omega),iteO_false,cu (show k<=l.length by omega)];rw [cu (by rw [iK,hkl];omega),List.take_append_of_le_length (by omega),List.take_of_length_le (by omega),ht,hjl'];rfl
  simp only;rw [ddN,if_neg (by rw [he];simp;omega),List.append_nil,hd]
theorem gC_eq {l : List α} (hl : l.length <= 281474976710656) : gC d l = some (ddN d l l.length) := by
  unfold gC
  by_cases h2:l.length<2
  · rw [decide_eq_true (by omega),iteO_true]
    match l,h2 with
    |[],_=>rfl
    |[x],_=>rfl
  rw [decide_eq_false (by omega),iteO_false];refine Exists.elim (Rh (step:=λq:Nat=>z0_ d l q) (λk=>1<=k/\k<=l.length/\ddN d l k=l.take k) (λr=>r=ddN d l l.length) (λk=>l.length - k) ?_ 1 ⟨Nat.le_refl _,by omega,?_⟩) (λr hr=>by rw [hr.1,hr.2])
  · rintro k ⟨h1,hk,hd⟩
    by_cases hlt:k<l.length
    · simp only [z0_,r4_ h1 (show k<=281474976710656 by omega),nI,decide_eq_true (show ((k:Nat):Int)<((l.length:Nat):Int) by omega),iteO_true,
        cu (show (0:Int)<=((k - 1:Nat):Int)/\((k - 1:Nat):Int)<(l.length:Int) by omega)]
      by_cases hc:nth l k d=nth l (k - 1) d
      · right
        simp only [hc,decide_true,iteO_true,cu hk];exact ⟨_,gC_in d hl h1 hlt hc hd,rfl⟩
      left;simp only [hc,decide_false,iteO_false];refine ⟨k+1,rfl,⟨by omega,by omega,?_⟩,by omega⟩;rw [ddN,if_pos (.inr hc),hd,qh l hlt d]
    right;have:k=l.length:=by omega
    refine ⟨l,?_,?_⟩
    · simp only [z0_,decide_eq_false (show ¬ ((k:Nat):Int)<((l.length:Nat):Int) by omega),iteO_false];rfl
    rw [<-this,hd,List.take_of_length_le (by omega)]
  rw [ddN,if_pos (.inl rfl),qh l (by omega) d];simp [ddN]
end
def zO{α:Type}[DecidableEq α](d:α)(cf:α->α->Int)(l:List α):List α:=ddN d (rF cf l) l.length
section
variable {α:Type} [DecidableEq α] {d:α} {cf:α->α->Int}
theorem Gr_(l:List α):(rF cf l).length=l.length:=List.length_mergeSort _
theorem Vf{l:List α}{x:α}:x∈zO d cf l↔x∈l:=by
  have h:=Gr_ (cf:=cf) l;rw [zO,tk_ d _ _ (by omega),List.take_of_length_le (by omega),rF,List.mem_mergeSort]
theorem GoodCmp.le_trans(hc:GoodCmp cf){x y z:α}(h1: ¬ cf y x<0)(h2: ¬ cf z y<0): ¬ cf z x<0:=λh3=>by
  by_cases e:x=y
  · subst e;exact h2 h3
  by_cases e':y=z
  · subst e';exact h1 h3
  have a:=hc.anti y x;have b:=hc.anti z y;have a':=hc.eq y x;have b':=hc.eq z y;have h4:cf y z<0:=by
    rw [hc.anti];have:cf z y≠0:=λh=>e' ((b'.1 h).symm);omega
  exact h1 (hc.trans _ _ _ h4 h3)
theorem Mr_(hc:GoodCmp cf)(l:List α):(rF cf l).Pairwise λx y=> ¬ cf y x<0:=by
  have:=List.pairwise_mergeSort (le:=λx y=> !decide (cf y x<0)) (λa b c h1 h2=>by
    simp only [Bool.not_eq_true',decide_eq_false_iff_not]at *;exact hc.le_trans h1 h2) (λa b=>by
    have:=hc.anti a b;simp only [Bool.or_eq_true,Bool.not_eq_true',decide_eq_false_iff_not];omega) l
  exact this.imp λh=>by simpa using h
theorem io_ (hc : GoodCmp cf) (l : List α) : (zO d cf l).Pairwise λx y => cf x y < 0 := by
  have hs:=Mr_ hc l;have hlen:=Gr_ (cf:=cf) l;unfold zO;generalize rF cf l=s at hs hlen;have key: ∀n,n<=s.length->(ddN d s n).Pairwise λx y=>cf x y<0:=by
    intro n
    induction n with
    |zero=>intro _;exact List.Pairwise.nil
    |succ n ih=>
      intro h;rw [ddN]
      split
      · rename_i hn
        rw [List.pairwise_append];refine ⟨ih (by omega),List.pairwise_singleton ..,λx hx y hy=> ?_⟩;rw [List.mem_singleton.1 hy];rw [tk_ d s n (by omega)]at hx;have hn0:n≠0:=λe=>by subst e;simp at hx
        have hne:nth s n d≠nth s (n - 1) d:=by rcases hn with h|h;exact absurd h hn0;exact h
        obtain ⟨i,hi,hxi⟩:=List.mem_iff_getElem.1 hx;have hi':i<n:=by simp at hi;omega
        have hxi:s[i]'(by omega)=x:=by rw [<-hxi,List.getElem_take]
        have hp:=List.pairwise_iff_getElem.1 hs;have eN: ∀{k:Nat} (hk:k<s.length),nth s k d=s[k]:=λhk=>by simp [nth,List.getD,hk]
        rw [eN (by omega),eN (by omega)]at hne;rw [eN (by omega)];have h1:cf (s[n - 1]'(by omega)) (s[n]'(by omega))<0:=by
          have:=hp (n - 1) n (by omega) (by omega) (by omega);have a:=hc.anti (s[n - 1]'(by omega)) (s[n]'(by omega));have b:=hc.eq (s[n]'(by omega)) (s[n - 1]'(by omega));have:cf (s[n]'(by omega)) (s[n - 1]'(by omega))≠0:=λh=>hne (b.1 h);omega
        by_cases hin:i=n - 1
        · subst hin;rw [<-hxi];exact h1
        have h2:=hp i (n - 1) (by omega) (by omega) (by omega);rw [hxi]at h2
        by_cases e:x=s[n - 1]'(by omega)
        · rw [e];exact h1
        refine hc.trans _ _ _ ?_ h1;have a:=hc.anti x (s[n - 1]'(by omega));have b:=hc.eq (s[n - 1]'(by omega)) x;have:cf (s[n - 1]'(by omega)) x≠0:=λh=>e (b.1 h).symm;omega
      rw [List.append_nil];exact ih (by omega)
  exact key _ (by omega)
theorem qi_{R:α->α->Prop}(hi: ∀x, ¬ R x x)(ht: ∀x y z,R x y->R y z->R x z): ∀{l m:List α},l.Pairwise R->m.Pairwise R->(∀x,x∈l↔x∈m)->l=m
  |[],[],_,_,_=>rfl
  |[],y::m,_,_,h=>by have:=(h y).2 (iU ..);cases this
  |x::l,[],_,_,h=>by have:=(h x).1 (iU ..);cases this
  | x :: l, y :: m, hl, hm, h => by
    rw [List.pairwise_cons]at hl hm;have e:x=y:=by
      have h1:=(h x).1 (iU ..);have h2:=(h y).2 (iU ..);rw [List.mem_cons]at h1 h2;rcases h1 with h1|h1
      · exact h1
      rcases h2 with h2|h2
      · exact h2.symm
      exact absurd (ht _ _ _ (hm.1 x h1) (hl.1 y h2)) (hi y)
    subst e;rw [qi_ hi ht hl.2 hm.2 λz=> ?_];have:=h z;simp only [List.mem_cons]at this;constructor
    · intro hz
      rcases this.1 (.inr hz)with e|h'
      · subst e;exact absurd (hl.1 z hz) (hi z)
      exact h'
    intro hz;rcases this.2 (.inr hz)with e|h'
    · subst e;exact absurd (hm.1 z hz) (hi z)
    exact h'
theorem GoodCmp.irr(hc:GoodCmp cf)(x:α): ¬ cf x x<0:=by have:=(hc.eq x x).2 rfl;omega
theorem r3_(hc:GoodCmp cf){l m:List α}(hl:l.Pairwise λx y=>cf x y<0)(hm:m.Pairwise λx y=>cf x y<0)(h: ∀x,x∈l↔x∈m):l=m:=
  qi_ (R:=λx y=>cf x y<0) hc.irr hc.trans hl hm h
theorem Mh_(l:List α):(zO d cf l).length<=l.length:=by
  have h: ∀(s:List α) n,(ddN d s n).length<=n:=λs n=>by
    induction n with
    |zero=>exact Nat.le_refl _
    |succ n ih=>rw [ddN,iK];split<;>simp<;>omega
  exact h _ _
end
theorem M5_:j4_=gC (0:Int):=rfl
theorem Nh_{l:ah}(h:l.length * 8<=140737488355328):zg_ l=some (zO 0 qg l):=by
  rw [zg_,cu h,M5_,gC_eq 0 (by rw [Gr_];omega),Gr_];rfl
def tipB(n:Int)(p:Tip):Bool:=decide (0<=p.state) && decide (p.state<n) && decide ((p.out.length:Int)<=1024)
def JF(l:List Tip)(n:Int):Bool:=decide ((l.length:Int)<=1024) && l.all (tipB n)
def arcB(n:Int)(a:Arc):Bool:=decide (0<=a.frm) && decide (a.frm<n) && decide (0<=a.to) && decide (a.to<n) && decide (a.set≠BSet.zero) && decide ((a.out.length:Int)<=1024)
def xC(t:Fst):Bool:=decide (0<=t.states) && decide (t.states<=1024) && decide ((t.arcs.length:Int)<=16384) && JF t.starts t.states && JF t.ends t.states && t.arcs.all (arcB t.states)
theorem Hh_(s n:Int):Er_ s n=some (decide (0<=s) && decide (s<n)):=by
  unfold Er_
  by_cases h:0<=s<;>simp [h]
theorem ms_ (l : List Tip) (n : Int) : Xz l n = some (JF l n) := by
  unfold Xz JF
  by_cases h:(l.length:Int)<=1024
  · rw [decide_eq_false (by omega),iteO_false,vl_ (y:=true) (no:=false) l aY (tipB n)]
    · rw [decide_eq_true h,Bool.true_and];cases l.all (tipB n)<;>rfl
    · intro k hk hp
      simp only [tipB,Bool.and_eq_true,iL]at hp;simp only [Bk_,JG hk,iteO_true,Hh_,bnd,Option.bind_some,hp.1.1,hp.1.2,decide_true,Bool.and_self,Bool.not_true,iteO_false,decide_eq_false (show ¬ (1024:Int)<((nth l k aY).out.length:Int) by omega)];rfl
    · intro k hk hp
      simp only [Bk_,JG hk,iteO_true,Hh_,bnd,Option.bind_some]
      by_cases hc:(decide (0<=(nth l k aY).state) && decide ((nth l k aY).state<n))=true
      · rw [hc]
        simp only [tipB,hc,Bool.true_and,decide_eq_false_iff_not]at hp;simp only [Bool.not_true,iteO_false,decide_eq_true (show (1024:Int)<((nth l k aY).out.length:Int) by omega),iteO_true];rfl
      simp only [Bool.not_eq_true]at hc;rw [hc];rfl
    simp only [Bk_,Int.lt_irrefl,decide_false,iteO_false];rfl
  rw [decide_eq_true (by omega),iteO_true];simp [h]
theorem Xw(t:Fst):Gp t=some (Dx (xC t)):=by
  unfold Gp
  by_cases h1:t.states<0
  · rw [decide_eq_true h1,iteO_true];simp [xC,Dx,show ¬ 0<=t.states by omega]
  rw [decide_eq_false h1,iteO_false]
  by_cases h2:1024<t.states
  · rw [decide_eq_true h2,iteO_true];simp [xC,Dx,show ¬ t.states<=1024 by omega]
  rw [decide_eq_false h2,iteO_false]
  by_cases h3:(16384:Int)<(t.arcs.length:Int)
  · rw [decide_eq_true h3,iteO_true];simp only [xC,decide_eq_false (show ¬ (t.arcs.length:Int)<=16384 by omega),Bool.and_false,Bool.false_and];rfl
  rw [decide_eq_false h3,iteO_false,ms_,bnd,Option.bind_some];have e0:xC t=(JF t.starts t.states && JF t.ends t.states && t.arcs.all (arcB t.states)):=by
    simp only [xC,decide_eq_true (show 0<=t.states by omega),decide_eq_true (show t.states<=1024 by omega),decide_eq_true (show (t.arcs.length:Int)<=16384 by omega),Bool.true_and]
  rw [e0];cases h4:JF t.starts t.states
  · rfl
  simp only [Bool.not_true,iteO_false,ms_,bnd,Option.bind_some];cases h5:JF t.ends t.states
  · rfl
  simp only [Bool.not_true,iteO_false,Bool.and_self,Bool.true_and];rw [vl_ (y:=0) (no:=1) t.arcs aQ (arcB t.states)]
  · rfl
  · intro k hk hp
    simp only [arcB,Bool.and_eq_true,iL]at hp;obtain ⟨⟨⟨⟨⟨p1,p2⟩,p3⟩,p4⟩,p5⟩,p6⟩:=hp;simp only [Ds_,JG hk,iteO_true,Hh_,bnd,Option.bind_some,p1,p2,p3,p4,p5,decide_true,decide_false,Bool.and_self,Bool.not_true,iteO_false,decide_eq_false (show ¬ (1024:Int)<((nth t.arcs k aQ).out.length:Int) by omega)];rfl
  · intro k hk hp
    simp only [Ds_,JG hk,iteO_true,Hh_,bnd,Option.bind_some];cases hc:(decide (0<=(nth t.arcs k aQ).frm) && decide ((nth t.arcs k aQ).frm<t.states))
    · rfl
    cases hd:(decide (0<=(nth t.arcs k aQ).to) && decide ((nth t.arcs k aQ).to<t.states))
    · rfl
    simp only [Bool.not_true,iteO_false]
    by_cases he:(nth t.arcs k aQ).set=BSet.zero
    · rw [decide_eq_true he];rfl
    rw [decide_eq_false he,iteO_false];have hd':(decide (0<=(nth t.arcs k aQ).frm) && decide ((nth t.arcs k aQ).frm<t.states) && decide (0<=(nth t.arcs k aQ).to) && decide ((nth t.arcs k aQ).to<t.states))=true:=by rw [Bool.and_assoc,hc,hd];rfl
    simp only [arcB,hd',Bool.true_and,ne_eq,he,not_false_eq_true,decide_true,decide_eq_false_iff_not]at hp;rw [decide_eq_true (by omega)];rfl
  simp only [Ds_,Int.lt_irrefl,decide_false,iteO_false];rfl
theorem l4_{b:Bool}:decide (Dx b≠0)= !b:=by cases b<;>rfl
def outOf(p:FPair)(a:Arc)(b:UInt8):T_1:=if a.copy then (p.out++a.out)++[b] else p.out++a.out
def aftA(g:List Arc)(p:FPair)(b:UInt8):List FPair:=(g.filter λa=>a.set.has b.toNat).map λa=>⟨a.to,outOf p a b⟩
def aftP(t:Fst)(S:List FPair)(b:UInt8):List FPair:=S.flatMap λp=>aftA (t.arcs.filter λa=>decide (a.frm=p.state)) p b
def tp(x:Tip):FPair:=⟨x.state,x.out⟩
def Yh(t:Fst)(w:T_1):List FPair:=w.foldl (aftP t) (t.starts.map tp)
def endT(t:Fst)(S:List FPair):bC:=S.flatMap λp=>((t.ends.filter λe=>decide (e.state=p.state)).map Tip.out).map λo=>p.out++o
def X4(t:Fst)(w:T_1):bC:=zO [] Lib.compareBytes (endT t (Yh t w))
theorem zv_{g:List Arc}{p q:FPair}{b:UInt8}:q∈aftA g p b↔ ∃a∈g,a.set.has b.toNat=true/\q=⟨a.to,outOf p a b⟩:=by
  simp only [aftA,List.mem_map,List.mem_filter];constructor
  · rintro ⟨a,⟨h1,h2⟩,h3⟩;exact ⟨a,h1,h2,h3.symm⟩
  rintro ⟨a,h1,h2,h3⟩;exact ⟨a,⟨h1,h2⟩,h3.symm⟩
theorem z7_{t:Fst}{S:List FPair}{b:UInt8}{q:FPair}:q∈aftP t S b↔ ∃p∈S, ∃a∈t.arcs,a.frm=p.state/\a.set.has b.toNat=true/\q=⟨a.to,outOf p a b⟩:=by
  simp only [aftP,List.mem_flatMap,zv_,List.mem_filter,iL];constructor
  · rintro ⟨p,h1,a,⟨h2,h3⟩,h4,h5⟩;exact ⟨p,h1,a,h2,h3,h4,h5⟩
  rintro ⟨p,h1,a,h2,h3,h4,h5⟩;exact ⟨p,h1,a,⟨h2,h3⟩,h4,h5⟩
theorem tipB_ok{n:Int}{p:Tip}(h:tipB n p=true):(0<=p.state/\p.state<n)/\p.out.length<=1024:=by
  simp only [tipB,Bool.and_eq_true,iL]at h;exact ⟨h.1,by omega⟩
theorem nd_{n:Int}{l:List Tip}(h:JF l n=true):l.length<=1024/\ ∀p∈l,(0<=p.state/\p.state<n)/\p.out.length<=1024:=by
  simp only [JF,Bool.and_eq_true,iL,List.all_eq_true]at h;exact ⟨by omega,λp hp=>tipB_ok (h.2 p hp)⟩
theorem arcB_ok{n:Int}{a:Arc}(h:arcB n a=true):(0<=a.frm/\a.frm<n)/\(0<=a.to/\a.to<n)/\a.set≠BSet.zero/\a.out.length<=1024:=by
  simp only [arcB,Bool.and_eq_true,iL]at h;obtain ⟨⟨⟨⟨⟨p1,p2⟩,p3⟩,p4⟩,p5⟩,p6⟩:=h;exact ⟨⟨p1,p2⟩,⟨p3,p4⟩,p5,by omega⟩
structure FstOk (t:Fst):Prop where
  st0:0<=t.states
  st1:t.states<=1024
  arcsN:t.arcs.length<=16384
  startsN:t.starts.length<=1024
  endsN:t.ends.length<=1024
  starts: ∀p∈t.starts,(0<=p.state/\p.state<t.states)/\p.out.length<=1024
  ends: ∀p∈t.ends,(0<=p.state/\p.state<t.states)/\p.out.length<=1024
  arcs: ∀a∈t.arcs,(0<=a.frm/\a.frm<t.states)/\(0<=a.to/\a.to<t.states)/\a.set≠BSet.zero/\a.out.length<=1024
theorem UY(t:Fst):xC t=true↔FstOk t:=by
  constructor
  · intro h
    simp only [xC,Bool.and_eq_true,iL,List.all_eq_true]at h;obtain ⟨⟨⟨⟨⟨h1,h2⟩,h3⟩,h4⟩,h5⟩,h6⟩:=h;exact ⟨h1,h2,by omega,(nd_ h4).1,(nd_ h5).1,(nd_ h4).2,(nd_ h5).2,λa ha=>arcB_ok (h6 a ha)⟩
  rintro ⟨h1,h2,h3,h4,h5,h6,h7,h8⟩;have hT: ∀l:List Tip,l.length<=1024->(∀p∈l,(0<=p.state/\p.state<t.states)/\p.out.length<=1024)->JF l t.states=true:=λl hl hp=>by
    simp only [JF,Bool.and_eq_true,iL,List.all_eq_true];refine ⟨by omega,λp hq=> ?_⟩;have:=hp p hq;simp only [tipB,Bool.and_eq_true,iL];omega
  simp only [xC,Bool.and_eq_true,iL,List.all_eq_true];refine ⟨⟨⟨⟨⟨h1,h2⟩,by omega⟩,hT _ h4 h6⟩,hT _ h5 h7⟩,λa ha=> ?_⟩;obtain ⟨p1,p2,p3,p4⟩:=h8 a ha;simp only [arcB,Bool.and_eq_true,iL];exact ⟨⟨⟨⟨p1,p2.1⟩,p2.2⟩,p3⟩,by omega⟩
theorem tl_(t:Fst)(w:T_1)(b:UInt8):Yh t (w++[b])=aftP t (Yh t w) b:=by simp [Yh]
def endsN(d:Dfa)(m:Nat):ah:=(List.range m).flatMap λs=>if nth d.fin s false=true then [((s:Nat):Int)] else []
theorem tm_(cls:ah): ∃r,Tc cls=some r/\(((cls.length≠256\/jX cls=none)/\r.2=1)\/(cls.length=256/\jX cls=some r.1.length/\r.2=0)):=by
  obtain ⟨r,h,h1|h1⟩:=k6_ cls
  · exact ⟨r,h,.inl h1⟩
  exact ⟨r,h,.inr ⟨h1.1,h1.2.1,h1.2.2.1⟩⟩
def IY(n:Nat)(s:Int):Bool:=decide (0<=s) && decide (s<(n:Int))
def G6(n m:Nat)(row:ah):Bool:=decide (row.length=m) && row.all (IY n)
def kU(d:Dfa):Bool:=decide (d.cls.length=256) && (match jX d.cls with|some m=>d.next.all (G6 d.next.length m)|none=>false) && decide (1<=d.next.length/\d.next.length<=1024) && decide (d.fin.length=d.next.length)
theorem rw_{α:Type}(p:α->Bool)(l:List α)(x:α):(l++[x]).all p=(l.all p && p x):=by simp [List.all_append]
theorem jy_{α:Type}{p:α->Bool}{l:List α}{k:Nat}(hk:k<l.length)(d:α)(h:p (nth l k d)=false):l.all p=false:=by
  rw [List.all_eq_false];exact ⟨_,List.mem_of_getElem? (getD_some l hk d),by simp [h]⟩
theorem chk_in(d:Dfa)(k:Nat): ∃r,iter (λq:Nat=>D4_ d k q) 0=some r/\(((nth d.next k []).all (IY d.next.length)=true/\r= .inl (k+1))\/((nth d.next k []).all (IY d.next.length)=false/\r= .inr 1)):=
  vt_ (step:=λq:Nat=>D4_ d k q) (λ(_:Unit) j=>j) (nth d.next k []) 0 (λpre _=>pre.all (IY d.next.length)=true) (λr=>((nth d.next k []).all (IY d.next.length)=true/\r= .inl (k+1))\/((nth d.next k []).all (IY d.next.length)=false/\r= .inr 1))
    (λj s hj hI=>by
      simp only [D4_];rw [show decide (((j:Nat):Int)<(((nth d.next k ([]:ah)).length:Nat):Int))=true from decide_eq_true (by omega),iteO_true]
      by_cases c1:nth (nth d.next k ([]:ah)) j (0:Int)<0
      · right;rw [decide_eq_true c1,iteO_true];exact ⟨_,rfl,.inr ⟨jy_ hj 0 (by simp [IY];omega),rfl⟩⟩
      rw [decide_eq_false c1,iteO_false]
      by_cases c2:((d.next.length:Nat):Int)<=nth (nth d.next k ([]:ah)) j (0:Int)
      · right;rw [decide_eq_true c2,iteO_true];exact ⟨_,rfl,.inr ⟨jy_ hj 0 (by simp [IY];omega),rfl⟩⟩
      rw [decide_eq_false c2,iteO_false];left;exact ⟨(),rfl,by rw [rw_,hI];simp [IY];omega⟩)
    (λs hI=>by
      simp only [D4_];rw [show decide ((((nth d.next k ([]:ah)).length:Nat):Int)<(((nth d.next k ([]:ah)).length:Nat):Int))=false from decide_eq_false (by omega),iteO_false];exact ⟨_,rfl,.inl ⟨hI,rfl⟩⟩) (s0:=()) rfl
theorem chk_out (d : Dfa) (v : (List BSet) × Int) : ∃ r, iter (λq : Nat => Du_ d v q) 0 = some r /\ ((d.next.all (G6 d.next.length v.1.length) = true /\ r = 0) \/ (d.next.all (G6 d.next.length v.1.length) = false /\ r = 1)) :=
  vt_ (step:=λq:Nat=>Du_ d v q) (λ(_:Unit) j=>j) d.next [] (λpre _=>pre.all (G6 d.next.length v.1.length)=true) (λr=>(d.next.all (G6 d.next.length v.1.length)=true/\r=0)\/(d.next.all (G6 d.next.length v.1.length)=false/\r=1))
    (λk s hk hI=>by
      simp only [Du_];rw [show decide (((k:Nat):Int)<((d.next.length:Nat):Int))=true from decide_eq_true (by omega),iteO_true]
      by_cases c1:(nth d.next k ([]:ah)).length=v.1.length
      · rw [show decide ((((nth d.next k ([]:ah)).length:Nat):Int)≠((v.1.length:Nat):Int))=false from decide_eq_false (by omega),iteO_false]
        obtain ⟨r,h1,h2|h2⟩:=chk_in d k
        · left;rw [h1,h2.2];exact ⟨(),rfl,by rw [rw_,hI];simp [G6,c1,h2.1]⟩
        right;rw [h1,h2.2];exact ⟨_,rfl,.inr ⟨jy_ hk [] (by simp only [G6,h2.1,Bool.and_false]),rfl⟩⟩
      right;rw [show decide ((((nth d.next k ([]:ah)).length:Nat):Int)≠((v.1.length:Nat):Int))=true from decide_eq_true (by omega),iteO_true];exact ⟨_,rfl,.inr ⟨jy_ hk [] (by simp [G6,c1]),rfl⟩⟩)
    (λs hI=>by
      simp only [Du_];rw [show decide (((d.next.length:Nat):Int)<((d.next.length:Nat):Int))=false from decide_eq_false (by omega),iteO_false];exact ⟨_,rfl,.inl ⟨hI,rfl⟩⟩) (s0:=()) rfl
theorem Rf(d:Dfa):S_ d=some (if kU d=true then 0 else 1):=by
  unfold S_;obtain ⟨v,hv,h⟩:=tm_ d.cls;rw [iM hv];rcases h with ⟨h1,h2⟩|⟨h1,h2,h3⟩
  · rw [decide_eq_true (show v.2≠0 by omega),iteO_true]
    rw [if_neg];rcases h1 with h1|h1
    · simp [kU,h1]
    simp [kU,h1]
  rw [decide_eq_false (show ¬ v.2≠0 by omega),iteO_false]
  by_cases c1:d.next.length<1
  · rw [show decide (((d.next.length:Nat):Int)<1)=true from decide_eq_true (by omega),iteO_true,if_neg]
    simp only [kU,Bool.and_eq_true,iL];omega
  rw [show decide (((d.next.length:Nat):Int)<1)=false from decide_eq_false (by omega),iteO_false]
  by_cases c2:1024<d.next.length
  · rw [show decide (1024<((d.next.length:Nat):Int))=true from decide_eq_true (by omega),iteO_true,if_neg]
    simp only [kU,Bool.and_eq_true,iL];omega
  rw [show decide (1024<((d.next.length:Nat):Int))=false from decide_eq_false (by omega),iteO_false]
  by_cases c3:d.fin.length=d.next.length
  · rw [show decide (((d.fin.length:Nat):Int)≠((d.next.length:Nat):Int))=false from decide_eq_false (by omega),iteO_false]
    obtain ⟨r,hr,hr2⟩:=chk_out d v;rw [hr];have e:kU d=d.next.all (G6 d.next.length v.1.length):=by
      simp only [kU,h1,h2,c3,decide_true,Bool.true_and,Bool.and_true];rw [show decide (1<=d.next.length/\d.next.length<=1024)=true from decide_eq_true (by omega),Bool.and_true]
    rw [e];rcases hr2 with ⟨h4,h5⟩|⟨h4,h5⟩
    · rw [h4,h5,if_pos rfl]
    rw [h4,h5,if_neg (by simp)]
  rw [show decide (((d.fin.length:Nat):Int)≠((d.next.length:Nat):Int))=true from decide_eq_true (by omega),iteO_true,if_neg];simp only [kU,Bool.and_eq_true,iL];omega
theorem if_: ∀(l:ah) (j m:Nat),l.foldl uX (some j)=some m->j<=m/\ ∀n∈l,0<=n/\n<(m:Int)
  |[],j,m,h=>by cases h;simp
  |n::l,j,m,h=>by
    rw [List.foldl_cons]at h
    by_cases hc:n<0\/(j:Int)<n
    · rw [show uX (some j) n=none by simp [uX,hc],lu_]at h;cases h
    rw [show uX (some j) n=some (if n=j then j+1 else j) by simp [uX,hc]]at h;obtain ⟨h1,h2⟩:=if_ l _ m h;refine ⟨by split at h1<;>omega,λk hk=> ?_⟩
    rcases List.mem_cons.1 hk with rfl|hk
    · split at h1<;>omega
    exact h2 k hk
def okS(d:Dfa)(s:Int):Prop:=0<=s/\s<(d.next.length:Int)
def dlt(d:Dfa)(s:Int)(b:UInt8):Int:=nth (nth d.next s.toNat ([]:ah)) ((nth d.cls b.toNat (0:Int)).toNat) (0:Int)
theorem UZ{α:Type}{l:List α}{i:Nat}(hi:i<l.length)(d:α):nth l i d∈l:=List.mem_of_getElem? (getD_some l hi d)
structure DltOk (d:Dfa) (s:Int) (b:UInt8):Prop where
  cl:b.toNat<d.cls.length
  c:0<=nth d.cls b.toNat (0:Int)/\nth d.cls b.toNat (0:Int)<((nth d.next s.toNat ([]:ah)).length:Int)
  nx:okS d (dlt d s b)
  f:0<=dlt d s b/\dlt d s b<(d.fin.length:Int)
theorem px_{d:Dfa}(h:kU d=true){s:Int}(hs:okS d s)(b:UInt8):DltOk d s b:=by
  simp only [kU,Bool.and_eq_true,iL]at h;obtain ⟨⟨⟨h1,h2⟩,h3⟩,h4⟩:=h;cases hm:jX d.cls with
  |none=>rw [hm]at h2;cases h2
  |some m=>
    rw [hm]at h2;have hb:=UInt8.toNat_lt b;have hcl:b.toNat<d.cls.length:=by omega
    have hc:=(if_ d.cls 0 m hm).2 _ (UZ hcl 0);obtain ⟨hs0,hs1⟩:=hs;have hrow:=List.all_eq_true.1 h2 _ (UZ (l:=d.next) (i:=s.toNat) (by omega) []);simp only [G6,Bool.and_eq_true,iL]at hrow;obtain ⟨hr1,hr2⟩:=hrow;have hx:=List.all_eq_true.1 hr2 _ (UZ (l:=nth d.next s.toNat []) (i:=(nth d.cls b.toNat (0:Int)).toNat) (by omega) 0);simp only [IY,Bool.and_eq_true,iL]at hx;exact ⟨hcl,⟨hc.1,by omega⟩,hx,⟨hx.1,by have:=hx.2;unfold dlt;omega⟩⟩
theorem ok0{d:Dfa}(h:kU d=true):okS d 0:=by
  simp only [kU,Bool.and_eq_true,iL]at h;exact ⟨by omega,by omega⟩
def qp(d:Dfa)(q:Int)(l:T_1):Int:=l.foldl (dlt d) q
theorem tx_{d:Dfa}(h:kU d=true): ∀(l:T_1) {q:Int},okS d q->okS d (qp d q l)
  |[],_,hq=>hq
  |b::l,q,hq=>by
    rw [qp,List.foldl_cons];exact tx_ h l (px_ h hq b).nx
def qe_(g:Grow)(x:Tip):Grow:=if g.over=true\/1024<=g.f.starts.length\/1024<x.out.length then ⟨g.f,true⟩ else ⟨⟨g.f.states,g.f.starts++[x],g.f.ends,g.f.arcs⟩,false⟩
def p6_(g:Grow)(x:Tip):Grow:=if g.over=true\/1024<=g.f.ends.length\/1024<x.out.length then ⟨g.f,true⟩ else ⟨⟨g.f.states,g.f.starts,g.f.ends++[x],g.f.arcs⟩,false⟩
def py_(g:Grow)(x:Arc):Grow:=if g.over=true\/16384<=g.f.arcs.length\/1024<x.out.length then ⟨g.f,true⟩ else ⟨⟨g.f.states,g.f.starts,g.f.ends,g.f.arcs++[x]⟩,false⟩
def XT(g:Grow):Fst×Int:=if g.over=true\/1024<g.f.states then (⟨0,[],[],[]⟩,2) else (g.f,0)
theorem vi_(g:Grow)(x:Tip):Ci_ g x=some (qe_ g x):=by
  unfold Ci_ qe_;obtain ⟨⟨n,S,E,A⟩,o⟩:=g;cases o with
  |true=>rw [if_pos (.inl rfl)];rfl
  |false=>
    dsimp only;rw [iteO_false]
    by_cases h1:1024<=S.length
    · rw [eH (by omega),if_pos (.inr (.inl h1))]
    rw [dM (by omega)]
    by_cases h2:1024<x.out.length
    · rw [eH (by omega),if_pos (.inr (.inr h2))]
    rw [dM (by omega),cu (by simp only [jm];omega),if_neg (by simp;omega)]
theorem end_eq(g:Grow)(x:Tip):Dn_ g x=some (p6_ g x):=by
  unfold Dn_ p6_;obtain ⟨⟨n,S,E,A⟩,o⟩:=g;cases o with
  |true=>rw [if_pos (.inl rfl)];rfl
  |false=>
    dsimp only;rw [iteO_false]
    by_cases h1:1024<=E.length
    · rw [eH (by omega),if_pos (.inr (.inl h1))]
    rw [dM (by omega)]
    by_cases h2:1024<x.out.length
    · rw [eH (by omega),if_pos (.inr (.inr h2))]
    rw [dM (by omega),cu (by simp only [jm];omega),if_neg (by simp;omega)]
theorem arc_eq(g:Grow)(x:Arc):D0_ g x=some (py_ g x):=by
  unfold D0_ py_;obtain ⟨⟨n,S,E,A⟩,o⟩:=g;cases o with
  |true=>rw [if_pos (.inl rfl)];rfl
  |false=>
    dsimp only;rw [iteO_false]
    by_cases h1:16384<=A.length
    · rw [eH (by omega),if_pos (.inr (.inl h1))]
    rw [dM (by omega)]
    by_cases h2:1024<x.out.length
    · rw [eH (by omega),if_pos (.inr (.inr h2))]
    rw [dM (by omega),cu (by simp only [jm];omega),if_neg (by simp;omega)]
theorem rr_(g:Grow):Tj g=some (XT g):=by
  unfold Tj XT;obtain ⟨⟨n,S,E,A⟩,o⟩:=g;cases o with
  |true=>rw [if_pos (.inl rfl)];rfl
  |false=>
    dsimp only;rw [iteO_false]
    by_cases h:1024<n
    · rw [eH h,if_pos (.inr h)]
    rw [dM h,if_neg (by simp;omega)]
structure RowOk (d:Dfa) (m s b:Nat):Prop where
  cl:b<d.cls.length
  c0:0<=nth d.cls b (0:Int)
  c1:nth d.cls b (0:Int)<((m:Nat):Int)
  n0:0<=nth (nth d.next s ([]:ah)) (nth d.cls b (0:Int)).toNat (0:Int)
  n1:nth (nth d.next s ([]:ah)) (nth d.cls b (0:Int)).toNat (0:Int)<((d.next.length:Nat):Int)
theorem JK{d:Dfa}(h:kU d=true): ∃m,jX d.cls=some m/\d.cls.length=256/\1<=d.next.length/\d.next.length<=1024/\d.fin.length=d.next.length/\(∀s,s<d.next.length->(nth d.next s ([]:ah)).length=m/\ ∀c,c<m->0<=nth (nth d.next s ([]:ah)) c (0:Int)/\nth (nth d.next s ([]:ah)) c (0:Int)<((d.next.length:Nat):Int)):=by
  simp only [kU,Bool.and_eq_true,iL]at h;obtain ⟨⟨⟨h1,h2⟩,h3⟩,h4⟩:=h;cases hm:jX d.cls with
  |none=>rw [hm]at h2;cases h2
  |some m=>
    rw [hm]at h2;refine ⟨m,rfl,h1,h3.1,h3.2,h4,λs hs=> ?_⟩;have hrow:=List.all_eq_true.1 h2 _ (UZ (l:=d.next) (i:=s) hs []);simp only [G6,Bool.and_eq_true,iL]at hrow;refine ⟨hrow.1,λc hc=> ?_⟩;have hx:=List.all_eq_true.1 hrow.2 _ (UZ (l:=nth d.next s []) (i:=c) (by omega) 0);simp only [IY,Bool.and_eq_true,iL]at hx;exact hx
structure ByI (d:Dfa) (s k:Nat) (l:List BSet):Prop where
  len:l.length=1024
  at_: ∀z,z<1024->nth l z BSet.zero=BSet.make λb=>decide (nth d.cls b (0:Int)<((k:Nat):Int)) && decide (nth (nth d.next s ([]:ah)) (nth d.cls b (0:Int)).toNat (0:Int)=((z:Nat):Int))
theorem qt_{α:Type}(n i:Nat)(x:α):nth (List.replicate n x) i x=x:=by
  unfold nth;rw [List.getD_eq_getElem?_getD,List.getElem?_replicate]
  split<;>rfl
end Go.Proofs.YtcfgkcfcddfccaaGreatDoor
end

noncomputable section
namespace Go.Proofs.YtcfgkcfcddfccaaGreatDoor
open Go Go.E Go.E.OpVal Go.E.OpOk Go.Proofs.Tryz
open List (replicate)
theorem ag137:aggOf Tryz.prog 137=some false:=by kernel_rfl
theorem ag138:aggOf Tryz.prog 138=some false:=by kernel_rfl
theorem ag35:aggOf Tryz.prog 35=some true:=by kernel_rfl
theorem by4:byOf Tryz.prog 4=some 1:=by kernel_rfl
theorem by63:byOf Tryz.prog 63=some 24:=by kernel_rfl
theorem pf151:plainF Tryz.prog 151=true:=by kernel_rfl
theorem pf82:plainF Tryz.prog 82=true:=by kernel_rfl
theorem pf83:plainF Tryz.prog 83=true:=by kernel_rfl
theorem pf84:plainF Tryz.prog 84=true:=by kernel_rfl
theorem pf85:plainF Tryz.prog 85=true:=by kernel_rfl
theorem pf86:plainF Tryz.prog 86=true:=by kernel_rfl
theorem pf87:plainF Tryz.prog 87=true:=by kernel_rfl
theorem pf88:plainF Tryz.prog 88=true:=by kernel_rfl
theorem pf89:plainF Tryz.prog 89=true:=by kernel_rfl
theorem pf90:plainF Tryz.prog 90=true:=by kernel_rfl
theorem pf91:plainF Tryz.prog 91=true:=by kernel_rfl
theorem pl35:plOf Tryz.prog 35=some #[(0,1),(1,1),(2,1)]:=by kernel_rfl
theorem sz137:szOf Tryz.prog 137=some 1:=by kernel_rfl
theorem T_:szOf Tryz.prog 138=some 1:=by kernel_rfl
theorem xs_:szOf Tryz.prog 33=some 1:=by kernel_rfl
theorem Qc:szOf Tryz.prog 35=some 3:=by kernel_rfl
theorem ze137:zeroOf Tryz.prog 137=some (aW):=by kernel_rfl
theorem ze138:zeroOf Tryz.prog 138=some (.pointer none):=by kernel_rfl
theorem ze35:zeroOf Tryz.prog 35=some (.agg #[aW,aW,aW]):=by kernel_rfl
theorem ze4:zeroOf Tryz.prog 4=some (.bool false):=by kernel_rfl
theorem ze63:zeroOf Tryz.prog 63=some (aW):=by kernel_rfl
def Lj_(dR:List (List Arrow))(x0:Nfa)(fC:Nat):Option (((List (List Arrow))×Nat)⊕(Dfa×Int)):=
 nxt ((dR.set (((nth x0.edges fC Arrow.zero).frm).toNat) ((nth dR (((nth x0.edges fC Arrow.zero).frm).toNat) [])++[(nth x0.edges fC Arrow.zero)])),(fC+1))
def Il_(xJ:Nat)(X5:Bool):Option ((Bool×Nat)⊕((Int×aO×(FM T_1 Int)×aO×B_1×Nat)⊕(Dfa×Int))):=
 nxt (X5,(xJ+1))
def Td(dR:List (List Arrow))(lG:ah×Int)(Ad:Int)(pW:aO)(Dz:FM T_1 Int)(qG:ah)(y256_0:Int)(y256_1:BSet):Option (Nat×(Int×aO×(FM T_1 Int)×ah)):=
 bnd (G1_ dR lG.1 y256_1) (λv161=>bnd (q9_ (⟨(⟨pW,Dz⟩:IStore)⟩:ITable) v161) (λv162=>iteO (decide (v162.2.2.1≠0)) (some (1,(v162.2.2.1,v162.2.2.2.of.rows,v162.2.2.2.of.places,qG))) (iteO (decide (1024<=v162.1)) (some (1,(2,v162.2.2.2.of.rows,v162.2.2.2.of.places,qG))) (grd (0<=y256_0/\y256_0<(qG.length:Int)) (some (0,(Ad,v162.2.2.2.of.rows,v162.2.2.2.of.places,(qG.set y256_0.toNat v162.1))))))))
def Ih_(kY:aO)(mV:B_1)(Dw:Bool)(xK:Nat)(jz:Nat)(Ad:Int)(pW:aO)(Dz:FM T_1 Int)(qG:ah):Option ((Int×aO×(FM T_1 Int)×aO×B_1×Nat)⊕(Dfa×Int)):=
 jsel jz (grd ((kY.length+[qG].length) * 24<=140737488355328) (grd ((mV.length+[Dw].length) * 1<=140737488355328) (grd (xK+1<=9223372036854775807) (nxt (Ad,pW,Dz,(kY++[qG]),(mV++[Dw]),(xK+1)))))) (λj_=>jsel j_ (fin (some ((⟨([]:ah),([]:aO),([]:B_1)⟩:Dfa),Ad))) (λ_=>none))
def Py(lG:ah×Int)(jP:B_1)(v13:(List BSet)×Int)(dR:List (List Arrow))(BI:Int)(sO:aO)(yI:FM T_1 Int)(kY:aO)(mV:B_1)(xK:Nat)(Dw:Bool)(xJ:Nat):Option ((Bool×Nat)⊕((Int×aO×(FM T_1 Int)×aO×B_1×Nat)⊕(Dfa×Int))):=
 iteO (decide ((xJ:Int)<(lG.1.length:Int))) (iteO Dw (Il_ xJ true) (grd (0<=(nth lG.1 xJ 0)/\(nth lG.1 xJ 0)<(jP.length:Int)) (Il_ xJ (nth jP ((nth lG.1 xJ 0).toNat) false)))) (fin (grd (8 * v13.1.length<=281474976710656) (bnd (Fv_ v13.1) (λKI=>bnd (B8_ (stepY (λ(q:Int×aO×(FM T_1 Int)×ah) (x:Int×BSet)=>Td dR lG q.1 q.2.1 q.2.2.1 q.2.2.2 x.1 x.2)) (0,(BI,sO,yI,(replicate v13.1.length (0:Int)))) KI) (λou=>Ih_ kY mV Dw xK ou.1 ou.2.1 ou.2.2.1 ou.2.2.2.1 ou.2.2.2.2)))))
def S9(jP:B_1)(v13:(List BSet)×Int)(dR:List (List Arrow))(v26:ah×Int)(BI:Int)(sO:aO)(yI:FM T_1 Int)(kY:aO)(mV:B_1)(xK:Nat):Option ((Int×aO×(FM T_1 Int)×aO×B_1×Nat)⊕(Dfa×Int)):=
 bnd (f5_ (⟨(⟨sO,yI⟩:IStore)⟩:ITable)) (λv112=>iteO (decide ((xK:Int)<v112)) (bnd (gf_ (⟨(⟨sO,yI⟩:IStore)⟩:ITable) (xK:Int)) (λlG=>iteO (decide (lG.2≠0)) (fin (some ((⟨([]:ah),([]:aO),([]:B_1)⟩:Dfa),lG.2))) (iter (λq:Bool×Nat=>Py lG jP v13 dR BI sO yI kY mV xK q.1 q.2) (false,0)))) (fin (some ((⟨v26.1,kY,mV⟩:Dfa),0))))
def E6_(x0:Nfa)(v13:(List BSet)×Int)(dR:List (List Arrow))(v26:ah×Int)(jP:B_1)(BH:Nat):Option ((B_1×Nat)⊕(Dfa×Int)):=
 iteO (decide ((BH:Int)<(x0.ends.length:Int))) (grd (0<=(nth x0.ends BH 0)/\(nth x0.ends BH 0)<(jP.length:Int)) (nxt ((jP.set ((nth x0.ends BH 0).toNat) true),(BH+1)))) (fin (bnd (j5_) (λv85=>bnd (Xd (⟨(⟨v85.of.rows,v85.of.places⟩:IStore)⟩:ITable) x0.starts) (λv91=>iteO (decide (v91.2.2.1≠0)) (some ((⟨([]:ah),([]:aO),([]:B_1)⟩:Dfa),v91.2.2.1)) (iter (λq:Int×aO×(FM T_1 Int)×aO×B_1×Nat=>S9 jP v13 dR v26 q.1 q.2.1 q.2.2.1 q.2.2.2.1 q.2.2.2.2.1 q.2.2.2.2.2) (0,v91.2.2.2.of.rows,v91.2.2.2.of.places,([]:aO),([]:B_1),0))))))
def E5_(x0:Nfa)(v13:(List BSet)×Int)(v26:ah×Int)(dR:List (List Arrow))(fC:Nat):Option (((List (List Arrow))×Nat)⊕(Dfa×Int)):=
 iteO (decide ((fC:Int)<(x0.edges.length:Int))) (grd (0<=((nth x0.edges fC Arrow.zero).frm)/\((nth x0.edges fC Arrow.zero).frm)<(dR.length:Int)) (grd (((nth dR (((nth x0.edges fC Arrow.zero).frm).toNat) []).length+[(nth x0.edges fC Arrow.zero)].length) * 48<=140737488355328) (grd (0<=((nth x0.edges fC Arrow.zero).frm)/\((nth x0.edges fC Arrow.zero).frm)<(dR.length:Int)) (Lj_ dR x0 fC)))) (fin (grd (0<=x0.states/\1 * x0.states.toNat<=281474976710656) (iter (λq:B_1×Nat=>E6_ x0 v13 dR v26 q.1 q.2) ((replicate x0.states.toNat false),0))))
def Le_(x0:Nfa):Option (Dfa×Int):=
 iteO (decide ((Dx (Ae x0))≠0)) (some ((⟨([]:ah),([]:aO),([]:B_1)⟩:Dfa),1)) (bnd (G8_ x0.edges) (λv12=>bnd (E9_ v12) (λv13=>iteO (decide (v13.2≠0)) (some ((⟨([]:ah),([]:aO),([]:B_1)⟩:Dfa),v13.2)) (bnd (Xo v13.1) (λv26=>iteO (decide (v26.2≠0)) (some ((⟨([]:ah),([]:aO),([]:B_1)⟩:Dfa),v26.2)) (grd (0<=x0.states/\24 * x0.states.toNat<=281474976710656) (iter (λq:(List (List Arrow))×Nat=>E5_ x0 v13 v26 q.1 q.2) ((replicate x0.states.toNat ([]:List Arrow)),0))))))))
def Ia_(σ:aj)(r:Dfa×Int):Value->aj->List Res->Prop:=λv σ' H'=>
 ∃a1 c1 a2 c2 a3 c3,v= .tuple #[.agg #[.slice a1 r.1.cls.length c1,.slice a2 r.1.next.length c2,.slice a3 r.1.fin.length c3],.int .i64 r.2]/\dH σ' ak a1 c1 r.1.cls/\RZ σ' (aF 1 ak aT) (.slice a2 r.1.next.length c2) r.1.next/\dH σ' dG a3 c3 r.1.fin/\H'=[]
theorem M6_{σ:aj}{x0:Nfa}(hgl:xu σ 0 2)(aC:dH σ ak aB aA x0.starts)(aV:dH σ ak ay aH x0.ends)(aS:RS σ 6 Bj (.slice aG x0.edges.length au) x0.edges){r:Dfa×Int}(hh:Le_ x0=some r):
  Con prog 30 #[.agg #[.int .i64 x0.states,.slice aB x0.starts.length aA,.slice ay x0.ends.length aH,.slice aG x0.edges.length au]] σ [] (Ia_ σ r):=by
 dsimp only [Le_]at hh;have f0_0b:=aC.rv.big;have f0_1b:=aV.rv.big;have f0_2b:=aS.rv.big;refine cM 177 Tryz.func30 (λw0=> ?_);refine R2 ?_;refine TL.bx (λaP=> ?_);refine TL.al (λbK=> ?_);refine TL.al (λiq=> ?_);refine R5 ?_;refine φ z (gI (yw_ _ x0 ⟨aB,aA,ay,aH,aG,au⟩ ⟨aC,aV,aS,λx _=>x.set.isOk⟩) z z pf82 z z z ?_);refine R2 ?_;refine π z hh (λgq hh=> ?_) (λgq hh=> ?_)
 ·refine R3 ?_;refine κ 1 (φ z (storeAll z Qc z z z z z z ?_));refine κ 1 (R2 ?_);refine Θ (ψ [1] 2) (η ?_);obtain rfl:=so hh;exact rz
 refine R5 ?_;obtain ⟨v12,u12,hh⟩:=bg hh;refine φ z (OpOk.call (L8_ aS u12) z z pf84 z z z z ?_);rintro _ τ108 _ kK ⟨a108_1,c108_1,rfl,hr108_0,rfl⟩;replace aC:=aC.mono kK;replace aV:=aV.mono kK;replace aS:=aS.mono kK;replace hgl:=hgl.mono kK;have hr108_0b:=hr108_0.rv.big;obtain ⟨v13,u13,hh⟩:=bg hh;refine φ z (OpOk.call (Ks_ hr108_0 u13) z z pf83 z z z z ?_);rintro _ τ109 _ fK ⟨a109_1,c109_1,rfl,hr109_0,rfl⟩;replace aC:=aC.mono fK;replace aV:=aV.mono fK;replace aS:=aS.mono fK;replace hgl:=hgl.mono fK;have hr109_0b:=hr109_0.rv.big;refine R12 ?_;refine π z hh (λfD hh=> ?_) (λfD hh=> ?_)
 ·refine R4 ?_;refine κ 1 (φ z (storeAll z Qc z z z z z z ?_));refine κ 1 (R2 ?_);refine Θ (ψ [1] 2) (η ?_);obtain rfl:=so hh;exact rz
 refine R4 ?_;obtain ⟨v26,u26,hh⟩:=bg hh;refine φ z (OpOk.call (Kv_ hgl hr109_0 u26) z z pf85 z z z z ?_);rintro _ τ111 _ jG ⟨a111_1,c111_1,rfl,hr111_0,rfl⟩;replace aC:=aC.mono jG;replace aV:=aV.mono jG;replace aS:=aS.mono jG;replace hgl:=hgl.mono jG;replace hr109_0:=hr109_0.mono jG;have hr111_0b:=hr111_0.rv.big;refine R12 ?_;refine π z hh (λh112 hh=> ?_) (λh112 hh=> ?_)
 ·refine R4 ?_;refine κ 1 (φ z (storeAll z Qc z z z z z z ?_));refine κ 1 (R2 ?_);refine Θ (ψ [1] 2) (η ?_);obtain rfl:=so hh;exact rz
 refine R5 ?_;obtain ⟨u40,hh⟩:=gd hh;refine φ rfl (nP (q:=x0.states.toNat) (E:=129) (size:=6) (enc:=Bj) rfl underlying137 Qj by63 ze63 rfl rfl (vN u40.1) (vN u40.1) (by omega) (by decide) rfl (λjl jR zf115=> ?_));refine TL.al (λyg=> ?_);refine R11 ?_;refine TC.lk hh (replicate x0.states.toNat (qo:NP Arrow)) (rgs [(9,1),(60,17)]) (λ⟨_,fC⟩ Du=>([(60,.int .i64 (fC:Int))],[ω aP #[.int .i64 x0.states,.slice aB x0.starts.length aA,.slice ay x0.ends.length aH,.slice aG x0.edges.length au] 65,ω bK #[aW,aW,aW] 35,ω iq #[.int .i64 0] 27,ω yg #[.slice jl ((replicate x0.states.toNat ([]:List Arrow)).length) jR] 137,Res.nest 63 129 6 Bj (.slice jl (replicate x0.states.toNat ([]:List Arrow)).length jR) Du])) (λ⟨dR,_⟩ Du=>dR.length=(replicate x0.states.toNat ([]:List Arrow)).length/\Zn Du dR) ⟨z,zf115⟩ (ψ [1,1,2,3,4] 5) ?_;rintro ⟨dR,fC⟩ Du _ z1 hh hR1 ⟨sG,oG⟩;dsimp only [E5_]at hh sG oG ⊢;have zf133b:=oG.len;refine TC.know (rG (q:=4) z oG) (λ⟨_,hb135⟩=> ?_);refine R5 ?_;refine π z hh (λZC hh=> ?_) (λZC hh=> ?_)
 ·refine R1 ?_;refine TC.cutG (α:=(Unit)×((List (NP Arrow)))) (rgs [(9,1),(62,14)]) (λg=>[]) (λg=>[ω aP #[.int .i64 x0.states,.slice aB x0.starts.length aA,.slice ay x0.ends.length aH,.slice aG x0.edges.length au] 65,ω bK #[aW,aW,aW] 35,ω iq #[.int .i64 0] 27,ω yg #[.slice jl ((replicate x0.states.toNat ([]:List Arrow)).length) jR] 137,Res.nest 63 129 6 Bj (.slice jl (replicate x0.states.toNat ([]:List Arrow)).length jR) g.2]) (λg=>τ111) (λg=>Lj_ dR x0 fC=some z1/\(dR.set (((nth x0.edges fC Arrow.zero).frm).toNat) ((nth dR (((nth x0.edges fC Arrow.zero).frm).toNat) [])++[(nth x0.edges fC Arrow.zero)])).length=(replicate x0.states.toNat ([]:List Arrow)).length/\Zn g.2 (dR.set (((nth x0.edges fC Arrow.zero).frm).toNat) ((nth dR (((nth x0.edges fC Arrow.zero).frm).toNat) [])++[(nth x0.edges fC Arrow.zero)]))) ?_ (λg j hg=> ?_)
  ·refine R5 ?_;refine TL.al (λb140=> ?_);refine R2 ?_;obtain ⟨u58,hh⟩:=gd hh;obtain ⟨TU,hh⟩:=gd hh;obtain ⟨u63,hh⟩:=gd hh;refine TC.OV (Hr:=[ω b140 #[.int .i64 ((nth x0.edges fC Arrow.zero).frm),.int .i64 ((nth x0.edges fC Arrow.zero).to),.int .u64 (((nth x0.edges fC Arrow.zero).set).a:Int),.int .u64 (((nth x0.edges fC Arrow.zero).set).b:Int),.int .u64 (((nth x0.edges fC Arrow.zero).set).c:Int),.int .u64 (((nth x0.edges fC Arrow.zero).set).d:Int)] 129,ω aP #[.int .i64 x0.states,.slice aB x0.starts.length aA,.slice ay x0.ends.length aH,.slice aG x0.edges.length au] 65,ω bK #[aW,aW,aW] 35,ω iq #[.int .i64 0] 27,ω yg #[.slice jl ((replicate x0.states.toNat ([]:List Arrow)).length) jR] 137]) (λr hr=>oU [0,1,2,3,4] z hr) [] (by kernel_rfl) (χ 0 z lL z (ν 1 z fL z (χ 2 z lL z (χ 3 z lL z (ν 4 z fL z (χ 5 z lL z (TA.know (rG (q:=5) z oG) (λ⟨hs153,hs153b⟩=> ?_))))))));refine χ 6 z iX z (χ 8 z lA z ?_);obtain ⟨p154,Vb,V_⟩:=Zn.at oG (i:=((nth x0.edges fC Arrow.zero).frm).toNat) (by omega);refine TA.aN [7,9] (an z z (OpVal.ok (EM z Jl z (q:=5) z Vb V_) z z ⟨(λw h=>qj (aj.le.refl _) (λr hr=>oU [0,1,2,3,4] z hr) w h),?_⟩) (an z z (jc (enc:=Bj) [(nth x0.edges fC Arrow.zero)] (λGn c156=>⟨(λw h=>qj (aj.le.refl _) (λr hr=>oU [1,2,3,4,5] z hr) w h),?_⟩)) (True.intro)))
   ·refine υ 9 z (jc (enc:=Bj) [(nth x0.edges fC Arrow.zero)] (λPv c159=>⟨(λw h=>qj (aj.le.refl _) (λr hr=>oU [1,2,3,4,5] z hr) w h),?_⟩));refine Ω 6 (TA.by (λw h=>Reach.takeN Vb V_ h) (υ 10 z (apF (.inr ⟨_,1,z⟩) TU (λa162 uQ=>(k3 ?_)))));refine TA.know (JI (q:=1) z oG) (λ⟨hs164,hs164b⟩=> ?_);refine χ 11 z iX z (Ω 1 (Ω 1 ?_));have hn166:(dR.set (((nth x0.edges fC Arrow.zero).frm).toNat) ((nth dR (((nth x0.edges fC Arrow.zero).frm).toNat) [])++[(nth x0.edges fC Arrow.zero)])).length=(replicate x0.states.toNat ([]:List Arrow)).length:=(fV ..).trans sG;refine υ 12 rfl (JM (l':=((nth dR (((nth x0.edges fC Arrow.zero).frm).toNat) [])++[(nth x0.edges fC Arrow.zero)])) rfl Qj rfl rfl rfl rfl rfl (by rw [oG.len];omega) oG (λDt=>(k2 ?_)));refine R1 ?_;exact cf ((),(Du.set (((nth x0.edges fC Arrow.zero).frm).toNat) (((nth dR (((nth x0.edges fC Arrow.zero).frm).toNat) [])++[(nth x0.edges fC Arrow.zero)]),(a162,uQ)))) ⟨hh,hn166,Dt⟩ (ψ [6,6,6,6] 5)
   obtain ⟨p167,Va,V9⟩:=Zn.at oG (i:=((nth x0.edges fC Arrow.zero).frm).toNat) (by omega);refine υ 7 z (OpVal.ok (EM z Jl z (q:=6) z Va V9) z z ⟨(λw h=>qj (aj.le.refl _) (λr hr=>oU [1,2,3,4,5] z hr) w h),?_⟩);refine Ω 6 (TA.by (λw h=>Reach.takeN Va V9 h) (υ 10 z (apF (.inr ⟨_,1,z⟩) TU (λJr Jd=>(k3 ?_)))));refine TA.know (JI (q:=1) z oG) (λ⟨hs171,hs171b⟩=> ?_);refine χ 11 z iX z (Ω 1 (Ω 1 ?_));have hn173:(dR.set (((nth x0.edges fC Arrow.zero).frm).toNat) ((nth dR (((nth x0.edges fC Arrow.zero).frm).toNat) [])++[(nth x0.edges fC Arrow.zero)])).length=(replicate x0.states.toNat ([]:List Arrow)).length:=(fV ..).trans sG;refine υ 12 rfl (JM (l':=((nth dR (((nth x0.edges fC Arrow.zero).frm).toNat) [])++[(nth x0.edges fC Arrow.zero)])) rfl Qj rfl rfl rfl rfl rfl (by rw [oG.len];omega) oG (λDq=>(k2 ?_)));refine R1 ?_;exact cf ((),(Du.set (((nth x0.edges fC Arrow.zero).frm).toNat) (((nth dR (((nth x0.edges fC Arrow.zero).frm).toNat) [])++[(nth x0.edges fC Arrow.zero)]),(Jr,Jd)))) ⟨hh,hn173,Dq⟩ (ψ [6,6,6,6] 5)
  obtain ⟨_,z138⟩:=g;obtain ⟨hh,wV,Gw⟩:=hg
  try dsimp only at wV Gw ⊢
  dsimp only [Lj_]at hh;have zf139b:=Gw.len;refine TC.know (rG (q:=4) z Gw) (λ⟨_,hb174⟩=> ?_);refine R4 ?_;exact nk hR1 hh z138 (ψ [4,4,4,4,4] 5) ⟨wV,Gw⟩
 refine R1 ?_;replace hh:=bJ hR1 hh;refine R5 ?_;obtain ⟨u69,hh⟩:=gd hh;refine φ rfl (CV (m:=x0.states.toNat) (enc:=dG) false rfl underlying33 sz4 by4 ze4 rfl rfl (vN u69.1) (vN u69.1) (by omega) (by decide) NH (by decide) rfl zz_ (λAp Ah=> ?_));refine R11 ?_;refine TC.lk hh () (rgs [(12,1),(83,8)]) (λ⟨jP,BH⟩ _=>([(83,.int .i64 (BH:Int))],[ω aP #[.int .i64 x0.states,.slice aB x0.starts.length aA,.slice ay x0.ends.length aH,.slice aG x0.edges.length au] 65,ω bK #[aW,aW,aW] 35,ω iq #[.int .i64 0] 27,ω yg #[.slice jl ((replicate x0.states.toNat ([]:List Arrow)).length) jR] 137,Res.nest 63 129 6 Bj (.slice jl (replicate x0.states.toNat ([]:List Arrow)).length jR) Du,ε 4 1 dG (.slice Ap (replicate x0.states.toNat false).length Ah) jP])) (λ⟨jP,_⟩ _=>dR.length=(replicate x0.states.toNat ([]:List Arrow)).length/\Zn Du dR/\jP.length=(replicate x0.states.toNat false).length) ⟨sG,oG,z⟩ (ψ [5,5,5,5,5] 6) ?_;rintro ⟨jP,BH⟩ _ _ z1 hh hR1 ⟨MC,Dl,MB⟩;dsimp only [E6_]at hh MC Dl MB ⊢;have zf192b:=Dl.len;refine TC.know (rG (q:=4) z Dl) (λ⟨_,hb196⟩=> ?_);refine ζ 5 z (λhb197=> ?_);refine R5 ?_;refine π z hh (λh198 hh=> ?_) (λh198 hh=> ?_)
 ·refine R12 ?_;obtain ⟨u81,hh⟩:=gd hh;refine TL.iS 5 z (λhs199=> ?_);refine ι z iX (κ 5 ?_);have hn200:(jP.set ((nth x0.ends BH 0).toNat) true).length=(replicate x0.states.toNat false).length:=by rw [fV];exact MB
  refine φ z (sS true ?_);refine R5 ?_;exact nk hR1 hh () (ψ [5,5,5,5,5] 6) ⟨MC,Dl,hn200⟩
 refine R1 ?_;replace hh:=bJ hR1 hh;refine R3 ?_;obtain ⟨v85,u85,hh⟩:=bg hh;refine φ z (OpOk.call (o5_ u85) z z pf86 z z z z ?_);rintro _ τ202 _ BQ ⟨b202_1,a202_2,c202_3,z202_4,b202_6,rfl,zf202_5,rfl⟩;replace aC:=aC.mono BQ;replace hgl:=hgl.mono BQ;replace hr109_0:=hr109_0.mono BQ;replace hr111_0:=hr111_0.mono BQ;have zf202_5b:=zf202_5.length;refine TL.al (λF9=> ?_);refine φ z (cm_ z T_ z z z z z ?_);refine R7 ?_;refine κ 3 (κ 3 (κ 3 ?_));obtain ⟨v91,u91,hh⟩:=bg hh;refine φ z (OpOk.call (j7_ zf202_5 aC u91) z z pf87 z z z z ?_);rintro _ τ208 _ ni ⟨a208_1,c208_2,z208_3,b208_5,rfl,zf208_4,rfl⟩;replace hgl:=hgl.mono ni;replace hr109_0:=hr109_0.mono ni;replace hr111_0:=hr111_0.mono ni;have zf208_4b:=zf208_4.length;refine R13 ?_;refine π z hh (λh211 hh=> ?_) (λh211 hh=> ?_)
 ·refine R4 ?_;refine κ 5 (φ z (storeAll z Qc z z z z z z ?_));refine κ 6 (R2 ?_);refine Θ (ψ [1] 2) (η ?_);obtain rfl:=so hh;exact rz
 refine R5 ?_;refine TL.al (λF8=> ?_);refine R8 ?_;rw [<-MC];refine TC.fr 9 (TC.cv_ (λw h=>Reach.bf_ lg_ Dl h) (λτ289 zk Vu=> ?_));replace hgl:=hgl.mono zk;replace hr109_0:=hr109_0.mono zk;replace hr111_0:=hr111_0.mono zk;replace zf208_4:=zf208_4.mono zk;have hr287b:=Vu.big;refine TC.nilS 31 1 (aF 1 ak aT).en ?_;have zf290:=ZOk.nil τ289 (aF 1 ak aT);refine TC.nilS 4 1 dG (TC.Ak (α:=(Int×aO×(FM T_1 Int)×aO×B_1×Nat)×((Option Addr)×Nat×(List (ah×(aF 1 ak aT).P))×Nat×(Option Addr)×Nat×(List (ah×(aF 1 ak aT).P))×(Option Addr)×Nat×aj)) (rgs [(18,4),(23,2),(106,35),(164,12)]) (λg=>[(18,.int .i64 (g.1.2.2.2.2.2:Int))]) (λg=>[ω bK #[aW,aW,aW] 35,ω iq #[.int .i64 g.1.1] 27,ω yg #[.slice jl dR.length jR] 137,ε 4 1 dG (.slice Ap (replicate x0.states.toNat false).length Ah) jP,ω F9 #[loc b202_1 0] 138,ω b202_1 #[.slice g.2.1 g.1.2.1.length g.2.2.1,.map (some g.2.2.2.2.1)] 212,ε 31 1 (aF 1 ak aT).en (.slice g.2.1 g.1.2.1.length g.2.2.1) g.2.2.2.1,Γ iQ gX (some g.2.2.2.2.1) g.1.2.2.1,ω F8 #[.slice a111_1 v26.1.length c111_1,.slice g.2.2.2.2.2.1 g.1.2.2.2.1.length g.2.2.2.2.2.2.1,.slice g.2.2.2.2.2.2.2.2.1 g.1.2.2.2.2.1.length g.2.2.2.2.2.2.2.2.2.1] 35,ε 31 1 (aF 1 ak aT).en (.slice g.2.2.2.2.2.1 g.1.2.2.2.1.length g.2.2.2.2.2.2.1) g.2.2.2.2.2.2.2.1,ε 4 1 dG (.slice g.2.2.2.2.2.2.2.2.1 g.1.2.2.2.2.1.length g.2.2.2.2.2.2.2.2.2.1) g.1.2.2.2.2.1]) (λg=>g.2.2.2.2.2.2.2.2.2.2) (λg=>iter (λq:Int×aO×(FM T_1 Int)×aO×B_1×Nat=>S9 jP v13 dR v26 q.1 q.2.1 q.2.2.1 q.2.2.2.1 q.2.2.2.2.1 q.2.2.2.2.2) g.1=some r/\RZ g.2.2.2.2.2.2.2.2.2.2 (aF 6 Bj lg_) (.slice jl dR.length jR) dR/\jP.length=(replicate x0.states.toNat false).length/\ZOk g.2.2.2.2.2.2.2.2.2.2 (aF 1 ak aT) g.2.2.2.1 g.1.2.1/\ZOk g.2.2.2.2.2.2.2.2.2.2 (aF 1 ak aT) g.2.2.2.2.2.2.2.1 g.1.2.2.2.1/\aj.le τ289 g.2.2.2.2.2.2.2.2.2.2) (λg=>rQ (λq:Int×aO×(FM T_1 Int)×aO×B_1×Nat=>S9 jP v13 dR v26 q.1 q.2.1 q.2.2.1 q.2.2.2.1 q.2.2.2.2.1 q.2.2.2.2.2) g.1) ((0,v91.2.2.2.of.rows,v91.2.2.2.of.places,([]:aO),([]:B_1),0),(a208_1,c208_2,z208_3,b208_5,none,0,[],none,0,τ289)) (ψ [1,2,5,5,5,6,11,11,11,11] 11) z (by repeat (first|exact trivial|refine ⟨z,?_⟩)) ⟨hh,Vu,MB,zf208_4,zf290,(aj.le.refl _)⟩ (λg3 j3 hg3=> ?_));obtain ⟨⟨BI,sO,yI,kY,mV,xK⟩,⟨Gl,FW,Ky,OW,uV,uP,zT,yt,x9,τ293⟩⟩:=g3;obtain ⟨hh,jU,yZ,Dj,jK,zi⟩:=hg3
 try dsimp only at jU
 try dsimp only at yZ
 try dsimp only at Dj
 try dsimp only at jK
 dsimp only at zi;replace hgl:=hgl.mono zi;replace hr109_0:=hr109_0.mono zi;replace hr111_0:=hr111_0.mono zi
 try dsimp only
 obtain ⟨z1,hh,hR1⟩:=zQ hh;dsimp only [S9]at hh;have zf272b:=Dj.length;have zf281b:=jK.length;refine ζ 3 z (λhb295=> ?_);refine ζ 6 z (λhb296=> ?_);refine ζ 9 z (λhb297=> ?_);refine ζ 10 z (λhb298=> ?_);refine R5 ?_;refine κ 7 (κ 7 (κ 7 ?_));obtain ⟨v112,KO,hh⟩:=bg hh;refine φ z (OpOk.call (jo_ Dj KO) z z pf88 z z z z ?_);rintro _ _ _ hle299 ⟨rfl,rfl,rfl⟩;refine R2 ?_;refine π z hh (λh300 hh=> ?_) (λh300 hh=> ?_)
 ·refine R7 ?_;refine κ 2 (κ 2 (κ 2 ?_));obtain ⟨lG,u116,hh⟩:=bg hh;refine φ z (OpOk.call (j8_ Dj u116) z z pf89 z z z z ?_);rintro _ _ _ Fq ⟨a301_1,c301_2,rfl,rfl,rfl⟩;refine R3 ?_;refine TL.al (λJj=> ?_);refine R9 ?_;refine π z hh (λh305 hh=> ?_) (λh305 hh=> ?_)
  ·refine R4 ?_;refine κ 5 (φ z (storeAll z Qc z z z z z z ?_));refine κ 6 (R2 ?_);refine Θ (ψ [1] 2) (η ?_);replace hh:=bJ hR1 hh;obtain rfl:=so hh;exact rz
  refine R13 ?_;refine TC.Ak (α:=(Bool×Nat)×(aj)) (rgs [(21,1),(23,1),(124,12)]) (λg=>[(21,.bool g.1.1),(124,.int .i64 (g.1.2:Int))]) (λg=>[ω bK #[aW,aW,aW] 35,ω iq #[.int .i64 BI] 27,ω yg #[.slice jl dR.length jR] 137,ε 4 1 dG (.slice Ap (replicate x0.states.toNat false).length Ah) jP,ω F9 #[loc b202_1 0] 138,ω b202_1 #[.slice Gl sO.length FW,.map (some OW)] 212,ε 31 1 (aF 1 ak aT).en (.slice Gl sO.length FW) Ky,Γ iQ gX (some OW) yI,ω F8 #[.slice a111_1 v26.1.length c111_1,.slice uV kY.length uP,.slice yt mV.length x9] 35,ε 31 1 (aF 1 ak aT).en (.slice uV kY.length uP) zT,dO 4 dG yt x9 mV,ω Jj #[.slice a301_1 lG.1.length c301_2] 31,dO 3 ak a301_1 c301_2 lG.1]) (λg=>g.2) (λg=>iter (λq:Bool×Nat=>Py lG jP v13 dR BI sO yI kY mV xK q.1 q.2) g.1=some z1/\jP.length=(replicate x0.states.toNat false).length/\ZOk g.2 (aF 1 ak aT) Ky sO/\ZOk g.2 (aF 1 ak aT) zT kY/\aj.le τ293 g.2) (λg=>rQ (λq:Bool×Nat=>Py lG jP v13 dR BI sO yI kY mV xK q.1 q.2) g.1) ((false,0),τ293) (ψ [1,1,12,12,12,7,7,7,12,12,12,12,12] 13) z (by repeat (first|exact trivial|refine ⟨z,?_⟩)) ⟨hh,yZ,Dj,jK,(aj.le.refl _)⟩ (λg4 j4 hg4=> ?_);obtain ⟨⟨Dw,xJ⟩,τ324⟩:=g4;obtain ⟨hh,yV,qy,mO,jV⟩:=hg4
  try dsimp only at yV
  try dsimp only at qy
  try dsimp only at mO
  dsimp only at jV;replace hgl:=hgl.mono jV;replace hr109_0:=hr109_0.mono jV;replace hr111_0:=hr111_0.mono jV;replace jU:=jU.mono jV;replace jK:=jK.mono jV
  try dsimp only
  obtain ⟨z2,hh,hR2⟩:=zQ hh;dsimp only [Py]at hh;have zf320b:=qy.length;have zf321b:=mO.length;refine ζ 3 z (λhb326=> ?_);refine ζ 6 z (λhb327=> ?_);refine ζ 9 z (λhb328=> ?_);refine ζ 10 z (λhb329=> ?_);refine ζ 12 z (λhb330=> ?_);refine R5 ?_;refine π z hh (λh331 hh=> ?_) (λh331 hh=> ?_)
  ·refine R1 ?_;refine TC.cutG (α:=(Bool)×(aj)) (rgs [(21,1),(23,1),(126,9)]) (λg=>[(21,.bool g.1)]) (λg=>[ω bK #[aW,aW,aW] 35,ω iq #[.int .i64 BI] 27,ω yg #[.slice jl dR.length jR] 137,ε 4 1 dG (.slice Ap (replicate x0.states.toNat false).length Ah) jP,ω F9 #[loc b202_1 0] 138,ω b202_1 #[.slice Gl sO.length FW,.map (some OW)] 212,ε 31 1 (aF 1 ak aT).en (.slice Gl sO.length FW) Ky,Γ iQ gX (some OW) yI,ω F8 #[.slice a111_1 v26.1.length c111_1,.slice uV kY.length uP,.slice yt mV.length x9] 35,ε 31 1 (aF 1 ak aT).en (.slice uV kY.length uP) zT,dO 4 dG yt x9 mV,ω Jj #[.slice a301_1 lG.1.length c301_2] 31,dO 3 ak a301_1 c301_2 lG.1]) (λg=>g.2) (λg=>Il_ xJ g.1=some z2/\jP.length=(replicate x0.states.toNat false).length/\ZOk g.2 (aF 1 ak aT) Ky sO/\ZOk g.2 (aF 1 ak aT) zT kY/\aj.le τ324 g.2) ?_ (λg j hg=> ?_)
   ·refine R3 ?_;refine TL.iS 12 z (λhs336=> ?_);refine R7 ?_;refine δ 129 z (λZq=> ?_) (λZq=> ?_)
    ·replace hh:=uZ Zq hh;refine R7 ?_;exact cf (true,τ324) ⟨hh,yV,qy,mO,(aj.le.refl _)⟩ (ψ [12,12,12,12,12,12,12,12,12,12,12,12,12] 13)
    replace hh:=u_ Zq hh;refine R2 ?_;obtain ⟨u141,hh⟩:=gd hh;refine TL.iS 3 z (λhs338=> ?_);refine R5 ?_;exact cf ((nth jP ((nth lG.1 xJ 0).toNat) false),τ324) ⟨hh,yV,qy,mO,(aj.le.refl _)⟩ (ψ [12,12,12,12,12,12,12,12,12,12,12,12,12] 13)
   obtain ⟨X5,τ339⟩:=g;obtain ⟨hh,VN,Az,JU,o_⟩:=hg
   try dsimp only at VN
   try dsimp only at Az
   try dsimp only at JU
   dsimp only at o_;replace hgl:=hgl.mono o_;replace hr109_0:=hr109_0.mono o_;replace hr111_0:=hr111_0.mono o_;replace jU:=jU.mono o_;replace jK:=jK.mono o_;replace qy:=qy.mono o_;replace mO:=mO.mono o_
   try dsimp only
   dsimp only [Il_]at hh;have zf333b:=Az.length;have zf334b:=JU.length;refine ζ 3 z (λhb341=> ?_);refine ζ 6 z (λhb342=> ?_);refine ζ 9 z (λhb343=> ?_);refine ζ 10 z (λhb344=> ?_);refine ζ 12 z (λhb345=> ?_);refine R4 ?_;obtain ⟨hh,YH⟩:=xP hR2 hh;exact lf ((X5,(xJ+1)),τ339) YH ⟨hh,VN,Az,JU,(jV.trans o_)⟩ (ψ [12,12,12,12,12,12,12,12,12,12,12,12,12] 13)
  refine R1 ?_;replace hh:=bJ hR2 hh;refine R5 ?_;obtain ⟨u149,hh⟩:=gd hh;refine φ z (mk2 (enc:=ak) (0:Int) (λyj xZ=> ?_));refine TL.al (λRU=> ?_);refine R6 ?_;obtain ⟨KI,u153,hh⟩:=bg hh;refine φ z (OpOk.call (Lx_ hr109_0 u153) z z pf90 z z z z ?_);rintro _ τ352 _ tu ⟨b352_4,a352_1,c352_2,rfl,f352_3,rfl⟩;replace hgl:=hgl.mono tu;replace hr111_0:=hr111_0.mono tu;replace jU:=jU.mono tu;replace jK:=jK.mono tu;replace qy:=qy.mono tu;replace mO:=mO.mono tu;refine R2 ?_;refine TC.fr 15 (TC.jO aT (λτ405 o9 hr403=> ?_));replace hgl:=hgl.mono o9;replace hr111_0:=hr111_0.mono o9;replace jU:=jU.mono o9;replace jK:=jK.mono o9;replace qy:=qy.mono o9;replace mO:=mO.mono o9;replace f352_3:=f352_3.mono o9;refine Θ (ψ [2,2,14,14,14,14,14,14,14,14,14,14,14,14] 15) ?_;obtain ⟨ou,U6,hh⟩:=bg hh;obtain ⟨jz256,⟨Ad,pW,Dz,qG⟩⟩:=ou;dsimp only at hh;refine TC.dv_ (A:=(λ(x:Int×BSet) _ vs=>vs=[.int .i64 x.1,vk x.2])) [.ret] (λ(q:Int×aO×(FM T_1 Int)×ah) (x:Int×BSet)=>Td dR lG q.1 q.2.1 q.2.2.1 q.2.2.2 x.1 x.2) (λ(q:Int×aO×(FM T_1 Int)×ah) (τ406:aj) Hs=> ∃rD qZ, ∃(Bc:List (ah×(aF 1 ak aT).P)), ∃zH,Hs=[ω bK #[aW,aW,aW] 35,ω iq #[.int .i64 q.1] 27,ω yg #[.slice jl dR.length jR] 137,ε 4 1 dG (.slice Ap (replicate x0.states.toNat false).length Ah) jP,ω F9 #[loc b202_1 0] 138,ω b202_1 #[.slice rD q.2.1.length qZ,.map (some zH)] 212,ε 31 1 (aF 1 ak aT).en (.slice rD q.2.1.length qZ) Bc,Γ iQ gX (some zH) q.2.2.1,ω F8 #[.slice a111_1 v26.1.length c111_1,.slice uV kY.length uP,.slice yt mV.length x9] 35,ε 31 1 (aF 1 ak aT).en (.slice uV kY.length uP) zT,dO 4 dG yt x9 mV,ω Jj #[.slice a301_1 lG.1.length c301_2] 31,ω RU #[.slice yj ((replicate v13.1.length (0:Int)).length) xZ] 31,ε 3 1 ak (.slice yj (replicate v13.1.length (0:Int)).length xZ) q.2.2.2]/\jP.length=(replicate x0.states.toNat false).length/\ZOk τ406 (aF 1 ak aT) Bc q.2.1/\ZOk τ406 (aF 1 ak aT) zT kY/\dH τ406 ak a301_1 c301_2 lG.1/\q.2.2.2.length=(replicate v13.1.length (0:Int)).length) (s:=(BI,sO,yI,(replicate v13.1.length (0:Int)))) rfl pf151 rfl rfl (by rintro _ _ _ _ ⟨rD,qZ,Bc,zH,rfl,yU,qx,oz,uJ,yT⟩ hle_;exact ⟨rD,qZ,Bc,zH,rfl,yU,qx.mono hle_,oz.mono hle_,uJ.mono hle_,yT⟩) ⟨Gl,FW,Ky,OW,rfl,yV,qy,mO,hr403,rfl⟩ (λ_ _ _ h_=>by subst h_;rfl) (Lp_ f352_3 U6) ?_ ?_
  ·clear hh U6;rintro l_ _ _ _ τ406 ⟨Ad,pW,Dz,qG⟩ ⟨y256_0,y256_1⟩ z256 _ _ hh o8 rfl ⟨rD,qZ,Bc,zH,rfl,yU,qx,oz,uJ,yT⟩;dsimp only [Td]at hh;replace hgl:=hgl.mono o8;replace hr111_0:=hr111_0.mono o8;replace jU:=jU.mono o8;replace jK:=jK.mono o8;have zf395b:=qx.length;have zf399b:=oz.length;show TC _ _ _ (upds _ [(142,vk y256_1),(141,.int .i64 y256_0)]) τ406 [ω bK #[aW,aW,aW] 35,ω iq #[.int .i64 Ad] 27,ω yg #[.slice jl dR.length jR] 137,ε 4 1 dG (.slice Ap (replicate x0.states.toNat false).length Ah) jP,ω F9 #[loc b202_1 0] 138,ω b202_1 #[.slice rD pW.length qZ,.map (some zH)] 212,ε 31 1 (aF 1 ak aT).en (.slice rD pW.length qZ) Bc,Γ iQ gX (some zH) Dz,ω F8 #[.slice a111_1 v26.1.length c111_1,.slice uV kY.length uP,.slice yt mV.length x9] 35,ε 31 1 (aF 1 ak aT).en (.slice uV kY.length uP) zT,dO 4 dG yt x9 mV,ω Jj #[.slice a301_1 lG.1.length c301_2] 31,ω RU #[.slice yj ((replicate v13.1.length (0:Int)).length) xZ] 31,ε 3 1 ak (.slice yj (replicate v13.1.length (0:Int)).length xZ) qG];refine ζ 3 z (λhb408=> ?_);refine ζ 6 z (λhb409=> ?_);refine ζ 9 z (λhb410=> ?_);refine ζ 10 z (λhb411=> ?_);refine ζ 13 z (λhb412=> ?_);refine R5 ?_;refine TL.al (λb413=> ?_);refine R2 ?_;refine asg_n (λ_ _ _=> ?_);refine R2 ?_;obtain ⟨v161,u161,hh⟩:=bg hh;obtain ⟨v162,u162,hh⟩:=bg hh;refine TC.OV (Hr:=[ω b413 (setA y256_1) 47,ω bK #[aW,aW,aW] 35,ω iq #[.int .i64 Ad] 27,ω yg #[.slice jl dR.length jR] 137,ε 4 1 dG (.slice Ap (replicate x0.states.toNat false).length Ah) jP,ω F9 #[loc b202_1 0] 138,ω F8 #[.slice a111_1 v26.1.length c111_1,.slice uV kY.length uP,.slice yt mV.length x9] 35,ε 31 1 (aF 1 ak aT).en (.slice uV kY.length uP) zT,dO 4 dG yt x9 mV,ω Jj #[.slice a301_1 lG.1.length c301_2] 31,ω RU #[.slice yj ((replicate v13.1.length (0:Int)).length) xZ] 31,ε 3 1 ak (.slice yj (replicate v13.1.length (0:Int)).length xZ) qG]) (λr hr=>oU [0,1,2,3,4,5,9,10,11,12,13,14] z hr) [] (by kernel_rfl) (χ 0 z lL z (χ 1 z lL z (χ 2 z lL z (χ 3 z lA z (υ 4 z (OpOk.call (Mf_ hgl jU uJ u161) z z pf91 z z z z ?_))))));rintro _ _ _ hle420 ⟨a420_1,c420_1,rfl,rfl,rfl⟩;refine ⟨(λw h=>qj (aj.le.refl _) (λr hr=>oU [1,2,3,4,5,6,10,11,12,13,14,15] z hr) w h),?_⟩;refine Ω 9 (Ω 9 (Ω 9 (υ 5 z (OpOk.call (ts_ qx u162) z z pf87 z z z z ?_))));rintro _ τ422 _ sZ ⟨a422_1,c422_2,z422_3,b422_5,rfl,zf422_4,rfl⟩;replace hr111_0:=hr111_0.mono sZ;replace jU:=jU.mono sZ;replace jK:=jK.mono sZ;replace qx:=qx.mono sZ;replace oz:=oz.mono sZ;replace uJ:=uJ.mono sZ;have zf422_4b:=zf422_4.length;refine kl 4 sZ (ν 6 z mT z (ν 7 z (OpVal.extract z z z) z (ν 8 z (OpVal.extract z z z) z (ν 9 z (OpVal.extract z z z) z (ν 10 z mI z (ν 11 z mB z (ν 12 z mI z (R7 ?_))))))));refine π z hh (λh425 hh=> ?_) (λh425 hh=> ?_)
   ·refine R4 ?_;refine κ 5 (φ z (storeAll z Qc z z z z z z ?_));refine κ 6 (R2 ?_);refine η (S.r (B.r ?_));obtain rfl:=so hh;exact rnd_r 0 z ⟨z,_,ψ [15,15,15,15,15,15,10,10,10,15,15,15,12,13] 14,⟨a422_1,c422_2,z422_3,b422_5,z,yU,zf422_4,oz,uJ,yT⟩⟩
   refine R7 ?_;refine π z hh (λh426 hh=> ?_) (λh426 hh=> ?_)
   ·refine R3 ?_;refine κ 5 (φ z (storeAll z Qc z z z z z z ?_));refine κ 6 (R2 ?_);refine η (S.r (B.r ?_));obtain rfl:=so hh;exact rnd_r 0 z ⟨z,_,ψ [15,15,15,15,15,15,10,10,10,15,15,15,12,13] 14,⟨a422_1,c422_2,z422_3,b422_5,z,yU,zf422_4,oz,uJ,yT⟩⟩
   refine R5 ?_;obtain ⟨u184,hh⟩:=gd hh;refine TL.iS 15 z (λhs427=> ?_);refine ι z iX (κ 15 ?_);have hn428:(qG.set y256_0.toNat v162.1).length=(replicate v13.1.length (0:Int)).length:=by rw [fV];exact yT
   refine φ z (sS v162.1 ?_);refine TL.nil (B.n ?_);obtain rfl:=so hh;exact rnd_n ⟨z,_,ψ [15,15,15,15,15,8,8,8,15,15,15,15,15] 14,⟨a422_1,c422_2,z422_3,b422_5,z,yU,zf422_4,oz,uJ,hn428⟩⟩
  rintro τ406 _ _ o8 ⟨rD,qZ,Bc,zH,rfl,yU,qx,oz,uJ,yT⟩ ⟨rfl⟩;replace hr111_0:=hr111_0.mono o8;replace jU:=jU.mono o8;replace jK:=jK.mono o8;have zf395b:=qx.length;have zf399b:=oz.length;dsimp only [Ih_]at hh;show jmpQ _ _ _ _ _ τ406 [ω bK #[aW,aW,aW] 35,ω iq #[.int .i64 Ad] 27,ω yg #[.slice jl dR.length jR] 137,ε 4 1 dG (.slice Ap (replicate x0.states.toNat false).length Ah) jP,ω F9 #[loc b202_1 0] 138,ω b202_1 #[.slice rD pW.length qZ,.map (some zH)] 212,ε 31 1 (aF 1 ak aT).en (.slice rD pW.length qZ) Bc,Γ iQ gX (some zH) Dz,ω F8 #[.slice a111_1 v26.1.length c111_1,.slice uV kY.length uP,.slice yt mV.length x9] 35,ε 31 1 (aF 1 ak aT).en (.slice uV kY.length uP) zT,dO 4 dG yt x9 mV,ω Jj #[.slice a301_1 lG.1.length c301_2] 31,ω RU #[.slice yj ((replicate v13.1.length (0:Int)).length) xZ] 31,ε 3 1 ak (.slice yj (replicate v13.1.length (0:Int)).length xZ) qG,ω b352_4 #[.slice a352_1 KI.length c352_2] 131];refine s0_ hh ?_ ?_ <;>clear hh
  ·intro hh;refine R5 ?_;rw [<-yT];refine κ 13 (TL.jO aT (λτ433 vT hr431=> ?_));replace hr111_0:=hr111_0.mono vT;replace jU:=jU.mono vT;replace jK:=jK.mono vT;replace qx:=qx.mono vT;replace oz:=oz.mono vT;have Tq:ZOk _ (aF 1 ak aT) ([(qG,(yj,xZ))]:List (ah×(aF 1 ak aT).P)) [qG]:=ZOk.cons (hr431) (ZOk.nil _ _);refine φ z (litZ Tq z jZ jy z ku z z z (by decide) (by decide) z (by decide) z (by decide) (λa429 c430=> ?_));refine κ 10 ?_;obtain ⟨u190,hh⟩:=gd hh;refine φ z (Jk (k:=(aF 1 ak aT)) oz Tq z z jZ jy mG ku z z (by decide) z z z (.inr ⟨_,0,z⟩) (by simpa using u190) (by decide) (λa436 c437 zf438=> ?_));refine ι z fL (κ 10 (R6 ?_));refine φ z (jc (enc:=dG) [Dw] (λa439 c440=> ?_));refine κ 12 ?_;obtain ⟨u197,hh⟩:=gd hh;refine φ z (apF (.inr ⟨_,0,z⟩) u197 (λa442 ZM=> ?_));refine ι z fL (κ 2 (R4 ?_));obtain ⟨u201,hh⟩:=gd hh;refine R3 ?_;obtain ⟨hh,YE⟩:=xP hR1 hh;exact lf ((Ad,pW,Dz,(kY++[qG]),(mV++[Dw]),(xK+1)),(rD,qZ,Bc,zH,a436,c437,(zT++([(qG,(yj,xZ))]:List (ah×(aF 1 ak aT).P))),a442,ZM,τ433)) YE ⟨hh,jU,yU,qx,zf438,(((((zi.trans jV).trans tu).trans o9).trans o8).trans vT)⟩ (ψ [1,3,2,12,12,12,12,12,12,12,12] 11)
  intro m_ c_ hh hc_;refine zt_ hh hc_ ?_ ?_ <;>clear hh hc_
  ·intro hh;refine Θ (ψ [1,1] 2) (η ?_);replace hh:=bJ hR1 hh;obtain rfl:=so hh;exact rz
  intro m_ hh hc_;exact jl_nil hc_
 refine R1 ?_;replace hh:=bJ hR1 hh;refine R4 ?_;refine κ 3 (φ z (storeAll z Qc z z z z z z ?_));refine κ 4 (R2 ?_);refine TC.fr 9 (TC.Ji jK (λτ447 Y3 Vq=> ?_));replace hr111_0:=hr111_0.mono Y3;refine TC.fr 9 (TC.jO NH (λτ450 MQ hr448=> ?_));replace hr111_0:=hr111_0.mono MQ;replace Vq:=Vq.mono MQ;have hr448b:=hr448.rv.big;refine Θ (ψ [1] 2) (η ?_);obtain rfl:=so hh;exact rz
end Go.Proofs.YtcfgkcfcddfccaaGreatDoor
end

noncomputable section
namespace Go.Proofs.YtcfgkcfcddfccaaGreatDoor
open Go Go.E
theorem u8_of{k:Nat}(hk:k<256):(jd ((k:Nat):Int)).toNat=k:=by
  have:=Yy ((k:Nat):Int);rw [Yw]at this;omega
def pG(s:BSet):UInt8:=((JQ s).getD (0,false)).1
theorem YB(s:BSet):JQ s=some (pG s,decide (s≠BSet.zero))/\(s≠BSet.zero->s.has (pG s).toNat=true):=by
  by_cases h:s=BSet.zero
  · subst h
    have e:pG BSet.zero=0:=by unfold pG;rw [qd_];rfl
    rw [qd_,e];exact ⟨rfl,λh=>absurd rfl h⟩
  obtain ⟨b,h1,h2⟩:=v3_ h;have e:pG s=b:=by unfold pG;rw [h1];rfl
  rw [h1,e,decide_eq_true h];exact ⟨rfl,λ_=>h2⟩
theorem tw_{s:BSet}(h:s≠BSet.zero): ∀a,a<(pG s).toNat->s.has a=false:=by
  obtain ⟨b,h1, -,h3⟩:=nu_ h;have e:pG s=b:=by unfold pG;rw [h1];rfl
  rw [e];exact h3
def uD(L:List BSet)(b:Nat):T_1:=L.map λs=>if s.has b then 1 else 0
theorem keyB_eq{L:List BSet}{b c:Nat}(h:uD L b=uD L c): ∀s∈L,s.has b=s.has c:=λs hs=>by
  have h1:=List.map_inj_left.1 h s hs;cases e1:s.has b<;>cases e2:s.has c<;>rw [e1,e2]at h1<;>first|rfl|exact absurd h1 (by decide)
theorem wm_ (L : List BSet) (hL : L.length <= 1024) {k : Nat} (hk : k < 256) : Jx_ L (jd ((k : Nat) : Int)) = some (uD L k) := by
  unfold Jx_;rw [cu (by omega)];obtain ⟨r,e,rfl⟩:=kV (step:=λq:T_1×Nat=>De_ L (jd ((k:Nat):Int)) q.1 q.2) (λ(l:T_1) j=>(l,j)) L.length
    (λj l=>l.length=L.length/\ ∀i,i<L.length->nth l i 0=if i<j then (if (nth L i BSet.zero).has k then 1 else 0) else 0) (λr=>r=uD L k)
    (λj l hj hI=>by
      obtain ⟨h1,h2⟩:=hI;show (∃s',De_ L (jd ((k:Nat):Int)) l j=_/\_)\/_;unfold De_ Fl_;rw [eH (by omega),u8_of hk];cases hh:(nth L j BSet.zero).has k with
      |true=>
        rw [iteO_true,cu (by omega)];refine .inl ⟨_,rfl,by rw [fV];exact h1,λi hi=> ?_⟩;rw [Af]
        by_cases e:j=i
        · subst e;rw [if_pos ⟨rfl,by omega⟩,if_pos (by omega),hh,if_pos rfl]
        rw [if_neg (λq=>e q.1),h2 i hi]
        by_cases e2:i<j
        · rw [if_pos e2,if_pos (show i<j+1 by omega)]
        rw [if_neg e2,if_neg (show ¬ i<j+1 by omega)]
      |false=>
        rw [iteO_false];refine .inl ⟨l,rfl,h1,λi hi=> ?_⟩;rw [h2 i hi]
        by_cases e:i=j
        · subst e;rw [if_neg (by omega),if_pos (by omega),hh,if_neg (by simp)]
        by_cases e2:i<j
        · rw [if_pos e2,if_pos (show i<j+1 by omega)]
        rw [if_neg e2,if_neg (show ¬ i<j+1 by omega)])
    (λl hI=>by
      obtain ⟨h1,h2⟩:=hI;refine ⟨l,?_,?_⟩
      · show De_ L (jd ((k:Nat):Int)) l L.length=_
        unfold De_;rw [dM (by omega)];rfl
      refine Yx (0:UInt8) (by unfold uD;rw [List.length_map];exact h1) λi hi=> ?_;rw [h2 i (by omega),if_pos (by omega)];unfold uD;rw [I_ _ _ _ BSet.zero 0 (by omega)])
    (s0:=List.replicate L.length 0) ⟨by rw [oI],λi hi=>by rw [qt_,if_neg (by omega)]⟩
  exact e
structure PartI (L:List BSet) (k:Nat) (m:FM T_1 Int) (p:List BSet):Prop where
  len:p.length<=k
  at_: ∀b,b<k-> ∃i:Nat,i<p.length/\m.f (uD L b)=some ((i:Nat):Int)
  val: ∀x v,m.f x=some v-> ∃i:Nat,i<p.length/\v=((i:Nat):Int)
  inj: ∀x y v,m.f x=some v->m.f y=some v->x=y
  has: ∀i,i<p.length-> ∀b,b<256->((nth p i BSet.zero).has b=true↔b<k/\m.f (uD L b)=some ((i:Nat):Int))
  cn: ∃c:ah,c.length=k/\jX c=some p.length/\ ∀b,b<k->m.f (uD L b)=some (nth c b (0:Int))
theorem ux_ {L : List BSet} {k : Nat} (hk : k < 256) {m : FM T_1 Int} {p : List BSet} {i : Nat} (hi : i < p.length) (hl : p.length <= k + 1) (h1 : m.f (uD L k) = some ((i : Nat) : Int)) (at_ : ∀ b, b < k -> ∃ i : Nat, i < p.length /\ m.f (uD L b) = some ((i : Nat) : Int))
    (val: ∀x v,m.f x=some v-> ∃i:Nat,i<p.length/\v=((i:Nat):Int)) (inj: ∀x y v,m.f x=some v->m.f y=some v->x=y)
    (has: ∀i,i<p.length-> ∀b,b<256->((nth p i BSet.zero).has b=true↔b<k/\m.f (uD L b)=some ((i:Nat):Int)))
    (cn: ∃c:ah,c.length=k/\jX (c++[((i:Nat):Int)])=some p.length/\ ∀b,b<k->m.f (uD L b)=some (nth c b (0:Int))):
    ∃p',Cu_ k m p ((i:Nat):Int)=some (.inl (m,p',k+1))/\PartI L (k+1) m p':=by
  unfold Cu_;rw [cu ⟨Int.natCast_nonneg i,by omega⟩,cu (by simp),xd_,kT,cu ⟨Int.natCast_nonneg i,by omega⟩,nI];refine ⟨_,rfl,by rw [fV];exact hl,λb hb=> ?_,λx v hx=> ?_,inj,λj hj b hb=> ?_,?_⟩
  · rw [fV]
    by_cases e:b=k
    · subst e;exact ⟨i,hi,h1⟩
    exact at_ b (by omega)
  · rw [fV];exact val x v hx
  · rw [fV]at hj
    rw [Af]
    by_cases e:i=j
    · subst e
      rw [if_pos ⟨rfl,hi⟩,BSet.Gg _ hb,Yg k hk hb,Bool.or_eq_true,iL,has i hi b hb];constructor
      · rintro (⟨h2,h3⟩|rfl)
        · exact ⟨by omega,h3⟩
        exact ⟨by omega,h1⟩
      rintro ⟨h2,h3⟩
      by_cases e:b=k
      · exact .inr e
      exact .inl ⟨by omega,h3⟩
    rw [if_neg (λq=>e q.1),has j hj b hb];constructor
    · rintro ⟨h2,h3⟩;exact ⟨by omega,h3⟩
    rintro ⟨h2,h3⟩;refine ⟨?_,h3⟩
    by_cases e2:b=k
    · subst e2
      rw [h1]at h3;have:=Option.some.inj h3;omega
    omega
  obtain ⟨c,h2,h3,h4⟩:=cn;refine ⟨c++[((i:Nat):Int)],by rw [iK,jm,h2],by rw [fV];exact h3,λb hb=> ?_⟩
  by_cases e:b=k
  · subst e;rw [h1,<-h2,zS]
  rw [yx _ _ _ _ (by omega)];exact h4 b (by omega)
theorem ui_ (L : List BSet) : ∃ r, E9_ L = some r /\ (r.2 = 0 -> ∃ m, PartI L 256 m r.1) /\ r.1.length <= 256 /\ (L.length <= 1024 -> r.2 = 0) := by
  unfold E9_
  by_cases hL:1024<((L.length:Nat):Int)
  · rw [eH hL];exact ⟨_,rfl,λh=>(by cases h),by simp,λh=>by omega⟩
  rw [dM hL];refine kV (step:=λq:(FM T_1 Int)×(List BSet)×Nat=>B7_ L q.1 q.2.1 q.2.2) (λ(s:(FM T_1 Int)×List BSet) k=>(s.1,s.2,k)) 256 (λk s=>PartI L k s.1 s.2) _
    (λk s hk hI=> ?_) (λs hI=> ?_) (s0:=(FM.emp,[])) ⟨Nat.le_refl _,λb hb=>by omega,λx v hx=>(by cases hx),λx y v hx=>(by cases hx),λi hi=>(by simp at hi),[],rfl,rfl,λb hb=>by omega⟩
  · obtain ⟨m,p⟩:=s
    have hI:PartI L k m p:=hI;have hlen:=hI.len;show (∃s',B7_ L m p k=_/\_)\/_;unfold B7_;rw [eH (by omega),wm_ L (by omega) hk,kT];left;cases hh:m.has (uD L k)with
    |true=>
      rw [Bool.not_true,iteO_false];obtain ⟨v,hv⟩: ∃v,m.f (uD L k)=some v:=by
        unfold FM.has at hh;exact Option.isSome_iff_exists.1 hh
      obtain ⟨i,hi,rfl⟩:=hI.val _ _ hv;have hg:m.get (uD L k) 0=((i:Nat):Int):=by unfold FM.get;rw [hv];rfl
      rw [hg];obtain ⟨c,hc1,hc2,hc3⟩:=hI.cn;obtain ⟨p',e,hP⟩:=ux_ hk hi (by omega) hv hI.at_ hI.val hI.inj hI.has ⟨c,hc1,by
        rw [IC,hc2];unfold uX;rw [Option.bind_some,if_neg (by omega),if_neg (by omega)],hc3⟩
      exact ⟨(m,p'),e,hP⟩
    | false =>
      rw [Bool.not_false,iteO_true,cu (by rw [jm];omega)];have hn:m.f (uD L k)=none:=by
        unfold FM.has at hh;cases e:m.f (uD L k)with
        |none=>rfl
        |some v=>rw [e]at hh;cases hh
      have hput: ∀x,(m.put (uD L k) ((p.length:Nat):Int)).f x=if x=uD L k then some ((p.length:Nat):Int) else m.f x:=λx=>rfl;have hne: ∀b,b<k->uD L b≠uD L k:=λb hb e=>by
        obtain ⟨i, -,hi⟩:=hI.at_ b hb;rw [e,hn]at hi;cases hi
      have hlen1:(p++[BSet.zero]).length=p.length+1:=by rw [iK,jm]
      obtain ⟨c,hc1,hc2,hc3⟩:=hI.cn;obtain ⟨p',e,hP⟩:=ux_ (L:=L) hk (m:=m.put (uD L k) ((p.length:Nat):Int)) (p:=p++[BSet.zero]) (i:=p.length) (by omega) (by omega) (by rw [hput,if_pos rfl])
        (λb hb=>by
          obtain ⟨i,h1,h2⟩:=hI.at_ b hb;exact ⟨i,by omega,by rw [hput,if_neg (hne b hb)];exact h2⟩)
        (λx v hx=>by
          rw [hput]at hx
          by_cases e:x=uD L k
          · rw [if_pos e]at hx;exact ⟨p.length,by omega,(Option.some.inj hx).symm⟩
          rw [if_neg e]at hx;obtain ⟨i,h1,h2⟩:=hI.val x v hx;exact ⟨i,by omega,h2⟩)
        (λx y v hx hy=>by
          rw [hput]at hx hy
          by_cases e:x=uD L k
          · by_cases e2:y=uD L k
            · rw [e,e2]
            rw [if_pos e]at hx;rw [if_neg e2]at hy;obtain ⟨i,h1,h2⟩:=hI.val y v hy;have:=Option.some.inj hx;omega
          by_cases e2:y=uD L k
          · rw [if_neg e]at hx
            rw [if_pos e2]at hy;obtain ⟨i,h1,h2⟩:=hI.val x v hx;have:=Option.some.inj hy;omega
          rw [if_neg e]at hx;rw [if_neg e2]at hy;exact hI.inj x y v hx hy)
        (λi hi b hb=>by
          rw [hput]
          by_cases e:i<p.length
          · rw [yx _ _ _ _ e,hI.has i e b hb]
            by_cases e2:uD L b=uD L k
            · rw [if_pos e2]
              constructor
              · rintro ⟨h1,h2⟩
                exact absurd e2 (hne b h1)
              rintro ⟨h1,h2⟩;exact absurd e2 (hne b h1)
            rw [if_neg e2]
          obtain rfl:i=p.length:=by omega
          rw [zS];constructor
          · intro h
            rw [<-BSet.a3_,BSet.Gg _ hb]at h;cases h
          rintro ⟨h1,h2⟩;rw [if_neg (hne b h1)]at h2;obtain ⟨j,h3,h4⟩:=hI.val _ _ h2;omega)
        ⟨c,hc1,by
          rw [IC,hc2,hlen1];unfold uX;rw [Option.bind_some,if_neg (by omega),if_pos rfl],λb hb=>by rw [hput,if_neg (hne b hb)];exact hc3 b hb⟩
      exact ⟨(_,p'),e,hP⟩
  obtain ⟨m,p⟩:=s;refine ⟨(p,0),?_,λ_=>⟨m,hI⟩,hI.len,λ_=>rfl⟩;show B7_ L m p 256=_;unfold B7_;rw [dM (by omega)];rfl
theorem PartI.same{L:List BSet}{m:FM T_1 Int}{p:List BSet}(h:PartI L 256 m p){i:Nat}(hi:i<p.length){b c:Nat}(hb:b<256)(hc:c<256)(h1:(nth p i BSet.zero).has b=true)(h2:(nth p i BSet.zero).has c=true): ∀s∈L,s.has b=s.has c:=
  keyB_eq (h.inj _ _ _ ((h.has i hi b hb).1 h1).2 ((h.has i hi c hc).1 h2).2)
structure ClsI (p:List BSet) (l:ah):Prop where
  len:l.length=256
  at_: ∀b,b<256->nth l b (0:Int)= -1\/ ∃i:Nat,nth l b (0:Int)=((i:Nat):Int)/\i<p.length/\(nth p i BSet.zero).has b=true
def ClsR(p:List BSet)(r:ah×Int):Prop:=r.2=0->r.1.length=256/\ ∀b,b<256-> ∃i:Nat,nth r.1 b (0:Int)=((i:Nat):Int)/\i<p.length/\(nth p i BSet.zero).has b=true
theorem class_b4{p:List BSet}{l:ah}(h:ClsI p l): ∃r,iter (λq:Nat=>Gq l q) 0=some r/\ClsR p r:=by
  have hlen:=h.len;refine kV (step:=λq:Nat=>Gq l q) (λ(_:Unit) k=>k) 256 (λk _=> ∀b,b<k->0<=nth l b (0:Int)) _ (λk s hk hI=> ?_) (λs hI=> ?_) (s0:=()) (λb hb=>by omega)
  · show (∃s',Gq l k=_/\_)\/ ∃r,Gq l k=_/\_
    unfold Gq;rw [oI,eH (by omega),cu (by omega)]
    by_cases c:nth l k (0:Int)<0
    · rw [eH c];exact .inr ⟨_,rfl,λh=>by cases h⟩
    rw [dM c];refine .inl ⟨(),rfl,λb hb=> ?_⟩
    by_cases e:b=k
    · subst e;omega
    exact hI b (by omega)
  refine ⟨(l,0),?_,λ_=>⟨hlen,λb hb=> ?_⟩⟩
  · show Gq l 256=_
    unfold Gq;rw [oI,dM (by omega)];rfl
  rcases h.at_ b hb with h1|h1
  · have:=hI b hb
    show ∃i:Nat,nth l b (0:Int)=_/\_;omega
  exact h1
theorem aan_{p:List BSet}{k:Nat}(hk:k<p.length)(v:UInt8×Bool){l:ah}(h:ClsI p l):
    ∃r,iter (λq:ah×Nat=>Gs p k v q.1 q.2) (l,0)=some r/\((∃l',r= .inl (l',((v.1.toNat:Nat):Int),k+1)/\ClsI p l')\/r= .inr ([],1)):=by
  refine kV (step:=λq:ah×Nat=>Gs p k v q.1 q.2) (λ(l:ah) j=>(l,j)) 256 (λ_ l=>ClsI p l) _ (λj l hj hI=> ?_) (λl hI=> ?_) (s0:=l) h
  · have hlen:=hI.len
    show (∃s',Gs p k v l j=_/\_)\/ ∃r,Gs p k v l j=_/\_;unfold Gs Cy_;rw [eH (by omega),u8_of hj];cases hh:(nth p k BSet.zero).has j with
    |false=>rw [Bool.not_false,iteO_true];exact .inl ⟨l,rfl,hI⟩
    |true=>
      rw [Bool.not_true,iteO_false,cu (by omega)]
      by_cases c:0<=nth l j (0:Int)
      · rw [eH c];exact .inr ⟨_,rfl,.inr rfl⟩
      rw [dM c,cu (by omega)];refine .inl ⟨_,rfl,by rw [fV];exact hlen,λb hb=> ?_⟩;rw [Af]
      by_cases e:j=b
      · subst e;rw [if_pos ⟨rfl,by omega⟩];exact .inr ⟨k,rfl,hk,hh⟩
      rw [if_neg (λq=>e q.1)];exact hI.at_ b hb
  refine ⟨_,?_,.inl ⟨l,rfl,hI⟩⟩;show Gs p k v l 256=_;unfold Gs;rw [dM (by omega)];rfl
theorem class_b2{p:List BSet}{l:ah}(h:ClsI p l): ∃r,iter (λq:ah×Int×Nat=>IL p q.1 q.2.1 q.2.2) (l, -1,0)=some r/\ClsR p r:=by
  refine kV (step:=λq:ah×Int×Nat=>IL p q.1 q.2.1 q.2.2) (λ(s:ah×Int) k=>(s.1,s.2,k)) p.length (λ_ s=>ClsI p s.1) _ (λk s hk hI=> ?_) (λs hI=> ?_) (s0:=(l, -1)) h
  · obtain ⟨l,i⟩:=s
    show (∃s',IL p l i k=_/\_)\/ ∃r,IL p l i k=_/\_;unfold IL;rw [eH (by omega),(YB _).1,kT];dsimp only
    by_cases c1:nth p k BSet.zero≠BSet.zero
    · rw [decide_eq_true c1,Bool.not_true,iteO_false]
      by_cases c2:(((pG (nth p k BSet.zero)).toNat:Nat):Int)<=i
      · rw [eH c2];exact .inr ⟨_,rfl,λh=>by cases h⟩
      rw [dM c2];obtain ⟨r,e,h2⟩:=aan_ hk (pG (nth p k BSet.zero),true) hI;rw [e];rcases h2 with ⟨l',rfl,h2⟩|rfl
      · exact .inl ⟨(l',_),rfl,h2⟩
      exact .inr ⟨_,rfl,λh=>by cases h⟩
    rw [decide_eq_false c1,Bool.not_false,iteO_true];exact .inr ⟨_,rfl,λh=>by cases h⟩
  obtain ⟨l,i⟩:=s;obtain ⟨r,e,h2⟩:=class_b4 (p:=p) hI;refine ⟨r,?_,h2⟩;show IL p l i p.length=_;unfold IL;rw [dM (by omega),e];rfl
theorem uz_(p:List BSet): ∃r,Xo p=some r/\ClsR p r:=by
  unfold Xo;refine kV (step:=λq:ah×Nat=>JR p q.1 q.2) (λ(l:ah) k=>(l,k)) 256 (λk l=>l.length=256/\ ∀b,b<k->nth l b (0:Int)= -1) _ (λk l hk hI=> ?_) (λl hI=> ?_) (s0:=List.replicate 256 0) ⟨by rw [oI],λb hb=>by omega⟩
  · obtain ⟨h1,h2⟩:=hI
    show (∃s',JR p l k=_/\_)\/_;unfold JR;rw [oI,eH (by omega),cu (by omega)];refine .inl ⟨_,rfl,by rw [fV];exact h1,λb hb=> ?_⟩;rw [Af]
    by_cases e:k=b
    · rw [if_pos ⟨e,by omega⟩]
    rw [if_neg (λq=>e q.1)];exact h2 b (by omega)
  obtain ⟨h1,h2⟩:=hI;obtain ⟨r,e,h3⟩:=class_b2 (p:=p) (l:=l) ⟨h1,λb hb=> .inl (h2 b hb)⟩;refine ⟨r,?_,h3⟩;show JR p l 256=_;unfold JR;rw [oI,dM (by omega),e];rfl
structure PrtOk (p:List BSet):Prop where
  ne: ∀i,i<p.length-> ∃b,b<256/\(nth p i BSet.zero).has b=true
  disj: ∀i j,i<p.length->j<p.length-> ∀b,b<256->(nth p i BSet.zero).has b=true->(nth p j BSet.zero).has b=true->i=j
  cov: ∀b,b<256-> ∃i,i<p.length/\(nth p i BSet.zero).has b=true
  ord: ∀i j,i<j->j<p.length-> ∀b,b<256->(nth p j BSet.zero).has b=true-> ∃a,a<b/\(nth p i BSet.zero).has a=true
structure ClsK (p:List BSet) (k:Nat) (l:ah):Prop where
  len:l.length=256
  hit: ∀i,i<k-> ∀b,b<256->(nth p i BSet.zero).has b=true->nth l b (0:Int)=((i:Nat):Int)
  no: ∀b,b<256->(∀i,i<k->(nth p i BSet.zero).has b=false)->nth l b (0:Int)= -1
theorem class_f3 {p : List BSet} (hP : PrtOk p) {k : Nat} (hk : k < p.length) (v : UInt8 × Bool) {l : ah} (h : ClsK p k l) :
    ∃l',iter (λq:ah×Nat=>Gs p k v q.1 q.2) (l,0)=some (.inl (l',((v.1.toNat:Nat):Int),k+1))/\ClsK p (k+1) l':=by
  have hfree: ∀b,b<256->(nth p k BSet.zero).has b=true->nth l b (0:Int)= -1:=λb hb hh=>h.no b hb λi hi=>by
    cases e:(nth p i BSet.zero).has b
    · rfl
    have:=hP.disj i k (by omega) hk b hb e hh;omega
  obtain ⟨r,e,l',rfl,h1⟩:=kV (step:=λq:ah×Nat=>Gs p k v q.1 q.2) (λ(l:ah) j=>(l,j)) 256 (λj x=>x.length=256/\ ∀b,b<256->nth x b (0:Int)=if b<j/\(nth p k BSet.zero).has b=true then ((k:Nat):Int) else nth l b (0:Int))
    (λr=> ∃l',r= .inl (l',((v.1.toNat:Nat):Int),k+1)/\l'.length=256/\ ∀b,b<256->nth l' b (0:Int)=if (nth p k BSet.zero).has b=true then ((k:Nat):Int) else nth l b (0:Int))
    (λj x hj hI=>by
      obtain ⟨hlen,hx⟩:=hI;left;show ∃s',Gs p k v x j=_/\_;unfold Gs Cy_;rw [eH (by omega),u8_of hj];cases hh:(nth p k BSet.zero).has j with
      |false=>
        rw [Bool.not_false,iteO_true];refine ⟨x,rfl,hlen,λb hb=> ?_⟩;rw [hx b hb]
        by_cases e:b=j
        · subst e;rw [hh];simp
        by_cases e2:b<j
        · by_cases e3:(nth p k BSet.zero).has b=true
          · rw [if_pos ⟨e2,e3⟩,if_pos ⟨by omega,e3⟩]
          rw [if_neg (λq=>e3 q.2),if_neg (λq=>e3 q.2)]
        rw [if_neg (λq=>e2 q.1),if_neg (λq=>by omega)]
      |true=>
        have hxj:=hx j hj;rw [if_neg (λq=>Nat.lt_irrefl _ q.1),hfree j hj hh]at hxj;rw [Bool.not_true,iteO_false,cu (by omega),dM (by omega),cu (by omega)];refine ⟨_,rfl,by rw [fV];exact hlen,λb hb=> ?_⟩;rw [Af]
        by_cases e:j=b
        · subst e;rw [if_pos ⟨rfl,by omega⟩,if_pos ⟨by omega,hh⟩]
        rw [if_neg (λq=>e q.1),hx b hb]
        by_cases e2:b<j
        · by_cases e3:(nth p k BSet.zero).has b=true
          · rw [if_pos ⟨e2,e3⟩,if_pos ⟨by omega,e3⟩]
          rw [if_neg (λq=>e3 q.2),if_neg (λq=>e3 q.2)]
        rw [if_neg (λq=>e2 q.1),if_neg (λq=>by omega)])
    (λx hI=>by
      obtain ⟨hlen,hx⟩:=hI;refine ⟨_,?_,x,rfl,hlen,λb hb=> ?_⟩
      · show Gs p k v x 256=_
        unfold Gs;rw [dM (by omega)];rfl
      rw [hx b hb]
      by_cases e3:(nth p k BSet.zero).has b=true
      · rw [if_pos ⟨hb,e3⟩,if_pos e3]
      rw [if_neg (λq=>e3 q.2),if_neg e3])
    (s0:=l) ⟨h.len,λb hb=>by rw [if_neg (λq=>Nat.not_lt_zero _ q.1)]⟩
  obtain ⟨h1,h2⟩:=h1;refine ⟨l',e,h1,λi hi b hb hh=> ?_,λb hb hn=> ?_⟩
  · rw [h2 b hb]
    by_cases e:i=k
    · subst e;rw [if_pos hh]
    rw [if_neg (λq=>e (hP.disj i k (by omega) hk b hb hh q))];exact h.hit i (by omega) b hb hh
  rw [h2 b hb,if_neg (by rw [hn k (by omega)];exact Bool.false_ne_true)];exact h.no b hb λi hi=>hn i (by omega)
theorem q4_{b:Nat}(hb:b<256):BSet.zero.has b=false:=by
  rw [<-BSet.a3_,BSet.Gg _ hb]
theorem qc_ {p : List BSet} (hP : PrtOk p) : ∃ l, Xo p = some (l, 0) := by
  unfold Xo ;obtain ⟨r,e,l,rfl⟩:=kV (step:=λq:ah×Nat=>JR p q.1 q.2) (λ(l:ah) k=>(l,k)) 256 (λk l=>l.length=256/\ ∀b,b<k->nth l b (0:Int)= -1) (λr=> ∃l,r=(l,0)) (λk l hk hI=>by
    obtain ⟨h1,h2⟩:=hI;show (∃s',JR p l k=_/\_)\/_;unfold JR;rw [oI,eH (by omega),cu (by omega)];refine .inl ⟨_,rfl,by rw [fV];exact h1,λb hb=> ?_⟩;rw [Af]
    by_cases e:k=b
    · rw [if_pos ⟨e,by omega⟩]
    · rw [if_neg (λq=>e q.1)];exact h2 b (by omega)) (λl hI=>by
    obtain ⟨h1,h2⟩:=hI;obtain ⟨r,e,l',rfl⟩:=kV (step:=λq:ah×Int×Nat=>IL p q.1 q.2.1 q.2.2) (λ(s:ah×Int) k=>(s.1,s.2,k)) p.length (λk s=>ClsK p k s.1/\(s.2= -1\/ ∃i,i<k/\s.2=(((pG (nth p i BSet.zero)).toNat:Nat):Int))) (λr=> ∃l,r=(l,0))
      (λk s hk hI=>by
        obtain ⟨l,i⟩:=s;obtain ⟨hI,hi⟩:=hI;dsimp only at hI hi;obtain ⟨b0,hb0,hb1⟩:=hP.ne k hk;have hz:nth p k BSet.zero≠BSet.zero:=λe=>by rw [e,q4_ hb0]at hb1;cases hb1
        left;show ∃s',IL p l i k=_/\_;unfold IL;rw [eH (by omega),(YB _).1,kT];dsimp only;have hf:=(YB (nth p k BSet.zero)).2 hz;have hlt: ¬ (((pG (nth p k BSet.zero)).toNat:Nat):Int)<=i:=by
          rcases hi with rfl|⟨j,hj,rfl⟩
          · omega
          obtain ⟨a,ha,h3⟩:=hP.ord j k hj hk _ (UInt8.toNat_lt _) hf;have hzj:nth p j BSet.zero≠BSet.zero:=λe=>by
            have:=UInt8.toNat_lt (pG (nth p k BSet.zero));rw [e,q4_ (by omega)]at h3;cases h3
          have h4:=tw_ hzj a;rw [h3]at h4;have: ¬ a<(pG (nth p j BSet.zero)).toNat:=λq=>by have:=h4 q;cases this
          omega
        rw [decide_eq_true hz,Bool.not_true,iteO_false,dM hlt];obtain ⟨l',e,hC⟩:=class_f3 hP hk (pG (nth p k BSet.zero),true) hI;rw [e];exact ⟨(l',_),rfl,hC,.inr ⟨k,by omega,rfl⟩⟩)
      (λs hI=>by
        obtain ⟨l,i⟩:=s;obtain ⟨hI, -⟩:=hI;dsimp only at hI;have hlen:=hI.len;obtain ⟨r,e,rfl⟩:=kV (step:=λq:Nat=>Gq l q) (λ(_:Unit) k=>k) 256 (λ_ _=>True) (λr=>r=(l,0)) (λk s hk _=>by
          show (∃s',Gq l k=_/\_)\/ ∃r,Gq l k=_/\_;obtain ⟨i,hi,hh⟩:=hP.cov k hk;have:=hI.hit i hi k hk hh;unfold Gq;rw [oI,eH (by omega),cu (by omega),dM (by omega)];exact .inl ⟨(),rfl,trivial⟩) (λs _=>⟨(l,0),by
            show Gq l 256=_;unfold Gq;rw [oI,dM (by omega)];rfl,rfl⟩) (s0:=()) trivial
        refine ⟨(l,0),?_,l,rfl⟩;show IL p l i p.length=_;unfold IL;rw [dM (by omega),e];rfl)
      (s0:=(l, -1)) ⟨⟨h1,λi hi=>absurd hi (Nat.not_lt_zero i),λb hb _=>h2 b hb⟩,.inl rfl⟩
    refine ⟨(l',0),?_,l',rfl⟩;show JR p l 256=_;unfold JR;rw [oI,dM (by omega),e];rfl) (s0:=List.replicate 256 0) ⟨by rw [oI],λb hb=>by omega⟩
  exact ⟨l,e⟩
theorem y7_ (l : List Arrow) (hl : l.length <= 1000000) : ∃ r, G8_ l = some r /\ (∀ e ∈ l, e.set ∈ r) /\ r.length <= l.length := by
  unfold G8_;obtain ⟨r,e,h⟩:=kV (step:=λq:(FM BSet Int)×(List BSet)×Nat=>B6_ l q.1 q.2.1 q.2.2) (λ(s:(FM BSet Int)×List BSet) k=>(s.1,s.2,k)) l.length (λk s=>s.2.length<=k/\(∀x,s.1.has x=true->x∈s.2)/\ ∀e∈l.take k,e.set∈s.2) (λr=>(∀e∈l,e.set∈r)/\r.length<=l.length)
    (λk s hk hI=>by
      obtain ⟨m,p⟩:=s;obtain ⟨h1,h2,h3⟩:=hI;dsimp only at h1 h2 h3;show (∃s',B6_ l m p k=_/\_)\/_;unfold B6_ Ed_;rw [eH (by omega),qh l hk Arrow.zero];cases hh:m.has (nth l k Arrow.zero).set with
      |true=>
        rw [Bool.not_true,iteO_false];refine .inl ⟨(m,p),rfl,by show p.length<=_;omega,h2,λe he=> ?_⟩;rcases List.mem_append.1 he with he|he
        · exact h3 e he
        rw [List.mem_singleton.1 he];exact h2 _ hh
      |false=>
        rw [Bool.not_false,iteO_true,cu (by rw [jm];omega)];refine .inl ⟨(_,p++[(nth l k Arrow.zero).set]),rfl,by show (p++[_]).length<=_;rw [iK,jm];omega,λx hx=> ?_,λe he=> ?_⟩
        · show x∈p++[_]
          rw [List.mem_append,JC]
          by_cases e:x=(nth l k Arrow.zero).set
          · exact .inr e
          refine .inl (h2 x ?_);have h4:(m.put (nth l k Arrow.zero).set ((p.length:Nat):Int)).f x=m.f x:=by show (if x=_ then _ else _)=_;rw [if_neg e]
          have hx':((m.put (nth l k Arrow.zero).set ((p.length:Nat):Int)).f x).isSome=true:=hx;rw [h4]at hx';exact hx'
        show e.set∈p++[_];rcases List.mem_append.1 he with he|he
        · exact List.mem_append_left _ (h3 e he)
        rw [List.mem_singleton.1 he];exact List.mem_append_right _ (List.mem_singleton.2 rfl))
    (λs hI=>by
      obtain ⟨m,p⟩:=s;obtain ⟨h1,h2,h3⟩:=hI;rw [List.take_length]at h3;refine ⟨p,?_,h3,h1⟩;show B6_ l m p l.length=_;unfold B6_;rw [dM (by omega)];rfl)
    (s0:=(FM.emp,[])) ⟨Nat.le_refl _,λx hx=>(by cases hx),λe he=>(by cases he)⟩
  exact ⟨r,e,h⟩
theorem flt_or{α:Type}(p q:α->Bool)(h: ∀x,p x=true->q x=true->False): ∀l:List α,(l.filter λx=>p x || q x).length=(l.filter p).length+(l.filter q).length
  |[]=>rfl
  |x::l=>by
    have ih:=flt_or p q h l;cases hp:p x<;>cases hq:q x
    · simp [hp,hq,ih]
    · simp [hp,hq,ih];omega
    · simp [hp,hq,ih];omega
    exact (h x hp hq).elim
theorem up_not{row:ah}(hp:row.Pairwise (· < ·)){k:Nat}(hk:k<row.length):nth row k (0:Int)∉row.take k:=λhm=>by
  have h1:=hp;rw [<-List.take_append_drop (k+1) row,qh row hk (0:Int),List.pairwise_append,List.pairwise_append]at h1;exact Int.lt_irrefl _ (h1.1.2.2 _ hm _ (List.mem_singleton.2 rfl))
theorem xr_ {n : Nfa} {A : List (List Arrow)} (hA : Grp Arrow.frm id n.states.toNat A n.edges) (h0 : 0 <= n.states) (hE : n.edges.length <= 16384) {row : ah} (hr : ∀ x ∈ row, 0 <= x /\ x < n.states) (hp : row.Pairwise (· < ·)) (s : BSet) :
    ∃l,G1_ A row s=some l/\l.length<=1000000/\ ∀q,q∈l↔ ∃e∈n.edges,e.frm∈row/\e.set.has (pG s).toNat=true/\e.to=q:=by
  have hlen:=hA.len;unfold G1_;rw [(YB s).1,kT];obtain ⟨r,e,h1,h2⟩:=kV (step:=λq:ah×Nat=>Cb_ row A (pG s,decide (s≠BSet.zero)) q.1 q.2) (λ(l:ah) k=>(l,k)) row.length
    (λk l=>l.length<=(n.edges.filter λe=>decide (e.frm∈row.take k)).length/\ ∀q,q∈l↔ ∃e∈n.edges,e.frm∈row.take k/\e.set.has (pG s).toNat=true/\e.to=q) (λr=>r.length<=1000000/\ ∀q,q∈r↔ ∃e∈n.edges,e.frm∈row/\e.set.has (pG s).toNat=true/\e.to=q)
    (λk l hk hI=>by
      obtain ⟨h1,h2⟩:=hI;have h9:=Nat.le_trans h1 (List.length_filter_le _ _);have hx:=hr _ (sH hk (0:Int));have hg:nth A (nth row k (0:Int)).toNat ([]:List Arrow)=n.edges.filter λe=>decide (e.frm=nth row k (0:Int)):=by rw [hA.at hx.1 (by omega),List.map_id]
      have hgl:(nth A (nth row k (0:Int)).toNat ([]:List Arrow)).length<=16384:=by
        rw [hg];exact Nat.le_trans (List.length_filter_le _ _) hE
      show (∃s',Cb_ row A (pG s,decide (s≠BSet.zero)) l k=_/\_)\/_;unfold Cb_;rw [eH (by omega),cu (by omega)];obtain ⟨r,e,l',rfl,h3,h4⟩:=kV (step:=λq:ah×Nat=>B9_ A row k (pG s,decide (s≠BSet.zero)) q.1 q.2) (λ(l:ah) j=>(l,j)) (nth A (nth row k (0:Int)).toNat ([]:List Arrow)).length
        (λj m=>m.length<=l.length+j/\ ∀q,q∈m↔q∈l\/ ∃e∈(nth A (nth row k (0:Int)).toNat ([]:List Arrow)).take j,e.set.has (pG s).toNat=true/\e.to=q)
        (λr=> ∃l',r= .inl (l',k+1)/\l'.length<=l.length+(nth A (nth row k (0:Int)).toNat ([]:List Arrow)).length/\ ∀q,q∈l'↔q∈l\/ ∃e∈nth A (nth row k (0:Int)).toNat ([]:List Arrow),e.set.has (pG s).toNat=true/\e.to=q)
        (λj m hj hI=>by
          obtain ⟨h3,h4⟩:=hI;show (∃s',B9_ A row k (pG s,decide (s≠BSet.zero)) m j=_/\_)\/_;unfold B9_ Eg_;dsimp only;rw [eH (by omega)];cases hh:(nth (nth A (nth row k (0:Int)).toNat ([]:List Arrow)) j Arrow.zero).set.has (pG s).toNat with
          |true=>
            rw [iteO_true,cu (by rw [jm];omega)];refine .inl ⟨_,rfl,by rw [iK,jm];omega,λq=> ?_⟩;rw [qh _ hj Arrow.zero,List.mem_append,JC,h4];constructor
            · rintro ((h|⟨e,he,h5⟩)|rfl)
              · exact .inl h
              · exact .inr ⟨e,List.mem_append_left _ he,h5⟩
              exact .inr ⟨_,List.mem_append_right _ (List.mem_singleton.2 rfl),hh,rfl⟩
            rintro (h|⟨e,he,h5,h6⟩)
            · exact .inl (.inl h)
            rcases List.mem_append.1 he with he|he
            · exact .inl (.inr ⟨e,he,h5,h6⟩)
            rw [List.mem_singleton.1 he]at h6;exact .inr h6.symm
          |false=>
            rw [iteO_false];refine .inl ⟨m,rfl,by omega,λq=> ?_⟩;rw [qh _ hj Arrow.zero,h4];refine or_congr Iff.rfl ⟨λ⟨e,he,h5⟩=>⟨e,List.mem_append_left _ he,h5⟩,λ⟨e,he,h5,h6⟩=> ?_⟩;rcases List.mem_append.1 he with he|he
            · exact ⟨e,he,h5,h6⟩
            rw [List.mem_singleton.1 he,hh]at h5;cases h5)
        (λm hI=>by
          obtain ⟨h3,h4⟩:=hI;rw [List.take_length]at h4;refine ⟨.inl (m,k+1),?_,m,rfl,by omega,h4⟩;show B9_ A row k (pG s,decide (s≠BSet.zero)) m (nth A (nth row k (0:Int)).toNat ([]:List Arrow)).length=_;unfold B9_;rw [dM (by omega)];rfl)
        (s0:=l) ⟨Nat.le_refl _,λq=>by simp⟩
      rw [e];have hcnt:(n.edges.filter λe=>decide (e.frm∈row.take (k+1))).length=(n.edges.filter λe=>decide (e.frm∈row.take k)).length+(nth A (nth row k (0:Int)).toNat ([]:List Arrow)).length:=by
        rw [hg,<-flt_or _ _ (λx h5 h6=>up_not hp hk (by rw [<-Xf h6];exact Xf h5)) n.edges];congr 1;apply List.filter_congr;intro x _;rw [qh row hk (0:Int),Bool.eq_iff_iff,Bool.or_eq_true,iL,iL,iL,List.mem_append,JC]
      refine .inl ⟨l',rfl,by omega,λq=> ?_⟩;rw [h4,h2,qh row hk (0:Int),hg];constructor
      · rintro (⟨e,he,h5,h6⟩|⟨e,he,h6⟩)
        · exact ⟨e,he,List.mem_append_left _ h5,h6⟩
        obtain ⟨h7,h8⟩:=List.mem_filter.1 he;exact ⟨e,h7,List.mem_append_right _ (List.mem_singleton.2 (Xf h8)),h6⟩
      rintro ⟨e,he,h5,h6⟩;rcases List.mem_append.1 h5 with h5|h5
      · exact .inl ⟨e,he,h5,h6⟩
      exact .inr ⟨e,List.mem_filter.2 ⟨he,decide_eq_true (List.mem_singleton.1 h5)⟩,h6⟩)
    (λl hI=>by
      obtain ⟨h1,h2⟩:=hI;rw [List.take_length]at h2;have h3:=Nat.le_trans h1 (List.length_filter_le _ _);refine ⟨l,?_,by omega,h2⟩;show Cb_ row A (pG s,decide (s≠BSet.zero)) l row.length=_;unfold Cb_;rw [dM (by omega)];rfl)
    (s0:=[]) ⟨Nat.zero_le _,λq=>by simp⟩
  exact ⟨r,e,h1,h2⟩
section
variable {α:Type} [DecidableEq α] {d:α} {cf:α->α->Int}
theorem ins_run (hc : GoodCmp cf) (x0 : List α) (step1 : List α × Nat -> Option ((List α × Nat) ⊕ List α)) (step2 : List α -> Nat -> Nat -> Option (Nat ⊕ ((List α × Nat) ⊕ List α)))
    (hend: ∀l k,x0.length<=k->step1 (l,k)=some (.inr l)) (hbody: ∀l k,k<x0.length->step1 (l,k)=iter (step2 l k) 0)
    (hlt: ∀l k j,k<x0.length->j<l.length->cf (nth l j d) (nth x0 k d)<0->step2 l k j=some (.inl (j+1)))
    (heq: ∀l k j,k<x0.length->j<l.length->nth l j d=nth x0 k d->step2 l k j=some (.inr (.inl (l,k+1))))
    (hins: ∀l k j,k<x0.length->l.length<=x0.length->j<=l.length->(j<l.length-> ¬ cf (nth l j d) (nth x0 k d)<0/\nth l j d≠nth x0 k d)->step2 l k j=some (.inr (.inl (l.take j++[nth x0 k d]++l.drop j,k+1)))):
    iter step1 ([],0)=some (zO d cf x0):=by
  refine Exists.elim (Rh (step:=step1) (λq=>q.2<=x0.length/\q.1.length<=q.2/\(q.1.Pairwise λx y=>cf x y<0)/\ ∀x,x∈q.1↔x∈x0.take q.2) (λr=>r=zO d cf x0) (λq=>x0.length - q.2) ?_ ([],0) ⟨Nat.zero_le _,Nat.le_refl _,List.Pairwise.nil,by simp⟩) (λr hr=>by rw [hr.1,hr.2]);rintro ⟨l,k⟩ ⟨hk,hl,hp,hm⟩;simp only at hk hl hp hm
  by_cases hkl:k<x0.length
  · left
    have Aa : ∃r,iter (step2 l k) 0=some r/\ ∃l',r= .inl (l',k+1)/\l'.length<=k+1/\(l'.Pairwise λx y=>cf x y<0)/\ ∀x,x∈l'↔x∈l\/x=nth x0 k d:=by
      refine Rh (step:=step2 l k) (λj=>j<=l.length/\ ∀i,i<j->cf (nth l i d) (nth x0 k d)<0) _ (λj=>l.length - j) ?_ 0 ⟨Nat.zero_le _,λi hi=>absurd hi (Nat.not_lt_zero _)⟩;rintro j ⟨hj,hI⟩
      by_cases hjl:j<l.length
      · by_cases h1:cf (nth l j d) (nth x0 k d)<0
        · left
          refine ⟨j+1,hlt l k j hkl hjl h1,⟨by omega,λi hi=> ?_⟩,by omega⟩
          by_cases e:i=j
          · subst e;exact h1
          exact hI i (by omega)
        right
        by_cases h2:nth l j d=nth x0 k d
        · refine ⟨_,heq l k j hkl hjl h2,l,rfl,by omega,hp,λx=>⟨.inl,?_⟩⟩
          rintro (h|rfl)
          · exact h
          rw [<-h2];exact sH hjl d
        refine ⟨_,hins l k j hkl (by omega) hj (λ_=>⟨h1,h2⟩),_,rfl,?_,?_,?_⟩
        · simp only [iK,List.length_take,List.length_drop,jm];omega
        · have hxj:cf (nth x0 k d) (nth l j d)<0:=by
            have a:=hc.anti (nth x0 k d) (nth l j d);have b:=hc.eq (nth l j d) (nth x0 k d);have:cf (nth l j d) (nth x0 k d)≠0:=λh=>h2 (b.1 h);omega
          have hd:l.drop j=nth l j d::l.drop (j+1):=by
            have:=getD_some l hjl d;rw [List.getElem?_eq_getElem hjl,Option.some.injEq]at this;rw [<-this];exact List.drop_eq_getElem_cons hjl
          have hpd:(l.drop j).Pairwise λx y=>cf x y<0:=hp.sublist (List.drop_sublist ..);have hgt: ∀y∈l.drop j,cf (nth x0 k d) y<0:=λy hy=>by
            rw [hd]at hy hpd;rw [List.pairwise_cons]at hpd;rcases List.mem_cons.1 hy with rfl|hy
            · exact hxj
            exact hc.trans _ _ _ hxj (hpd.1 y hy)
          have hls: ∀y∈l.take j,cf y (nth x0 k d)<0:=λy hy=>by
            obtain ⟨i,hi,rfl⟩:=List.mem_iff_getElem.1 hy;have hij:i<j:=by simp at hi;omega
            have:=hI i hij;have e:=getD_some l (show i<l.length by omega) d;rw [List.getElem?_eq_getElem (show i<l.length by omega),Option.some.injEq]at e;rw [List.getElem_take,e];exact this
          rw [Gf,List.pairwise_append];refine ⟨hp.sublist (List.take_sublist ..),?_,λx hx y hy=> ?_⟩
          · rw [List.singleton_append,List.pairwise_cons]
            exact ⟨hgt,hpd⟩
          rw [List.singleton_append,List.mem_cons]at hy;rcases hy with rfl|hy
          · exact hls x hx
          exact hc.trans _ _ _ (hls x hx) (hgt y hy)
        intro x;rw [Gf,List.mem_append,List.singleton_append,List.mem_cons];have:x∈l↔x∈l.take j\/x∈l.drop j:=by rw [<-List.mem_append,List.take_append_drop]
        rw [this];constructor
        · rintro (h|h|h)
          · exact .inl (.inl h)
          · exact .inr h
          exact .inl (.inr h)
        rintro ((h|h)|h)
        · exact .inl h
        · exact .inr (.inr h)
        exact .inr (.inl h)
      right;have hj':j=l.length:=by omega
      subst hj';refine ⟨_,hins l k l.length hkl (by omega) hj (λh=>absurd h (Nat.lt_irrefl _)),_,rfl,?_,?_,?_⟩
      · simp only [iK,List.length_take,List.length_drop,jm];omega
      · rw [List.take_length,List.drop_length,List.append_nil,List.pairwise_append]
        refine ⟨hp,List.pairwise_singleton ..,λx hx y hy=> ?_⟩;rw [List.mem_singleton.1 hy];obtain ⟨i,hi,rfl⟩:=List.mem_iff_getElem.1 hx;have:=hI i hi;have e:=getD_some l hi d;rw [List.getElem?_eq_getElem hi,Option.some.injEq]at e;rw [e];exact this
      intro x;simp
    obtain ⟨r,h1,l',rfl,h2,h3,h4⟩:=Aa;refine ⟨(l',k+1),by rw [hbody l k hkl,h1],⟨by simp only;omega,h2,h3,λx=> ?_⟩,by simp only;omega⟩;simp only;rw [h4,qh x0 hkl d,List.mem_append,JC,hm]
  right;refine ⟨l,hend l k (by omega),r3_ hc hp (io_ hc x0) λx=> ?_⟩;rw [hm,Vf,List.take_of_length_le (by omega)]
end
end Go.Proofs.YtcfgkcfcddfccaaGreatDoor
end

noncomputable section
namespace Go.E
open Go Go.RowKit
def G5(w:World):aj:=λb=>w.heap[b]?
theorem tt_(w:World):Reach w [] (G5 w) (G5 w) w []:=
  ⟨rfl,rfl,rfl,Nat.le_refl _,λ_ _ _=>rfl,aj.le.refl _,λ_ _ h=>h,λ_ _ h=> .inl h,by simp,by simp,by simp [fJ],by simp,Nat.le_refl _⟩
theorem v6_(w:World)(a:Addr):(G5 w).cell a=w.cell? a:=by
  unfold aj.cell World.cell? G5;cases w.heap[a.block]? with
  |none=>rfl
  |some o=>cases o<;>rfl
theorem Con.below{P:Program}{f:FuncId}{args:Array Value}{w:World}{v:Value}(h:Con P f args (G5 w) [] (jq v (G5 w))):
    Calls P f args w λe w'=>e= .returned v/\Below w.heap.size w w':=
  (h w (tt_ w)).mono λe w' ⟨r,σ',H',he,⟨h1,h2,h3⟩,k⟩=>⟨by rw [he,h1],⟨k.os,k.tape,k.output,k.size,λi hi=>k.frame i hi (by simp)⟩⟩
def EH(l:List Nat):Prop:= ∀x∈l,x<=140737488351232
theorem EH.left{a b:List Nat}(h:EH (a++b)):EH a:=λx hx=>h x (List.mem_append_left _ hx)
theorem EH.right{a b:List Nat}(h:EH (a++b)):EH b:=λx hx=>h x (List.mem_append_right _ hx)
theorem small_of{l:List Nat}(h:l.all (· <=reachBytes)=true):EH l:=λx hx=>by
  have:=List.all_eq_true.1 h x hx;exact Xf this
def Opn(P:Program)(w:World)(T:TypeId){α:Type}(ok:List Value->α->Prop):Prop:=
  ∀{H:Type} (enc:TypeId×Value->H) (held:Bool) (fuel:Nat) (cs:List Value) (d:DataW H) (ps:List MemPlace),DataW.trod enc P w 0 (λ_=>true) held fuel T cs=some (d,ps)->EH (DataW.weights P T d)-> ∃x,ok cs x
section
variable {P:Program} {w:World} {T E:TypeId}
theorem Opn.mono{α β:Type}{ok:List Value->α->Prop}{ok':List Value->β->Prop}(h:Opn P w T ok)(f:α->β)(hf: ∀cs x,ok cs x->ok' cs (f x)):Opn P w T ok':=λenc held fuel cs d ps ht hs=>
  let ⟨x,hx⟩:=h enc held fuel cs d ps ht hs;⟨f x,hf cs x hx⟩
theorem Opn.int{k:IntKind}(hT:P.underlying T=some (.int k)):Opn P w T (λcs (x:Int)=>cs=[.int k x]/\(Lit.int k x).wf=true):=λenc held fuel cs d ps ht _=>by
  obtain ⟨n,h,_,hw⟩:=DataW.trod_int hT ht;exact ⟨n,h,hw⟩
theorem Opn.bool(hT:P.underlying T=some .bool):Opn P w T (λcs (x:Bool)=>cs=[.bool x]):=λenc held fuel cs d ps ht _=>by
  obtain ⟨n,h,_⟩:=DataW.trod_bool hT ht;exact ⟨n,h⟩
theorem Opn.str(hT:P.underlying T=some .string):Opn P w T (λcs (x:List UInt8)=>cs=[.string (bs x)]/\x.length<=140737488351232):=λenc held fuel cs d ps ht hs=>by
  obtain ⟨s,h,hx,hw⟩:=DataW.trod_string hT ht;simp only [Prod.mk.injEq]at hx;obtain ⟨rfl,rfl⟩:=hx;exact ⟨s.data.toList,by rw [h,<-bs_of],hs _ (by simp [DataW.weights])⟩
theorem k7_ {α β : Type} {f : α -> Option β} : ∀ {l : List α} {r : List β}, l.mapM f = some r -> r.length = l.length /\ ∀ (i : Nat) (x : α), l[i]? = some x -> ∃ y : β, r[i]? = some y /\ f x = some y
  |[],r,h=>by simp at h;subst h;exact ⟨rfl,λi x hx=>by simp at hx⟩
  | a :: l, r, h => by
    rw [List.mapM_cons]at h;cases hf:f a with
    |none=>rw [hf]at h;cases h
    |some y=>
      cases hm:l.mapM f with
      |none=>rw [hf,hm]at h;cases h
      |some r'=>
        rw [hf,hm]at h;cases h;obtain ⟨h1,h2⟩:=k7_ hm;refine ⟨by simp [h1],λi x hx=> ?_⟩;cases i with
        |zero=>simp at hx;subst hx;exact ⟨y,rfl,hf⟩
        |succ i=>simp at hx;simpa using h2 i x hx
theorem ly_{H:Type}{ts:List TypeId}{ds:List (DataW H)}{i:Nat}{t:TypeId}{d:DataW H}(ht:ts[i]? =some t)(hd:ds[i]? =some d)(hs:EH (DataW.weightsEach P ts ds)):EH (DataW.weights P t d):=by
  induction ts generalizing i ds with
  |nil=>simp at ht
  |cons t' ts ih=>
    cases ds with
    |nil=>simp at hd
    |cons d' ds=>
      simp only [DataW.weightsEach]at hs;cases i with
      |zero=>simp at ht hd;subst ht hd;exact hs.left
      |succ i=>simp at ht hd;exact ih ht hd hs.right
theorem lm_{H:Type}{ds:List (DataW H)}{i:Nat}{d:DataW H}(hd:ds[i]? =some d)(hs:EH (DataW.weightsAll P E ds)):EH (DataW.weights P E d):=by
  induction ds generalizing i with
  |nil=>simp at hd
  |cons d' ds ih=>
    simp only [DataW.weightsAll]at hs;cases i with
    |zero=>simp at hd;subst hd;exact hs.left
    |succ i=>simp at hd;exact ih hd hs.right
theorem kp_{H:Type}{enc:TypeId×Value->H}{held:Bool}{fuel:Nat}{cs:List Value}{d:DataW H}{ps:List MemPlace}{fs:Array Field}(hT:P.underlying T=some (.struct fs))(h:DataW.trod enc P w 0 (λ_=>true) held fuel T cs=some (d,ps))(hs:EH (DataW.weights P T d)):
    cs.length=P.cellsOf T/\ ∀(i:Nat) (f:Field) {α:Type} {ok:List Value->α->Prop},fs.toList[i]? =some f->Opn P w f.type ok-> ∃x,ok ((cs.drop f.offset).take (P.cellsOf f.type)) x:=by
  cases fuel with
  |zero=>simp [DataW.trod]at h
  |succ fuel=>
    unfold DataW.trod at h;rw [hT]at h;simp only at h
    split at h
    · rename_i hl
      refine ⟨hl,λi f α ok hf ho=> ?_⟩;rw [Option.map_eq_some_iff]at h;obtain ⟨xs,h1,h2⟩:=h;simp only [Prod.mk.injEq]at h2;obtain ⟨rfl,rfl⟩:=h2;obtain ⟨h3,h4⟩:=k7_ h1;obtain ⟨y,h5,h6⟩:=h4 i f hf;refine ho enc held fuel _ y.1 y.2 h6 ?_;simp only [DataW.weights,hT]at hs;exact ly_ (i:=i) (by simp [hf]) (by simp [h5]) hs
    cases h
theorem we_{H:Type}{enc:TypeId×Value->H}{held:Bool}{fuel n:Nat}{cs:List Value}{d:DataW H}{ps:List MemPlace}(hT:P.underlying T=some (.array n E))(h:DataW.trod enc P w 0 (λ_=>true) held fuel T cs=some (d,ps))(hs:EH (DataW.weights P T d)):
    cs.length=P.cellsOf T/\ ∀(i:Nat) {α:Type} {ok:List Value->α->Prop},i<n->Opn P w E ok-> ∃x,ok ((cs.drop (i * P.cellsOf E)).take (P.cellsOf E)) x:=by
  cases fuel with
  |zero=>simp [DataW.trod]at h
  |succ fuel=>
    unfold DataW.trod at h;rw [hT]at h;simp only at h
    split at h
    · rename_i hl
      refine ⟨hl,λi α ok hi ho=> ?_⟩;rw [Option.map_eq_some_iff]at h;obtain ⟨xs,h1,h2⟩:=h;simp only [Prod.mk.injEq]at h2;obtain ⟨rfl,rfl⟩:=h2;obtain ⟨h3,h4⟩:=k7_ h1;obtain ⟨y,h5,h6⟩:=h4 i i (by rw [List.getElem?_range hi]);refine ho enc held fuel _ y.1 y.2 h6 ?_;simp only [DataW.weights,hT]at hs;exact lm_ (i:=i) (by simp [h5]) hs
    cases h
theorem list4{cs:List Value}(h:cs.length=4): ∃a b c d,cs=[a,b,c,d]:=by
  match cs,h with
  |[a,b,c,d],_=>exact ⟨a,b,c,d,rfl⟩
theorem u6_{x:Int}(h:(Lit.int .u64 x).wf=true): ∃n:Nat,x=(n:Int)/\n<18446744073709551616:=by
  have h1:IntKind.u64.min=0:=rfl;have h2:IntKind.u64.max=18446744073709551615:=rfl;simp only [Lit.wf,Bool.and_eq_true,iL,h1,h2]at h;exact ⟨x.toNat,by omega,by omega⟩
theorem Opn.set(hT:P.underlying T=some (.array 4 E))(hE:P.underlying E=some (.int .u64))(hc:P.cellsOf T=4)(he:P.cellsOf E=1):Opn P w T (λcs (s:BSet)=>cs=(setA s).toList):=λenc held fuel cs d ps ht hs=>by
  obtain ⟨hl,hp⟩:=we_ hT ht hs;rw [hc]at hl;obtain ⟨a,b,c,d,rfl⟩:=list4 hl;rw [he]at hp;obtain ⟨x0,h0,w0⟩:=hp 0 (by omega) (Opn.int hE);obtain ⟨x1,h1,w1⟩:=hp 1 (by omega) (Opn.int hE);obtain ⟨x2,h2,w2⟩:=hp 2 (by omega) (Opn.int hE);obtain ⟨x3,h3,w3⟩:=hp 3 (by omega) (Opn.int hE);simp at h0 h1 h2 h3;subst h0 h1 h2 h3;obtain ⟨n0,rfl,l0⟩:=u6_ w0;obtain ⟨n1,rfl,l1⟩:=u6_ w1;obtain ⟨n2,rfl,l2⟩:=u6_ w2;obtain ⟨n3,rfl,l3⟩:=u6_ w3;exact ⟨⟨n0,n1,n2,n3,l0,l1,l2,l3⟩,rfl⟩
theorem xf_{a:Addr}{n:Nat}{cs:List Value}(h:w.cells? 0 a n=some cs):cs.length=n/\ ∀j u,cs[j]? =some u->w.cell? (a.add j)=some u:=by
  unfold World.cells? at h;rw [if_pos (Nat.zero_le _)]at h;obtain ⟨h1,h2⟩:=k7_ h;rw [List.length_range]at h1;refine ⟨h1,λj u hj=> ?_⟩;have hlt:j<n:=by have:=(List.getElem?_eq_some_iff.1 hj).1;omega
  obtain ⟨y,h3,h4⟩:=h2 j j (by rw [List.getElem?_range hlt]);rw [hj]at h3;cases h3;exact h4
theorem Om(cs:List Value)(a b:Nat):(cs.drop a).take b++cs.drop (a+b)=cs.drop a:=by
  rw [<-List.drop_drop];exact List.take_append_drop b (cs.drop a)
theorem Opn.arg{H:Type}{enc:TypeId×Value->H}{α:Type}{ok:List Value->α->Prop}(h:Opn P w T ok){v:Value}{d:DataW H}{ps:List MemPlace}(hd:DataW.Trod enc P w 0 (λ_=>true) true T v d ps)(hs:EH (DataW.weights P T d)): ∃x,ok v.cells.toList x:=by
  obtain ⟨fuel,hf⟩:=hd;exact h enc true fuel _ d ps hf hs
theorem qh_{r:Go.Reach}{b0:Nat}{v:Value}{t:TypeDesc}(hT:P.underlying T=some t)(ht:(∃fs,t= .struct fs)\/ ∃n e,t= .array n e)(h:Value.okWide P w r b0 T v): ∃cs,v= .agg cs:=by
  unfold Value.okWide at h;rw [hT]at h;rcases ht with ⟨fs,rfl⟩|⟨n,e,rfl⟩
  · obtain ⟨cs,h1,_⟩:=h;exact ⟨cs,h1⟩
  obtain ⟨cs,h1,_⟩:=h;exact ⟨cs,h1⟩
theorem agg_of{cs:Array Value}{l:List Value}(h:(Value.agg cs).cells.toList=l):Value.agg cs= .agg l.toArray:=by
  subst h;simp [Value.cells]
theorem Opn.sliceG {α : Type} {xY : α -> List Value} {size : Nat} {good : α -> Prop} (hT : P.underlying T = some (.slice E)) (hE : Opn P w E (λcs x => cs = xY x /\ good x)) (hc : P.cellsOf E = size) (hb : 0 < P.bytesOf E) (hl : ∀ x, (xY x).length = size) (h1 : ∀ x, ∀ u ∈ xY x, u.oneCell' = true) :
    Opn P w T (λcs (l:List α)=> ∃a c,cs=[.slice a l.length c]/\RS (G5 w) size xY (.slice a l.length c) l/\ ∀x∈l,good x):=λenc held fuel cs d ps ht hs=>by
  cases fuel with
  |zero=>simp [DataW.trod]at ht
  |succ fuel=>
    unfold DataW.trod at ht;rw [hT]at ht
    split at ht
    all_goals (first|(rename_i he;cases he;done)|(rename_i he _;cases he;done)|(cases ht;done)|skip)
    · exact ⟨[],none,0,rfl,RS.nilF _ _ hl,by simp⟩
    rename_i e a len cap he
    cases he
    split at ht
    · rename_i hcap
      rw [Option.bind_eq_some_iff]at ht;obtain ⟨elems,h2,h3⟩:=ht;simp only [if_true]at h3;rw [Option.map_eq_some_iff]at h3;obtain ⟨rest,h4,h5⟩:=h3;simp only [Prod.mk.injEq]at h5;obtain ⟨rfl,rfl⟩:=h5;simp only [DataW.weights,hT]at hs;have hw0:=hs _ (iU ..);obtain ⟨e1,e2⟩:=k7_ h2;rw [List.length_range]at e1;simp only [List.length_map]at hw0;have hlen:len<=140737488351232:=by
        have:len * 1<=(elems.length+rest.length) * P.bytesOf E:=Nat.mul_le_mul (by omega) hb;omega
      have hx: ∀i,i<len-> ∃x:α,w.cells? 0 (a.add (i * size)) size=some (xY x)/\good x:=λi hi=>by
        obtain ⟨y,h6,h7⟩:=e2 i i (by rw [List.getElem?_range hi]);rw [hc,Option.bind_eq_some_iff]at h7;obtain ⟨cs,h8,h9⟩:=h7;have hsm:EH (DataW.weights P E y.1):=lm_ (i:=i) (ds:=elems.map (·.1)) (by simp [h6]) (λx hx=>hs x (rM _ (List.mem_append_left _ hx)));obtain ⟨x,rfl,hg⟩:=hE enc held fuel cs y.1 y.2 h9 hsm;exact ⟨x,h8,hg⟩
      have hlist: ∀n,n<=len-> ∃l:List α,l.length=n/\(∀i x,l[i]? =some x->w.cells? 0 (a.add (i * size)) size=some (xY x))/\ ∀x∈l,good x:=by
        intro n
        induction n with
        |zero=>intro _;exact ⟨[],rfl,λi x h=>(by simp at h),by simp⟩
        |succ n ih=>
          intro hn;obtain ⟨l,g1,g2,g3⟩:=ih (by omega);obtain ⟨x,hx,hgx⟩:=hx n (by omega);refine ⟨l++[x],by simp [g1],λi y hy=> ?_,λy hy=>by
            rw [List.mem_append,JC]at hy;rcases hy with hy|rfl
            · exact g3 y hy
            exact hgx⟩
          rw [List.getElem?_append]at hy
          split at hy
          · exact g2 i y hy
          rename_i hi
          have:i=n:=by
            have:=(List.getElem?_eq_some_iff.1 hy).1;simp at this;omega
          subst this;simp [g1]at hy;subst hy;exact hx
      obtain ⟨l,g1,g2,g3⟩:=hlist len (Nat.le_refl _);subst g1;refine ⟨l,some a,cap,rfl,⟨⟨⟨_,_,rfl,by simp,hcap.2.1⟩,uf hl l,?_,λu hu=> ?_,by omega⟩,hl⟩,g3⟩
      · intro a' m c' hv j u hj
        cases hv;rw [v6_]
        by_cases h0:size=0
        · have:(l.flatMap xY).length=0:=by rw [uf hl,h0,Nat.mul_zero]
          rw [List.getElem?_eq_none (by omega)]at hj;cases hj
        have hpos:0<size:=Nat.pos_of_ne_zero h0;have hjl:j<l.length * size:=by have:=(List.getElem?_eq_some_iff.1 hj).1;rwa [uf hl]at this
        have hq:j / size<l.length:=by rw [Nat.div_lt_iff_lt_mul hpos];exact hjl
        have hr:j % size<size:=Nat.mod_lt _ hpos;have hx:=g2 (j / size) l[j / size] (List.getElem?_eq_getElem hq);have hj':j=j / size * size+j % size:=by rw [Nat.mul_comm];exact (Nat.div_add_mod j size).symm
        rw [hj',ZG hl l _ _ _ (List.getElem?_eq_getElem hq) hr]at hj;have:=(xf_ hx).2 _ _ hj;rw [Yv]at this;rw [hj'];exact this
      rw [List.mem_flatMap]at hu;obtain ⟨x,_,hx⟩:=hu;exact h1 x u hx
    cases ht
theorem Opn.slice{α:Type}{xY:α->List Value}{size:Nat}(hT:P.underlying T=some (.slice E))(hE:Opn P w E (λcs x=>cs=xY x))(hc:P.cellsOf E=size)(hb:0<P.bytesOf E)(hl: ∀x,(xY x).length=size)(h1: ∀x, ∀u∈xY x,u.oneCell'=true):
    Opn P w T (λcs (l:List α)=> ∃a c,cs=[.slice a l.length c]/\RS (G5 w) size xY (.slice a l.length c) l):=
  Opn.mono (Opn.sliceG (good:=λ_=>True) hT (Opn.mono hE id λ_ _ h=>⟨h,trivial⟩) hc hb hl h1) id λ_ _ ⟨a,c,h,k,_⟩=>⟨a,c,h,k⟩
def I64(x:Int):Prop:= -9223372036854775808<=x/\x<=9223372036854775807
end
end Go.E
end

noncomputable section
namespace Go.Proofs.YtcfgkcfcddfccaaGreatDoor
open Go Go.E
abbrev xB(l:ah):ah:=zO 0 qg l
theorem wc_:(λx y:Int=>decide (x<=y))=λx y=> !decide (qg y x<0):=by
  funext x y
  by_cases h:x<=y
  · have: ¬ qg y x<0:=by rw [n2_];omega
    simp [h,this]
  have:qg y x<0:=by rw [n2_];omega
  simp [h,this]
theorem M3_:j4_=gC (0:Int):=rfl
theorem aah_{l:ah}(h:l.length * 8<=140737488355328):hl_ l=some (xB l):=by
  have hs:(List.mergeSort l λx y=>decide (x<=y))=rF qg l:=by rw [wc_];rfl
  rw [hl_,cu h,hs,M3_,gC_eq 0 (by rw [Gr_];omega),Gr_];rfl
theorem rsort_eq{l:ah}(h:l.length<=1000000):Ji_ l=some (xB l):=by
  unfold Ji_;refine ins_run Vh l (λq=>Ch_ l q.1 q.2) (λm k j=>Ar_ m l k j) ?_ ?_ ?_ ?_ ?_
  · intro m k hk
    simp only [Ch_,decide_eq_false (show ¬ ((k:Nat):Int)<((l.length:Nat):Int) by omega),iteO_false];rfl
  · intro m k hk
    simp only [Ch_,JG hk,iteO_true]
  · intro m k j hk hj hc
    rw [n2_]at hc;simp only [Ar_,JG hj,iteO_true,decide_eq_true hc];rfl
  · intro m k j hk hj he
    simp only [Ar_,JG hj,iteO_true,he,Int.lt_irrefl,decide_false,iteO_false,A9_,decide_true];rfl
  intro m k j hk hm hj hn;have hg:Cg_ j m l k=some (.inl (m.take j++[nth l k 0]++m.drop j,k+1)):=by
    unfold Cg_ Ec_;rw [cu (by omega),cu (by simp only [List.length_nil,List.length_take];omega),cu (by simp only [iK,List.length_nil,List.length_take,jm];omega),cu (by omega),cu (by simp only [iK,List.length_nil,List.length_take,jm,List.length_drop];omega)];rfl
  by_cases hjl:j<m.length
  · obtain ⟨h1,h2⟩:=hn hjl
    rw [n2_]at h1;simp only [Ar_,JG hjl,iteO_true,decide_eq_false h1,iteO_false,A9_,decide_eq_false h2,hg,fin_some]
  simp only [Ar_,decide_eq_false (show ¬ ((j:Nat):Int)<((m.length:Nat):Int) by omega),iteO_false,A9_,hg,fin_some]
theorem zs_(l:ah):(xB l).length<=l.length:=Mh_ l
theorem j0_{l:ah}{x:Int}:x∈xB l↔x∈l:=Vf
def EG(n:Int):T_1:=(List.range 8).map λi=>jd (((DT (AP n) (8 * i):Nat)):Int)
def zN(l:ah):T_1:=l.flatMap EG
theorem li_(n:Int):(EG n).length=8:=by simp [EG]
theorem U0: ∀l:ah,(zN l).length=l.length * 8
  |[]=>rfl
  |x::l=>by
    have:=U0 l;simp only [zN,List.flatMap_cons,iK,li_,List.length_cons]at *;omega
theorem ikey_eq {l : ah} (h : l.length <= 1000000) : ib_ l = some (zN l) := by
  unfold ib_;have hw0:IntKind.i64.wrap (8 * ((l.length:Nat):Int))=((8 * l.length:Nat):Int):=by rw [Ja (by omega) (by omega)];omega
  rw [hw0,cu (by omega)];refine k9_ (step:=λq:T_1×Nat=>g8_ l q.1 q.2) l (0:Int) (λk=>zN (l.take k)) ?_ ?_
  · intro k hk
    have hlen:(zN (l.take k)).length<=8 * 1000000:=by rw [U0,List.length_take];omega
    simp only [g8_,JG hk,iteO_true];have hrow:iter (λq:T_1×Nat=>gu_ l k q.1 q.2) (zN (l.take k),0)=some (.inl (zN (l.take k)++(EG (nth l k 0)).take 8,k+1)):=by
      have:=n8_ (step:=λq:T_1×Nat=>gu_ l k q.1 q.2) (r:= .inl (zN (l.take k)++(EG (nth l k 0)).take 8,k+1)) (λi=>(zN (l.take k)++(EG (nth l k 0)).take i,i)) 8 ?_ ?_
      · simpa using this
      · intro i hi
        have hw:IntKind.i64.wrap (8 * ((i:Nat):Int))=((8 * i:Nat):Int):=by rw [Ja (by omega) (by omega)];omega
        have hi8:i<(EG (nth l k 0)).length:=by rw [li_];exact hi
        have hn:nth (EG (nth l k 0)) i 0=jd (((DT (AP (nth l k 0)) (8 * i):Nat)):Int):=by simp [nth,EG,List.getD,hi]
        simp only [gu_,hw,nI,decide_eq_true (show ((i:Nat):Int)<8 by omega),iteO_true];rw [cu (by omega),cu (by simp only [iK,List.length_take,jm];omega),qh _ hi8 0,hn,Gf];rfl
      simp only [gu_,show decide (((8:Nat):Int)<8)=false from rfl,iteO_false];rfl
    have h8:(EG (nth l k 0)).take 8=EG (nth l k 0):=List.take_of_length_le (by rw [li_];exact Nat.le_refl _);rw [hrow,h8,qh l hk 0];simp [zN]
  simp only [g8_,Int.lt_irrefl,decide_false,iteO_false,List.take_length];rfl
theorem ze_{m n:Nat}(hm:m<18446744073709551616)(hn:n<18446744073709551616)(h: ∀i,i<8->m / 2 ^ (8 * i) % 256=n / 2 ^ (8 * i) % 256):m=n:=by
  have h0:=h 0 (by omega);have h1:=h 1 (by omega);have h2:=h 2 (by omega);have h3:=h 3 (by omega);have h4:=h 4 (by omega);have h5:=h 5 (by omega);have h6:=h 6 (by omega);have h7:=h 7 (by omega);simp only [Nat.mul_zero,Nat.pow_zero,Nat.div_one,Nat.reduceMul,Nat.reducePow]at h0 h1 h2 h3 h4 h5 h6 h7;omega
theorem aao_(a:Nat):(jd ((a:Nat):Int)).toNat=a % 256:=by
  have hw:IntKind.u8.wrap ((a:Nat):Int)=((a % 256:Nat):Int):=by
    simp only [IntKind.wrap,IntKind.bits,IntKind.signed,IntKind.min];simp
  unfold jd;rw [hw,nI,UInt8.toNat_ofNat'];omega
theorem zy_{x y:Int}(hx:I64 x)(hy:I64 y)(h:EG x=EG y):x=y:=by
  have hb:AP x=AP y:=by
    refine ze_ (by unfold AP;omega) (by unfold AP;omega) λi hi=> ?_;have h1:=congrArg (λl=>(nth l i (0:UInt8)).toNat) h;simp only [nth,EG,List.getD,List.getElem?_map,List.getElem?_range hi,Option.map_some,Option.getD_some,aao_,DT]at h1;rw [show min (8 * i) 64=8 * i by omega]at h1;exact h1
  unfold AP I64 at *;omega
theorem un_: ∀{l m:ah},(∀x∈l,I64 x)->(∀x∈m,I64 x)->zN l=zN m->l=m
  |[],[],_,_,_=>rfl
  |[],y::m,_,_,h=>by have:=congrArg List.length h;rw [U0,U0]at this;simp at this
  |x::l,[],_,_,h=>by have:=congrArg List.length h;rw [U0,U0]at this;simp at this
  |x::l,y::m,hl,hm,h=>by
    have h':EG x++zN l=EG y++zN m:=h;obtain ⟨h1,h2⟩:=List.append_inj h' (by rw [li_,li_]);rw [zy_ (hl x (iU ..)) (hm y (iU ..)) h1,un_ (λz hz=>hl z (rM _ hz)) (λz hz=>hm z (rM _ hz)) h2]
def xp_(L:aO)(r:ah):Int×Bool:=if r∈L then ((L.idxOf r:Nat),true) else (0,false)
def putL(L:aO)(r:ah):Int×Bool×Int×aO:=
  if r∈L then ((L.idxOf r:Nat),false,0,L) else if 4096<=L.length then (0,false,2,L) else ((L.length:Nat),true,0,L++[r])
def Good(r:ah):Prop:=(∀x∈r,I64 x)/\r.length<=1000000
structure Tab (t:ITable) (L:aO):Prop where
  rows:t.of.rows=L
  len:L.length<=4096
  good: ∀r∈L,Good r
  nd:L.Nodup
  at_: ∀r,Good r->t.of.places.f (zN r)=if r∈L then some ((L.idxOf r:Nat):Int) else none
theorem Tab.nil:Tab ⟨⟨[],FM.emp⟩⟩ []:=⟨rfl,by simp,by simp,List.nodup_nil,λr _=>by simp [FM.emp]⟩
theorem Good.srt{l:ah}(h:Good l):Good (xB l):=⟨λx hx=>h.1 x (j0_.1 hx),Nat.le_trans (zs_ l) h.2⟩
theorem Tab.find{t:ITable}{L:aO}(h:Tab t L){r:ah}(hr:Good r):(t.of.places.get (zN r) 0,t.of.places.has (zN r))=xp_ L r:=by
  unfold FM.get FM.has xp_;rw [h.at_ r hr]
  split<;>rfl
theorem Tab.add{t:ITable}{L:aO}(h:Tab t L){r:ah}(hr:Good r)(hn:r∉L)(hl: ¬ 4096<=L.length):Tab ⟨⟨L++[r],t.of.places.put (zN r) ((L.length:Nat):Int)⟩⟩ (L++[r]) where
  rows:=rfl
  len:=by rw [iK,jm];omega
  good q hq:=by
    rw [List.mem_append,JC]at hq;rcases hq with hq|rfl
    · exact h.good q hq
    exact hr
  nd:=by
    rw [List.nodup_append];exact ⟨h.nd,by simp,λa ha b hb=>by rw [List.mem_singleton.1 hb];intro e;subst e;exact hn ha⟩
  at_ q hq := by
    simp only [FM.put]
    by_cases e:zN q=zN r
    · have:q=r:=un_ hq.1 hr.1 e
      subst this;rw [if_pos rfl,if_pos (by simp),List.idxOf_append,if_neg hn];simp
    have hqr:q≠r:=λh=>e (by rw [h]);rw [if_neg e,h.at_ q hq]
    by_cases hm:q∈L
    · rw [if_pos hm,if_pos (List.mem_append_left _ hm),List.idxOf_append,if_pos hm]
    rw [if_neg hm,if_neg];rw [List.mem_append,JC];rintro (h|h)
    · exact hm h
    exact hqr h
theorem put_eq{t:ITable}{L:aO}(h:Tab t L){l:ah}(hl:Good l): ∃t',Xd t l=some ((putL L (xB l)).1,(putL L (xB l)).2.1,(putL L (xB l)).2.2.1,t')/\Tab t' (putL L (xB l)).2.2.2:=by
  have hs:=hl.srt;have hl2:=hl.2;have hs2:=hs.2;have hf:=h.find hs;unfold Xd fc_;simp only [aah_ (l:=l) (by omega),ikey_eq hs2,bnd,Option.bind_some];rw [cu (by rw [U0];omega)];simp only [Option.bind_some];have hf1:t.of.places.get (zN (xB l)) 0=(xp_ L (xB l)).1:=congrArg Prod.fst hf;have hf2:t.of.places.has (zN (xB l))=(xp_ L (xB l)).2:=congrArg Prod.snd hf;simp only [hf1,hf2];unfold xp_ putL
  by_cases hm:xB l∈L
  · simp only [if_pos hm,iteO_true]
    exact ⟨_,rfl,⟨h.rows,h.len,h.good,h.nd,h.at_⟩⟩
  simp only [if_neg hm,iteO_false,h.rows]
  by_cases hf:4096<=L.length
  · simp only [if_pos hf,decide_eq_true (show (4096:Int)<=((L.length:Nat):Int) by omega),iteO_true]
    exact ⟨_,rfl,⟨rfl,h.len,h.good,h.nd,h.at_⟩⟩
  simp only [if_neg hf,decide_eq_false (show ¬ (4096:Int)<=((L.length:Nat):Int) by omega),iteO_false];unfold fd_;rw [cu (by rw [U0];omega),cu (by rw [jm];simp only;omega)];exact ⟨_,rfl,h.add hs hm hf⟩
theorem xa_:q9_=Xd:=rfl
def rowL(L:aO)(n:Int):ah×Int:=if 0<=n/\n<(L.length:Int) then (nth L n.toNat [],0) else ([],1)
theorem row_eq{t:ITable}{L:aO}(h:Tab t L)(n:Int):gf_ t n=some (rowL L n):=by
  unfold gf_ rowL;rw [h.rows]
  by_cases h0:n<0
  · rw [decide_eq_true h0,iteO_true,if_neg (by omega)]
  rw [decide_eq_false h0,iteO_false]
  by_cases h1:(L.length:Int)<=n
  · rw [decide_eq_true h1,iteO_true,if_neg (by omega)]
  rw [decide_eq_false h1,iteO_false,cu (by omega),if_pos (by omega)];have:=(h.good _ (sH (show n.toNat<L.length by omega) [])).2;rw [cu (by omega)]
theorem size_eq{t:ITable}{L:aO}(h:Tab t L):f5_ t=some ((L.length:Nat):Int):=by
  unfold f5_;rw [h.rows]
theorem u8nat{b:Nat}(hb:b<256):(UInt8.ofNat b).toNat=b:=by rw [UInt8.toNat_ofNat'];omega
theorem Q8 {l : ah} : ∀ {k : Nat}, jX l = some k -> ∀ v : Nat, v < k -> ∃ a, a < l.length /\ nth l a (0 : Int) = ((v : Nat) : Int) := by
  induction l using no_ with
  | h0 => intro k h v hv; have : k = 0 := (Option.some.inj (show some 0 = some k from h)).symm
          omega
  |h1 l x ih=>
    intro k h v hv;rw [IC]at h;cases c:jX l with
    |none=>rw [c]at h;cases h
    |some j=>
      rw [c]at h;unfold uX at h;rw [Option.bind_some]at h
      by_cases d:x<0\/((j:Nat):Int)<x
      · rw [if_pos d]at h;cases h
      rw [if_neg d]at h;have hk:=Option.some.inj h
      by_cases e:v<j
      · obtain ⟨a,h1,h2⟩:=ih c v e
        exact ⟨a,by rw [iK];omega,by rw [yx _ _ _ _ h1];exact h2⟩
      by_cases f:x=((j:Nat):Int)
      · rw [if_pos f]at hk
        exact ⟨l.length,by rw [iK,jm];omega,by rw [zS,f];omega⟩
      rw [if_neg f]at hk;omega
theorem l1_{l:ah}{n:Nat}(h:jX l=some n){p:Nat}(hp:p<l.length){k:Nat}(hk:((k:Nat):Int)<nth l p (0:Int)): ∃a,a<p/\nth l a (0:Int)=((k:Nat):Int):=by
  have e:=pn_ l hp (0:Int);have h1:jX (l.take p++[nth l p (0:Int)])≠none:=λq=>by
    rw [e,show l.take p++nth l p (0:Int)::l.drop (p+1)=(l.take p++[nth l p (0:Int)])++l.drop (p+1) by rw [Gf];rfl,n9_ q]at h;cases h
  rw [IC]at h1;cases c:jX (l.take p)with
  |none=>rw [c]at h1;exact absurd rfl h1
  |some m=>
    rw [c]at h1;unfold uX at h1;rw [Option.bind_some]at h1
    by_cases d:nth l p (0:Int)<0\/((m:Nat):Int)<nth l p (0:Int)
    · rw [if_pos d]at h1;exact absurd rfl h1
    obtain ⟨a,h2,h3⟩:=Q8 c k (by omega);rw [List.length_take]at h2;refine ⟨a,by omega,?_⟩;rw [<-h3,e,yx _ _ _ _ (by rw [List.length_take];omega),<-e]
theorem y8_ : ∀ {l m : ah} {j k : Nat}, l.length = m.length -> jX l = some j -> jX m = some k -> (∀ a b, a < l.length -> b < l.length -> (nth l a (0 : Int) = nth l b 0 ↔ nth m a (0 : Int) = nth m b 0)) -> l = m /\ j = k := by
  intro l
  induction l using no_ with
  |h0=>
    intro m j k hl h1 h2 _;have:m=[]:=FV (by simpa using hl.symm);subst this;rw [h1]at h2;exact ⟨rfl,Option.some.inj h2⟩
  | h1 l x ih =>
    intro m j k hl h1 h2 hs
    induction m using no_ with
    |h0=>simp at hl
    |h1 m y _=>
      simp only [iK,jm,Nat.add_right_cancel_iff]at hl hs;rw [IC]at h1 h2;cases c1:jX l with
      |none=>rw [c1]at h1;cases h1
      |some j'=>cases c2:jX m with
        |none=>rw [c2]at h2;cases h2
        |some k'=>
          obtain ⟨e1,e2⟩:=ih hl c1 c2 λa b ha hb=>by
            have:=hs a b (by omega) (by omega)
            rwa [yx _ _ _ _ ha,yx _ _ _ _ hb,yx _ _ _ _ (by omega),yx _ _ _ _ (by omega)]at this
          subst e1;subst e2;rw [c1]at h1 h2;unfold uX at h1 h2;rw [Option.bind_some]at h1 h2
          by_cases d1:x<0\/((j':Nat):Int)<x
          · rw [if_pos d1]at h1;cases h1
          by_cases d2:y<0\/((j':Nat):Int)<y
          · rw [if_pos d2]at h2;cases h2
          rw [if_neg d1]at h1;rw [if_neg d2]at h2;have two: ∀a,a<l.length->(nth l a (0:Int)=x↔nth l a (0:Int)=y):=λa ha=>by
            have:=hs a l.length (by omega) (by omega)
            rwa [yx _ _ _ _ ha,yx _ _ _ _ ha,zS,zS]at this
          have hxy:x=y:=by
            by_cases f:x=((j':Nat):Int)
            · by_cases g:y=((j':Nat):Int)
              · rw [f,g]
              obtain ⟨a,ha,hv⟩:=Q8 c1 y.toNat (by omega);have h3:nth l a (0:Int)=y:=by rw [hv];omega
              exact ((two a ha).2 h3).symm.trans h3
            obtain ⟨a,ha,hv⟩:=Q8 c1 x.toNat (by omega);have h3:nth l a (0:Int)=x:=by rw [hv];omega
            exact h3.symm.trans ((two a ha).1 h3)
          subst hxy;exact ⟨rfl,Option.some.inj (h1.symm.trans h2)⟩
structure NS (n:Nfa):Prop where
  st0:0<=n.states
  st:n.states<=1024
  eN:n.edges.length<=16384
  es: ∀e∈n.edges,(0<=e.frm/\e.frm<n.states)/\0<=e.to/\e.to<n.states
  ss: ∀x∈n.starts,0<=x/\x<n.states
  sN:n.starts.length<=1000000
  fs: ∀x∈n.ends,0<=x/\x<n.states
theorem cls_two {S : Type} {B : S -> Int × BSet -> Option (Nat × S)} {x1 : List BSet} (I : Nat -> S -> Prop) (Q : S -> Prop)
    (hB: ∀k l,k<x1.length->I k l->(∃l',B l (((k:Nat):Int),nth x1 k BSet.zero)=some (0,l')/\I (k+1) l')\/ ∃l',B l (((k:Nat):Int),nth x1 k BSet.zero)=some (1,l')/\Q l') {l0:S} (h0:I 0 l0):
    ∃r,B8_ (stepY B) (0,l0) x1=some r/\((∃l,r=(0,l)/\I x1.length l)\/ ∃l,r=(1,l)/\Q l):=by
  unfold B8_;refine kV (step:=λq:Nat×(Nat×S)=>P7 x1 (stepY B) q.1 q.2) (λ(s:S) k=>(k,(0,s))) x1.length I _ (λk l hk hI=> ?_) (λl hI=>⟨(0,l),?_,.inl ⟨l,rfl,hI⟩⟩) h0
  · show (∃s',P7 x1 (stepY B) k (0,l)=_/\_)\/ ∃r,P7 x1 (stepY B) k (0,l)=_/\_
    unfold P7;rw [eH (by omega)];rcases hB k l hk hI with ⟨l',h1,h2⟩|⟨l',h1,h2⟩
    · have hs:stepY B (0,l) (((k:Nat):Int),nth x1 k BSet.zero)=some ((0,l'),true):=by
        unfold stepY;rw [if_pos rfl,h1];rfl
      rw [iM hs];exact .inl ⟨l',rfl,h2⟩
    have hs:stepY B (0,l) (((k:Nat):Int),nth x1 k BSet.zero)=some ((1,l'),false):=by
      unfold stepY;rw [if_pos rfl,h1];rfl
    rw [iM hs];exact .inr ⟨_,rfl,.inr ⟨l',rfl,h2⟩⟩
  show P7 x1 (stepY B) x1.length (0,l)=_;unfold P7;rw [dM (by omega)];rfl
def ps_(n:Nfa)(R:aO):Prop:= ∀r∈R,((∀x∈r,0<=x/\x<n.states)/\r.Pairwise (· < ·))/\r.length<=1024
def Big(n:Nfa):Prop:= ∃R:aO,R.Nodup/\ps_ n R/\1024<=R.length
theorem srtI_up(l:ah):(xB l).Pairwise (· < ·):=(io_ Vh l).imp λ{x y} h=>n2_.1 h
theorem za_{n:Nfa}(hn:NS n){l:ah}(h: ∀x∈l,0<=x/\x<n.states):(xB l).length<=1024:=by
  have h0:=hn.st0;have h1:=hn.st;have hnd:(xB l).Nodup:=List.nodup_iff_pairwise_ne.2 ((io_ Vh l).imp λ{x y} hlt e=>by
    subst e;have:=(Vh.eq x x).2 rfl;omega)
  have:=h8_ (m:=(List.range n.states.toNat).map λi:Nat=>((i:Nat):Int)) hnd λx hx=>by
    have:=h x (j0_.1 hx);exact List.mem_map.2 ⟨x.toNat,List.mem_range.2 (by omega),by omega⟩
  rw [List.length_map,List.length_range]at this;omega
theorem l9_{R R':aO}(h:R <+: R'){s:Nat}(hs:s<R.length):nth R' s []=nth R s []:=by
  obtain ⟨t,rfl⟩:=h;exact yx _ _ _ _ hs
theorem put_go{n:Nfa}(hn:NS n){R:aO}{t:ITable}(hT:Tab t R)(hR:ps_ n R){l:ah}(hl: ∀x∈l,0<=x/\x<n.states)(hll:l.length<=1000000):
    ∃v b e t',Xd t l=some (v,b,e,t')/\ ∃R',Tab t' R'/\R <+: R'/\ps_ n R'/\(e≠0/\Big n\/e=0/\ ∃j:Nat,v=((j:Nat):Int)/\j<R'.length/\ ∀q,q∈nth R' j []↔q∈l):=by
  have h0:=hn.st0;have h1:=hn.st;have hg:Good l:=⟨λx hx=>by have:=hl x hx;unfold I64;omega,hll⟩;obtain ⟨t',e,hT'⟩:=put_eq hT hg;refine ⟨_,_,_,t',e,_,hT',?_⟩;unfold putL
  by_cases hm:xB l∈R
  · rw [if_pos hm]
    refine ⟨List.prefix_refl _,hR,.inr ⟨rfl,R.idxOf (xB l),rfl,List.idxOf_lt_length_iff.2 hm,λq=> ?_⟩⟩;have:nth R (R.idxOf (xB l)) []=xB l:=by
      have h2:=List.idxOf_lt_length_iff.2 hm;have h3:=getD_some R h2 [];rw [List.getElem?_eq_getElem h2,List.getElem_idxOf]at h3;exact (Option.some.inj h3).symm
    show q∈nth R (R.idxOf (xB l)) []↔_;rw [this];exact j0_
  rw [if_neg hm]
  by_cases hf:4096<=R.length
  · rw [if_pos hf]
    exact ⟨List.prefix_refl _,hR,.inl ⟨show (2:Int)≠0 from by decide,R,hT.nd,hR,by omega⟩⟩
  rw [if_neg hf];refine ⟨List.prefix_append _ _,λr hr=> ?_,.inr ⟨rfl,R.length,rfl,?_,λq=> ?_⟩⟩
  · rcases List.mem_append.1 hr with hr|hr
    · exact hR r hr
    rw [List.mem_singleton.1 hr];exact ⟨⟨λx hx=>hl x (j0_.1 hx),srtI_up l⟩,za_ hn hl⟩
  · show R.length<(R++[xB l]).length
    rw [iK,jm];omega
  show q∈nth (R++[xB l]) R.length []↔_;rw [zS];exact j0_
def NextS(n:Nfa)(p:List BSet)(r:ah)(c:Nat)(q:Int):Prop:= ∃e∈n.edges,e.frm∈r/\e.set.has (pG (nth p c BSet.zero)).toNat=true/\e.to=q
def Yk(n:Nfa)(p:List BSet)(R:aO)(r:ah)(c:Nat)(v:Int):Prop:= ∃j:Nat,v=((j:Nat):Int)/\j<R.length/\ ∀q,q∈nth R j []↔NextS n p r c q
theorem Yk.mono{n:Nfa}{p:List BSet}{R R':aO}{r:ah}{c:Nat}{v:Int}(h:Yk n p R r c v)(hp:R <+: R'):Yk n p R' r c v:=by
  obtain ⟨j,h1,h2,h3⟩:=h;have h4:=hp.length_le;exact ⟨j,h1,by omega,λq=>by rw [l9_ hp h2];exact h3 q⟩
abbrev GSt:Type:=Int×aO×FM T_1 Int×ah
structure GenI (n:Nfa) (p:List BSet) (R:aO) (r:ah) (c:Nat) (s:GSt):Prop where
  tab:Tab ⟨⟨s.2.1,s.2.2.1⟩⟩ s.2.1
  pre:R <+: s.2.1
  rows:ps_ n s.2.1
  len:s.2.2.2.length=p.length
  at_: ∀i,i<c->Yk n p s.2.1 r i (nth s.2.2.2 i (0:Int))
theorem gen_go{n:Nfa}(hn:NS n){A:List (List Arrow)}(hA:Grp Arrow.frm id n.states.toNat A n.edges)(p:List BSet){R:aO}{r:ah}(hr:((∀x∈r,0<=x/\x<n.states)/\r.Pairwise (· < ·))/\r.length<=1024){s0:GSt}(h0:GenI n p R r 0 s0)(x:Int):
    ∃z,B8_ (stepY (λ(q:Int×aO×(FM T_1 Int)×ah) (y:Int×BSet)=>Td A (r,x) q.1 q.2.1 q.2.2.1 q.2.2.2 y.1 y.2)) (0,s0) p=some z/\
      ((∃s,z=(0,s)/\GenI n p R r p.length s)\/ ∃s,z=(1,s)/\s.1≠0/\Big n):=by
  refine cls_two (GenI n p R r) (λs=>s.1≠0/\Big n) (λk s hk hI=> ?_) h0;obtain ⟨i0,R1,m1,l1⟩:=s;have hlen:l1.length=p.length:=hI.len;obtain ⟨l,e,h1,h2⟩:=xr_ hA hn.st0 hn.eN hr.1.1 hr.1.2 (nth p k BSet.zero);have hl: ∀x∈l,0<=x/\x<n.states:=λx hx=>by
    obtain ⟨e,he, -, -,rfl⟩:=(h2 x).1 hx;exact (hn.es e he).2
  obtain ⟨v,b,er,t',e2,R',hT',hp',hR',h3⟩:=put_go hn hI.tab hI.rows hl h1;have hrow:=hT'.rows;have hstep:Td A (r,x) i0 R1 m1 l1 ((k:Nat):Int) (nth p k BSet.zero)=iteO (decide (er≠0)) (some (1,(er,t'.of.rows,t'.of.places,l1))) (iteO (decide (1024<=v)) (some (1,(2,t'.of.rows,t'.of.places,l1))) (grd (0<=((k:Nat):Int)/\((k:Nat):Int)<(l1.length:Int)) (some (0,(i0,t'.of.rows,t'.of.places,(l1.set ((k:Nat):Int).toNat v)))))):=by
    unfold Td;rw [iM e,xa_,iM e2]
  show (∃l',Td A (r,x) i0 R1 m1 l1 ((k:Nat):Int) (nth p k BSet.zero)=_/\_)\/ ∃l',Td A (r,x) i0 R1 m1 l1 ((k:Nat):Int) (nth p k BSet.zero)=_/\_;rw [hstep];rcases h3 with h3|⟨rfl,j,rfl,hj,hq⟩
  · rw [eH h3.1];exact .inr ⟨_,rfl,h3⟩
  rw [dM (by simp)]
  by_cases c:1024<=((j:Nat):Int)
  · rw [eH c];exact .inr ⟨_,rfl,show (2:Int)≠0 from by decide,R',hT'.nd,hR',by omega⟩
  rw [dM c,cu ⟨Int.natCast_nonneg k,by omega⟩,nI];refine .inl ⟨_,rfl,⟨?_,?_,?_,?_,λi hi=> ?_⟩⟩
  · show Tab ⟨⟨t'.of.rows,t'.of.places⟩⟩ t'.of.rows
    rw [hrow];have:t'=⟨⟨R',t'.of.places⟩⟩:=by
      obtain ⟨⟨a,b⟩⟩:=t';dsimp only at hrow ⊢;rw [hrow]
    rw [<-this];exact hT'
  · show R <+: t'.of.rows
    rw [hrow];exact hI.pre.trans hp'
  · show ps_ n t'.of.rows
    rw [hrow];exact hR'
  · show (l1.set k _).length=_
    rw [fV];exact hlen
  show Yk n p t'.of.rows r i (nth (l1.set k _) i (0:Int));rw [hrow,Af]
  by_cases e:k=i
  · subst e
    rw [if_pos ⟨rfl,by omega⟩];exact ⟨j,rfl,hj,λq=>(hq q).trans (h2 q)⟩
  rw [if_neg (λq=>e q.1)];exact (hI.at_ i (by omega)).mono hp'
structure OI (n:Nfa) (p:List BSet) (R N:aO) (F:B_1) (k:Nat):Prop where
  rows:ps_ n R
  len:R.length<=4096
  pos:0<R.length
  st: ∀q,q∈nth R 0 []↔q∈n.starts
  kle:k<=R.length
  lenN:N.length=k
  lenF:F.length=k
  row: ∀s,s<k->(nth N s ([]:ah)).length=p.length/\ ∀c,c<p.length->Yk n p R (nth R s []) c (nth (nth N s ([]:ah)) c (0:Int))
  fin: ∀s,s<k->(nth F s false=true↔ ∃x∈nth R s [],x∈n.ends)
abbrev OSt:Type:=Int×aO×(FM T_1 Int)×aO×B_1×Nat
structure OJ (n:Nfa) (p:List BSet) (s:OSt):Prop where
  tab:Tab ⟨⟨s.2.1,s.2.2.1⟩⟩ s.2.1
  oi:OI n p s.2.1 s.2.2.2.1 s.2.2.2.2.1 s.2.2.2.2.2
def OfR(n:Nfa)(p:List BSet)(cls:ah)(r:Dfa×Int):Prop:=(r.2=0->r.1.cls=cls/\ ∃R,R.Nodup/\OI n p R r.1.next r.1.fin R.length)/\(r.2≠0->Big n)
section
variable {n:Nfa} (hn:NS n) {A:List (List Arrow)} (hA:Grp Arrow.frm id n.states.toNat A n.edges) {E:B_1} (hE:E.length=n.states.toNat) (hE2: ∀x,0<=x->x<n.states->(nth E x.toNat false=true↔x∈n.ends)) {p:List BSet} (hp:p.length<=256) (v13:(List BSet)×Int) (hv:v13.1=p)
include hn hA hE hE2 hp hv
theorem of_b4 {i : Int} {R N : aO} {m : FM T_1 Int} {F : B_1} {k : Nat} (h : OJ n p (i, R, m, N, F, k)) (hk : k < R.length) (x : Int) :
    ∃r,iter (λq:Bool×Nat=>Py (nth R k [],x) E v13 A i R m N F k q.1 q.2) (false,0)=some r/\((∃s:OSt,r= .inl s/\OJ n p s/\s.2.2.2.2.2=k+1)\/ ∃d e,r= .inr (d,e)/\e≠0/\Big n):=by
  have hoi:OI n p R N F k:=h.oi;have hr:=hoi.rows _ (sH hk ([]:ah));have hN:=hoi.lenN;have hF:=hoi.lenF;have hRl:=hoi.len;have h0:=hn.st0;have tail: ∀t:Bool,(t=true↔ ∃x∈nth R k [],x∈n.ends)-> ∃r,(grd (8 * v13.1.length<=281474976710656) (bnd (Fv_ v13.1) (λKI=>bnd (B8_ (stepY (λ(q:Int×aO×(FM T_1 Int)×ah) (y:Int×BSet)=>Td A (nth R k [],x) q.1 q.2.1 q.2.2.1 q.2.2.2 y.1 y.2)) (0,(i,R,m,(List.replicate v13.1.length (0:Int)))) KI) (λou=>Ih_ N F t k ou.1 ou.2.1 ou.2.2.1 ou.2.2.2.1 ou.2.2.2.2))))=some r/\((∃s:OSt,r= .inl s/\OJ n p s/\s.2.2.2.2.2=k+1)\/ ∃d e,r= .inr (d,e)/\e≠0/\Big n):=by
    intro t ht;rw [hv,cu (by omega),show Fv_ p=some p from rfl,kT];obtain ⟨z,e,hz⟩:=gen_go hn hA p hr (R:=R) (s0:=(i,R,m,List.replicate p.length 0)) ⟨h.tab,List.prefix_refl _,hoi.rows,oI,λi hi=>by omega⟩ x;rw [iM e];rcases hz with ⟨⟨i',R',m',l'⟩,rfl,hG⟩|⟨⟨i',R',m',l'⟩,rfl,he⟩
    · have hlen:l'.length=p.length:=hG.len
      have hpre:R <+: R':=hG.pre;have hle:=hpre.length_le;have hT:Tab ⟨⟨R',m'⟩⟩ R':=hG.tab;refine ⟨.inl (i',R',m',N++[l'],F++[t],k+1),?_,.inl ⟨_,rfl,⟨hT,⟨hG.rows,hT.len,by show 0<R'.length;omega,λq=> ?_,?_,?_,?_,λs hs=> ?_,λs hs=> ?_⟩⟩,rfl⟩⟩
      · unfold Ih_
        show grd _ _=_;rw [cu (by rw [jm];omega),cu (by rw [jm];omega),cu (by omega)];rfl
      · show q∈nth R' 0 []↔_
        rw [l9_ hpre hoi.pos];exact hoi.st q
      · show k+1<=R'.length
        omega
      · show (N++[l']).length=k+1
        rw [iK,jm];omega
      · show (F++[t]).length=k+1
        rw [iK,jm];omega
      · show (nth (N++[l']) s ([]:ah)).length=_/\ ∀c,c<p.length->Yk n p R' (nth R' s []) c (nth (nth (N++[l']) s ([]:ah)) c (0:Int))
        by_cases e:s<k
        · rw [yx _ _ _ _ (by omega),l9_ hpre (by omega)]
          obtain ⟨h5,h6⟩:=hoi.row s e;exact ⟨h5,λc hc=>(h6 c hc).mono hpre⟩
        obtain rfl:s=k:=by
          have:s<k+1:=hs;omega
        rw [show nth (N++[l']) s ([]:ah)=l' by rw [<-hN];exact zS _ _ _,l9_ hpre hk];exact ⟨hlen,λc hc=>hG.at_ c hc⟩
      show nth (F++[t]) s false=true↔ ∃x∈nth R' s [],x∈n.ends
      by_cases e:s<k
      · rw [yx _ _ _ _ (by omega),l9_ hpre (by omega)];exact hoi.fin s e
      obtain rfl:s=k:=by
        have:s<k+1:=hs;omega
      rw [show nth (F++[t]) s false=t by rw [<-hF];exact zS _ _ _,l9_ hpre hk];exact ht
    exact ⟨.inr (⟨[],[],[]⟩,i'),rfl,.inr ⟨_,_,rfl,he⟩⟩
  refine kV (step:=λq:Bool×Nat=>Py (nth R k [],x) E v13 A i R m N F k q.1 q.2) (λ(t:Bool) j=>(t,j)) (nth R k []).length (λj t=>t=true↔ ∃x∈(nth R k []).take j,x∈n.ends) _ (λj t hj hI=> ?_) (λt hI=> ?_) (s0:=false) (by simp)
  · show (∃s',Py (nth R k [],x) E v13 A i R m N F k t j=_/\_)\/_
    unfold Py Il_;dsimp only;rw [eH (by omega),qh _ hj (0:Int)];have hx:=hr.1.1 _ (sH hj (0:Int));cases t with
    |true=>
      rw [iteO_true];refine .inl ⟨true,rfl,⟨λ_=> ?_,λ_=>rfl⟩⟩;obtain ⟨y,hy,h⟩:=hI.1 rfl;exact ⟨y,List.mem_append_left _ hy,h⟩
    |false=>
      rw [iteO_false,cu (by omega)];refine .inl ⟨_,rfl,?_⟩;rw [hE2 _ hx.1 hx.2];constructor
      · intro h;exact ⟨_,List.mem_append_right _ (List.mem_singleton.2 rfl),h⟩
      rintro ⟨y,hy,h⟩;rcases List.mem_append.1 hy with hy|hy
      · have:=hI.2 ⟨y,hy,h⟩
        cases this
      rw [List.mem_singleton.1 hy]at h;exact h
  rw [List.take_length]at hI;obtain ⟨r,e,h2⟩:=tail t hI;refine ⟨r,?_,h2⟩;show Py (nth R k [],x) E v13 A i R m N F k t (nth R k []).length=_;unfold Py;dsimp only;rw [dM (by omega)];exact congrArg fin e
theorem of_b3(v26:ah×Int){s0:OSt}(h:OJ n p s0):
    ∃r,iter (λq:Int×aO×(FM T_1 Int)×aO×B_1×Nat=>S9 E v13 A v26 q.1 q.2.1 q.2.2.1 q.2.2.2.1 q.2.2.2.2.1 q.2.2.2.2.2) s0=some r/\OfR n p v26.1 r:=by
  refine Rh (step:=λq:Int×aO×(FM T_1 Int)×aO×B_1×Nat=>S9 E v13 A v26 q.1 q.2.1 q.2.2.1 q.2.2.2.1 q.2.2.2.2.1 q.2.2.2.2.2) (OJ n p) (OfR n p v26.1) (λs=>5000 - s.2.2.2.2.2) (λs hI=> ?_) s0 h;obtain ⟨i,R,m,N,F,k⟩:=s;have hoi:OI n p R N F k:=hI.oi;have hkl:=hoi.kle;have hRl:=hoi.len;show (∃s',S9 E v13 A v26 i R m N F k=_/\_)\/ ∃r,S9 E v13 A v26 i R m N F k=_/\_;have hT:Tab ⟨⟨R,m⟩⟩ R:=hI.tab;unfold S9;rw [size_eq hT,kT]
  by_cases hk:k<R.length
  · rw [eH (by omega),row_eq hT,kT]
    have e1:rowL R ((k:Nat):Int)=(nth R k [],0):=by
      unfold rowL;rw [if_pos ⟨Int.natCast_nonneg k,by omega⟩,nI]
    rw [e1,dM (by simp)];obtain ⟨r,e,h2⟩:=of_b4 hn hA hE hE2 hp v13 hv hI hk 0;have e':iter (λq:Bool×Nat=>Py (nth R k [],0) E v13 A i R m N F k q.1 q.2) (false,0)=some r:=e;rw [e'];rcases h2 with ⟨s,rfl,h3,h4⟩|⟨d,e,rfl,h3,h5⟩
    · refine .inl ⟨s,rfl,h3,?_⟩
      show 5000 - s.2.2.2.2.2<5000 - k;omega
    exact .inr ⟨_,rfl,λh=>absurd h h3,λ_=>h5⟩
  rw [dM (by omega)];obtain rfl:k=R.length:=by omega
  exact .inr ⟨_,rfl,λ_=>⟨rfl,R,hT.nd,hoi⟩,λh=>absurd rfl h⟩
end
theorem PartI.prt{L:List BSet}{m:FM T_1 Int}{p:List BSet}(h:PartI L 256 m p):PrtOk p:=by
  obtain ⟨c,h1,h2,h3⟩:=h.cn;have has: ∀i,i<p.length-> ∀b,b<256->((nth p i BSet.zero).has b=true↔nth c b (0:Int)=((i:Nat):Int)):=λi hi b hb=>by
    rw [h.has i hi b hb,h3 b hb];exact ⟨λq=>Option.some.inj q.2,λq=>⟨hb,by rw [q]⟩⟩
  refine ⟨λi hi=> ?_,λi j hi hj b hb k1 k2=> ?_,λb hb=> ?_,λi j hij hj b hb k1=> ?_⟩
  · obtain ⟨b,k1,k2⟩:=Q8 h2 i hi
    exact ⟨b,by omega,(has i hi b (by omega)).2 k2⟩
  · have e1:=(has i hi b hb).1 k1
    have e2:=(has j hj b hb).1 k2;omega
  · obtain ⟨i,hi,k1⟩:=h.at_ b hb
    exact ⟨i,hi,(h.has i hi b hb).2 ⟨hb,k1⟩⟩
  obtain ⟨a,k2,k3⟩:=l1_ h2 (p:=b) (by omega) (k:=i) (by rw [(has j hj b hb).1 k1];omega);exact ⟨a,k2,(has i (by omega) a (by omega)).2 k3⟩
def OfS(n:Nfa)(r:Dfa×Int):Prop:=(r.2≠0->Dx (Ae n)≠0\/1024<n.edges.length\/Big n)/\(r.2=0-> ∃L m p,PartI L 256 m p/\(∀e∈n.edges,e.set∈L)/\(∀b,b<256-> ∃i:Nat,nth r.1.cls b (0:Int)=((i:Nat):Int)/\i<p.length/\(nth p i BSet.zero).has b=true)/\r.1.cls.length=256/\ ∃R,R.Nodup/\OI n p R r.1.next r.1.fin R.length)
theorem of_go {n : Nfa} (hn : NS n) : ∃ r, Le_ n = some r /\ OfS n r := by
  have h0:=hn.st0;have h1:=hn.st;unfold Le_
  by_cases hc:Dx (Ae n)≠0
  · rw [eH hc];exact ⟨_,rfl,λ_=> .inl hc,λh=>by cases h⟩
  rw [dM hc];obtain ⟨L,eL,hL,hLl⟩:=y7_ n.edges (by have:=hn.eN;omega);obtain ⟨v13,e13,hP,hpl,hok⟩:=ui_ L;rw [iM eL,iM e13]
  by_cases c1:v13.2≠0
  · rw [eH c1];exact ⟨_,rfl,λ_=> .inr (.inl (by
      apply Decidable.byContradiction;intro q;exact c1 (hok (by omega)))),λh=>absurd h c1⟩
  rw [dM c1];obtain ⟨m,hPI⟩:=hP (by omega);obtain ⟨v26,e26,hC⟩:=uz_ v13.1;rw [iM e26];have c2: ¬ v26.2≠0:=by
    obtain ⟨l,h5⟩:=qc_ hPI.prt;rw [h5]at e26;rw [<-Option.some.inj e26];exact λq=>q rfl
  rw [dM  c2,cu ⟨h0,by omega⟩];have hC:=hC (by omega);obtain ⟨r,e,h⟩:=kV (step:=λq:(List (List Arrow))×Nat=>E5_ n v13 v26 q.1 q.2) (λ(l:List (List Arrow)) k=>(l,k)) n.edges.length (λk l=>Grp Arrow.frm id n.states.toNat l (n.edges.take k)) (OfR n v13.1 v26.1)
    (λk l hk hI=>by
      have hlen:=hI.len;have hm:=(hn.es _ (sH hk Arrow.zero)).1;have hrow:(nth l (nth n.edges k Arrow.zero).frm.toNat []).length<=16384:=by
        rw [hI.at hm.1 (by omega),List.length_map];have:=List.length_filter_le (λx:Arrow=>decide (x.frm=(nth n.edges k Arrow.zero).frm)) (n.edges.take k);rw [List.length_take]at this;have:=hn.eN;omega
      refine .inl ⟨l.set (nth n.edges k Arrow.zero).frm.toNat (nth l (nth n.edges k Arrow.zero).frm.toNat []++[nth n.edges k Arrow.zero]),?_,?_⟩
      · show E5_ n v13 v26 l k=_
        unfold E5_;rw [eH (by omega),cu (by omega),cu (by rw [jm];omega),cu (by omega)];rfl
      rw [qh n.edges hk Arrow.zero];exact hI.snoc hm.1 (by omega))
    (λA hA    => by
      rw [List.take_length]at hA;obtain ⟨r,e,h⟩:=kV (step:=λq:B_1×Nat=>E6_ n v13 A v26 q.1 q.2) (λ(l:B_1) k=>(l,k)) n.ends.length (λk l=>l.length=n.states.toNat/\ ∀x,0<=x->x<n.states->(nth l x.toNat false=true↔x∈n.ends.take k)) (OfR n v13.1 v26.1)
        (λk l hk hI=>by
          obtain ⟨h2,h3⟩:=hI;have hx:=hn.fs _ (sH hk (0:Int));show (∃s',E6_ n v13 A v26 l k=_/\_)\/_;unfold E6_;rw [eH (by omega),cu (by omega)];refine .inl ⟨_,rfl,by rw [fV];exact h2,λx hx0 hx1=> ?_⟩;rw [Af,qh _ hk (0:Int),List.mem_append,JC]
          by_cases e:x=nth n.ends k (0:Int)
          · rw [if_pos ⟨by rw [e],by omega⟩]
            exact ⟨λ_=> .inr e,λ_=>rfl⟩
          rw [if_neg (λq=>e (by omega)),h3 x hx0 hx1];exact ⟨.inl,λh=>h.elim id λh=>absurd h e⟩)
        (λE hE=>by
          rw [List.take_length]at hE;show ∃r,E6_ n v13 A v26 E n.ends.length=_/\_;unfold E6_;rw [dM (by omega),show j5_=some ⟨⟨[],FM.emp⟩⟩from rfl,kT];obtain ⟨v,b,er,t',e2,R',hT', -,hR',h3⟩:=put_go hn Tab.nil (λr hr=>by cases hr) hn.ss hn.sN;have e2':Xd (⟨(⟨(⟨⟨[],FM.emp⟩⟩:ITable).of.rows,(⟨⟨[],FM.emp⟩⟩:ITable).of.places⟩:IStore)⟩:ITable) n.starts=some (v,b,er,t'):=e2;rw [iM e2'];dsimp only;rcases h3 with h3|⟨rfl,j,rfl,hj,hq⟩
          · rw [eH h3.1];exact ⟨_,rfl,λh=>absurd h h3.1,λ_=>h3.2⟩
          rw [dM (by simp)];have hrow:=hT'.rows;have hT2:Tab ⟨⟨R',t'.of.places⟩⟩ R':=by
            have:t'=⟨⟨R',t'.of.places⟩⟩:=by
              obtain ⟨⟨a,b⟩⟩:=t';dsimp only at hrow ⊢;rw [hrow]
            rw [<-this];exact hT'
          have hput:=put_eq Tab.nil (l:=n.starts) ⟨λx hx=>by have:=hn.ss x hx;unfold I64;omega,hn.sN⟩;obtain ⟨t2,e3,hT3⟩:=hput;have e4:=e2.symm.trans e3;have e5:t'=t2:=by
            have:=Option.some.inj e4;exact congrArg (λq=>q.2.2.2) this
          have hR1:R'=[xB n.starts]:=by
            have h5:=hT3.rows;rw [<-e5,hrow]at h5;rw [h5];unfold putL;rw [if_neg (by simp),if_neg (by simp)];rfl
          obtain ⟨r,e,h⟩:=of_b3 hn hA hE.1 hE.2 hpl v13 rfl v26 (s0:=(0,t'.of.rows,t'.of.places,[],[],0)) ⟨by rw [hrow];exact hT2,by
            rw [hrow];exact ⟨hR',hT'.len,by show 0<R'.length;rw [hR1];exact Nat.zero_lt_one,λq=>by show q∈nth R' 0 []↔_;rw [hR1];exact j0_,Nat.zero_le _,rfl,rfl,λs hs=>absurd hs (Nat.not_lt_zero s),λs hs=>absurd hs (Nat.not_lt_zero s)⟩⟩
          refine ⟨r,?_,h⟩;exact congrArg fin e)
        (s0:=List.replicate n.states.toNat false) ⟨oI,λx hx0 hx1=>by rw [qt_];simp⟩
      refine ⟨r,?_,h⟩;show E5_ n v13 v26 A n.edges.length=_;unfold E5_;rw [dM (by omega),cu ⟨h0,by omega⟩];exact congrArg fin e)
    (s0:=List.replicate n.states.toNat []) (by simpa using Grp.nil Arrow.frm id n.states.toNat)
  refine ⟨r,e,λq=> .inr (.inr (h.2 q)),λhr=> ?_⟩;obtain ⟨h2,R,h3,h4⟩:=h.1 hr;exact ⟨L,m,v13.1,hPI,hL,by rw [h2];exact hC.2,by rw [h2];exact hC.1,R,h3,h4⟩
def nst(n:Nfa)(P:Int->Prop)(b:UInt8)(q:Int):Prop:= ∃e∈n.edges,P e.frm/\e.set.has b.toNat=true/\e.to=q
def nrun(n:Nfa)(P:Int->Prop)(w:T_1):Int->Prop:=w.foldl (nst n) P
theorem of_run {n : Nfa} {d : Dfa} (h : OfS n (d, 0)) : ∃ R : aO, 0 < R.length /\ (∀ s, s < R.length -> (nth d.fin s false = true ↔ ∃ x ∈ nth R s [], x ∈ n.ends)) /\ (∀ q, q ∈ nth R 0 [] ↔ q ∈ n.starts) /\
    ∀(w:T_1) (s:Nat) (P:Int->Prop),s<R.length->(∀q,q∈nth R s []↔P q)-> ∃s':Nat,qp d ((s:Nat):Int) w=((s':Nat):Int)/\s'<R.length/\ ∀q,q∈nth R s' []↔nrun n P w q:=by
  obtain ⟨L,m,p,hPI,hL,hC, -,R, -,hO⟩:=h.2 rfl;refine ⟨R,hO.pos,hO.fin,hO.st,λw=> ?_⟩
  induction w with
  |nil=>exact λs P hs hP=>⟨s,rfl,hs,hP⟩
  |cons b w ih=>
    intro s P hs hP;have hb:=UInt8.toNat_lt b;obtain ⟨i,h1,h2,h3⟩:=hC b.toNat hb;dsimp only at h1;obtain ⟨j,h4,h5,h6⟩:=(hO.row s hs).2 i h2;have e1:dlt d ((s:Nat):Int) b=((j:Nat):Int):=by
      unfold dlt;rw [nI,h1,nI];exact h4
    have hne:nth p i BSet.zero≠BSet.zero:=λe=>by
      rw [e,<-BSet.a3_,BSet.Gg _ hb]at h3;cases h3
    have hf:=(YB (nth p i BSet.zero)).2 hne;have hsame:=hPI.same h2 (UInt8.toNat_lt _) hb hf h3;obtain ⟨s',h7,h8,h9⟩:=ih j (nst n P b) h5 λq=>by
      rw [h6 q];unfold NextS nst;constructor
      · rintro ⟨e,he,h10,h11,h12⟩
        exact ⟨e,he,(hP _).1 h10,by rw [<-hsame _ (hL e he)];exact h11,h12⟩
      rintro ⟨e,he,h10,h11,h12⟩;exact ⟨e,he,(hP _).2 h10,by rw [hsame _ (hL e he)];exact h11,h12⟩
    refine ⟨s',?_,h8,h9⟩;show qp d (dlt d ((s:Nat):Int) b) w=_;rw [e1];exact h7
theorem aat_{n:Nfa}{d:Dfa}(h:OfS n (d,0))(w:T_1):nth d.fin (qp d 0 w).toNat false=true↔ ∃q∈n.ends,nrun n (λq=>q∈n.starts) w q:=by
  obtain ⟨R,h1,h2,h3,h4⟩:=of_run h;obtain ⟨s,h5,h6,h7⟩:=h4 w 0 (λq=>q∈n.starts) h1 h3;have h5':qp d 0 w=((s:Nat):Int):=h5;rw [h5',nI,h2 s h6];constructor
  · rintro ⟨x,hx,he⟩;exact ⟨x,he,(h7 x).1 hx⟩
  rintro ⟨x,he,hx⟩;exact ⟨x,(h7 x).2 hx,he⟩
end Go.Proofs.YtcfgkcfcddfccaaGreatDoor
end

noncomputable section
namespace Go.E
open Go
section
variable {α:Type} {σ:aj} {size m c:Nat} {enc:α->List Value} {a:Option Addr} {l:List α}
end
theorem OpOk.eb_{X:Ctx}{e:Env}{σ:aj}{F:List Res}{o:Oper}{x y:Operand}{K:Env->aj->List Res->Prop}{T b k:Nat}{E:TypeId}{cs cs':Array Value}{f:Fn}{xs ys:Array Value}(ho:o.op= .store T x y)(hs:szOf X.P T=some 1)(hd:o.dst=none)(hx:ev e x=loc b k)(hfit:Nat.ble (k+1) cs.size=true)
    (hv:ev e y= .func f xs ys) (hcs:(pI cs.toList k [.func f xs ys]).toArray=cs') (kk:K e σ (ω b cs' E::F)):OpOk X o e σ (ω b cs E::F) K:=OpOk.store1 ho hs hd hx hv rfl rfl hfit hcs kk
def SC(σ:aj)(b:Nat)(cs:Array Value)(E:TypeId):Prop:=σ b=some (.cells cs E (0,0))
theorem SC.big{σ:aj}{b:Nat}{cs:Array Value}{E:TypeId}(_:SC σ b cs E):True:=True.intro
def iand(k:IntKind)(a b:Int):Int:=k.wrap (BitVec.ofInt k.bits a &&& BitVec.ofInt k.bits b).toNat
theorem OpVal.andI{P:Program}{n:Nat}{o:Oper}{e:Env}{σ:aj}{H:List Res}{x y:Operand}{T T':TypeId}{k:IntKind}{a b:Int}(ho:o.op= .binOp .and T x y T')(hx:ev e x= .int k a)(hy:ev e y= .int k b):OpVal P n o e σ H (.int k (iand k a b)):= .bin ho hx hy λw=>by
  simp only [binOp,ne_eq,not_true_eq_false,if_false,Op.intBits];rfl
end Go.E
end

noncomputable section
namespace Go.Proofs.YtcfgkcfcddfccaaGreatDoor
open Go Go.E Go.E.OpVal Go.E.OpOk Go.Proofs.Tryz
open List (replicate)
theorem ag192:aggOf Tryz.prog 192=some false:=by kernel_rfl
theorem Uw:plainF Tryz.prog 156=true:=by kernel_rfl
theorem pf39:plainF Tryz.prog 39=true:=by kernel_rfl
theorem pf40:plainF Tryz.prog 40=true:=by kernel_rfl
theorem pf97:plainF Tryz.prog 97=true:=by kernel_rfl
theorem pf98:plainF Tryz.prog 98=true:=by kernel_rfl
theorem TW:szOf Tryz.prog 192=some 1:=by kernel_rfl
theorem ze192:zeroOf Tryz.prog 192=some (.nilFunc):=by kernel_rfl
theorem rP:zeroOf Tryz.prog 32=some (aW):=by kernel_rfl
theorem ze33:zeroOf Tryz.prog 33=some (aW):=by kernel_rfl
def Eb_(x2:aO)(x0:Int)(self_:Int->B_1->aO->Option B_1)(oW:B_1)(jv:Nat):Option ((B_1×Nat)⊕(B_1)):=
 iteO (decide ((jv:Int)<((nth x2 x0.toNat []).length:Int))) (bnd (self_ (nth (nth x2 x0.toNat []) jv 0) oW x2) (λv21=>nxt (v21,(jv+1)))) (fin (some oW))
def D5_(self_:Int->B_1->aO->Option B_1)(x0:Int)(x1:B_1)(x2:aO):Option (B_1):=
 grd (0<=x0/\x0<(x1.length:Int)) (iteO (nth x1 x0.toNat false) (some x1) (grd (0<=x0/\x0<(x1.length:Int)) (grd (0<=x0/\x0<(x2.length:Int)) (iter (λq:B_1×Nat=>Eb_ x2 x0 self_ q.1 q.2) ((x1.set x0.toNat true),0)))))
def Cd_:Nat->Int->B_1->aO->Option B_1
 |0=>λ_ _ _=>none
 |n+1=>D5_ (Cd_ n)
theorem Li_ {self_:Int->B_1->aO->Option B_1} (self__con: ∀{σ:aj} {x0:Int} {x1:B_1} {fG:Nat} {wK:Nat} {dV:Option Addr} {dU:Nat} {x2:aO} {jJ:Nat} {C_:Nat} {lD:Option Addr} {lu:Nat} {kM:Nat} {EO:Nat} (Cj:RZ σ (aF 1 ak aT) (.slice lD x2.length lu) x2) {r:B_1} (hh:self_ x0 x1 x2=some r),
  Con prog 156 #[.int .i64 x0,loc fG 0,loc jJ 0,loc kM 0] σ [ω fG #[.slice dV x1.length dU] wK,dO 4 dG dV dU x1,ω jJ #[.slice lD x2.length lu] C_,ω kM #[.func (.func 156) #[] #[loc fG 0,loc jJ 0,loc kM 0]] EO] (λv σ' H'=> ∃nH nD,v= .tuple #[]/\σ=σ'/\H'=[ω fG #[.slice nH r.length nD] wK,dO 4 dG nH nD r,ω jJ #[.slice lD x2.length lu] C_,ω kM #[.func (.func 156) #[] #[loc fG 0,loc jJ 0,loc kM 0]] EO])) {σ:aj} {x0:Int} {x1:B_1} {fG:Nat} {wK:Nat} {dV:Option Addr} {dU:Nat} {x2:aO} {jJ:Nat} {C_:Nat} {lD:Option Addr} {lu:Nat} {kM:Nat} {EO:Nat} (Cj:RZ σ (aF 1 ak aT) (.slice lD x2.length lu) x2) {r:B_1} (hh:D5_ self_ x0 x1 x2=some r):
  Con prog 156 #[.int .i64 x0,loc fG 0,loc jJ 0,loc kM 0] σ [ω fG #[.slice dV x1.length dU] wK,dO 4 dG dV dU x1,ω jJ #[.slice lD x2.length lu] C_,ω kM #[.func (.func 156) #[] #[loc fG 0,loc jJ 0,loc kM 0]] EO] (λv σ' H'=> ∃nH nD,v= .tuple #[]/\σ=σ'/\H'=[ω fG #[.slice nH r.length nD] wK,dO 4 dG nH nD r,ω jJ #[.slice lD x2.length lu] C_,ω kM #[.func (.func 156) #[] #[loc fG 0,loc jJ 0,loc kM 0]] EO]):=by
 dsimp only [D5_]at hh;refine cM 27 Tryz.func156 (λw0=> ?_);refine TC.RJ (R5 ?_);obtain ⟨u3,hh⟩:=gd hh;refine TL.iS 1 z (λhs107=> ?_);refine R3 ?_;refine TC.cB z hh (λiG hh=> ?_) (λiG hh=> ?_)
 ·refine η ?_;obtain rfl:=so hh;refine ⟨_,ψ [3,3,3,3] 4,?_⟩;exact ry
 refine R5 ?_;obtain ⟨u7,hh⟩:=gd hh;refine TL.iS 1 z (λhs109=> ?_);refine ι z iX (κ 1 ?_);have hn110:(x1.set x0.toNat true).length=x1.length:=by rw [fV]
 refine φ z (sS true ?_);refine R5 ?_;obtain ⟨u11,hh⟩:=gd hh;refine ι z iX ?_;obtain ⟨QT,Ny,hg111⟩:=RZ.seg Cj x0.toNat (by omega);replace Ny:dH _ ak QT.1 QT.2 (nth x2 x0.toNat []):=Ny;have hk111b:=Ny.rv.big;refine ι z (OpVal.of (qw z pV z hg111 z) (v':= .slice QT.1 ((nth x2 x0.toNat []).length) QT.2) z) (R4 ?_);rw [<-hn110];refine TC.lp hh (dV,dU) (rgs [(6,1),(19,8)]) (λ⟨oW,jv⟩ ⟨SX,RI⟩=>([(19,.int .i64 (jv:Int))],[ω kM #[.func (.func 156) #[] #[loc fG 0,loc jJ 0,loc kM 0]] EO,ω fG #[.slice SX oW.length RI] wK,dO 4 dG SX RI oW,ω jJ #[.slice lD x2.length lu] C_])) (ψ [2,1,2,3] 4) ?_;rintro ⟨oW,jv⟩ ⟨SX,RI⟩ _ z1 hh hR1;dsimp only [Eb_]at hh ⊢;refine ζ 2 z (λIB=> ?_);refine R5 ?_;refine π z hh (λzD hh=> ?_) (λzD hh=> ?_)
 ·refine R12 ?_;refine κ 3 (κ 3 (κ 3 ?_));obtain ⟨v21,u21,hh⟩:=bg hh;refine φ z (OpOk.call (self__con Cj u21) z z Uw z z z z ?_);rintro _ _ _ tN ⟨a130_1,c130_2,rfl,rfl,rfl⟩;refine R5 ?_;exact nxq hR1 hh (a130_1,c130_2) (ψ [2,2,2,3] 4)
 refine R1 ?_;replace hh:=bJ hR1 hh;refine R1 ?_;obtain rfl:=so hh;refine ⟨_,ψ [3,3,3] 4,?_⟩;exact rz
theorem Lo_{n_:Nat}: ∀{σ:aj} {x0:Int} {x1:B_1} {fG:Nat} {wK:Nat} {dV:Option Addr} {dU:Nat} {x2:aO} {jJ:Nat} {C_:Nat} {lD:Option Addr} {lu:Nat} {kM:Nat} {EO:Nat} (Cj:RZ σ (aF 1 ak aT) (.slice lD x2.length lu) x2) {r:B_1} (hh:Cd_ n_ x0 x1 x2=some r),
  Con prog 156 #[.int .i64 x0,loc fG 0,loc jJ 0,loc kM 0] σ [ω fG #[.slice dV x1.length dU] wK,dO 4 dG dV dU x1,ω jJ #[.slice lD x2.length lu] C_,ω kM #[.func (.func 156) #[] #[loc fG 0,loc jJ 0,loc kM 0]] EO] (λv σ' H'=> ∃nH nD,v= .tuple #[]/\σ=σ'/\H'=[ω fG #[.slice nH r.length nD] wK,dO 4 dG nH nD r,ω jJ #[.slice lD x2.length lu] C_,ω kM #[.func (.func 156) #[] #[loc fG 0,loc jJ 0,loc kM 0]] EO]):=by
 induction n_ with
 |zero=>intro σ x0 x1 fG wK dV dU x2 jJ C_ lD lu kM EO Cj r hh;exact absurd hh (by intro h_;cases h_)
 |succ k_ ih_=>
  intro σ x0 x1 fG wK dV dU x2 jJ C_ lD lu kM EO Cj r hh;exact Li_ (self_:=Cd_ k_) @ih_ Cj hh
def Fc_(x0:List Tip)(x1:aO)(lg:B_1)(aX:Nat):Option ((B_1×Nat)⊕(B_1)):=
 iteO (decide ((aX:Int)<(x0.length:Int))) (bnd (Cd_ (lg.length+1) ((nth x0 aX aY).state) lg x1) (λv22=>nxt (v22,(aX+1)))) (fin (some lg))
def Ej_(x0:List Tip)(x1:aO):Option (B_1):=
 grd (1 * x1.length<=281474976710656) (iter (λq:B_1×Nat=>Fc_ x0 x1 q.1 q.2) ((replicate x1.length false),0))
def Iw_(σ:aj)(r:B_1):Value->aj->List Res->Prop:=λv σ' H'=>
 ∃a1 c1,v= .slice a1 r.length c1/\σ=σ'/\H'=[dO 4 dG a1 c1 r]
theorem Kd_{σ:aj}{x0:List Tip}{x1:aO}(aC:RS σ 2 bf (.slice aB x0.length aA) x0)(bn:RZ σ (aF 1 ak aT) (.slice bY x1.length bW) x1){r:B_1}(hh:Ej_ x0 x1=some r):
  Con prog 98 #[.slice aB x0.length aA,.slice bY x1.length bW] σ [] (Iw_ σ r):=by
 dsimp only [Ej_]at hh;have f0_0b:=aC.rv.big;have f1_0b:=bn.big;refine cM 25 Tryz.func98 (λw0=> ?_);refine R2 ?_;refine φ z (OpOk.box z z z z (λaP=> ?_));refine R6 ?_;obtain ⟨u5,hh⟩:=gd hh;refine φ z (mk2 (enc:=dG) false (λjC jA=> ?_));refine TL.al (λyh=> ?_);refine R4 ?_;refine TL.al (λEu=> ?_);refine R3 ?_;refine ι z (cb_ z) (φ z (eb_ z TW z z z z z ?_));refine R9 ?_;refine TC.lp hh (jC,jA) (rgs [(8,1),(15,9)]) (λ⟨lg,aX⟩ ⟨CY,CO⟩=>([(15,.int .i64 (aX:Int))],[ω yh #[.slice CY lg.length CO] 33,dO 4 dG CY CO lg,ω Eu #[.func (.func 156) #[] #[loc yh 0,loc aP 0,loc Eu 0]] 192,ω aP #[.slice bY x1.length bW] 32])) (ψ [3,1,3,3] 4) ?_;rintro ⟨lg,aX⟩ ⟨CY,CO⟩ _ z1 hh hR1;dsimp only [Fc_]at hh ⊢;refine ζ 1 z (λhb125=> ?_);refine R5 ?_;refine π z hh (λZE hh=> ?_) (λZE hh=> ?_)
 ·refine R7 ?_;refine TL.al (λb127=> ?_);refine R6 ?_;refine κ 3 (κ 4 (κ 4 (κ 4 ?_)));obtain ⟨v22,u22,hh⟩:=bg hh;refine φ z (OpOk.call (Lo_ bn u22) z z Uw z z z z ?_);rintro _ _ _ qV ⟨a129_1,c129_2,rfl,rfl,rfl⟩;refine R5 ?_;exact nxq hR1 hh (a129_1,c129_2) (ψ [2,3,3,3] 4)
 refine R1 ?_;replace hh:=bJ hR1 hh;refine R6 ?_;refine Θ (ψ [1] 1) (η ?_);obtain rfl:=so hh;exact rz
def XD{Sy:Type}(aU:Nat)(X7:Sy):Option ((Nat×Sy)⊕(Sy)):=
 nxt ((aU+1),X7)
def Bc_{Sy:Type}(v4:B_1)(v8:B_1)(Y:Sy->Int->Option (Sy×Bool))(aU:Nat)(sK:Sy):Option ((Nat×Sy)⊕(Sy)):=
 iteO (decide ((aU:Int)<(v4.length:Int))) (iteO (nth v4 aU false) (grd (aU<v8.length) (iteO (nth v8 aU false) (bnd (Y sK (aU:Int)) (λv30=>iteO (!v30.2) (fin (some v30.1)) (XD aU v30.1))) (XD aU sK))) (XD aU sK)) (fin (some sK))
def Do_{Sy:Type}(Y:Sy->Int->Option (Sy×Bool))(s0:Sy)(x1:Fst)(x2:aO)(x3:aO):Option (Sy):=
 bnd (Ej_ x1.starts x2) (λv4=>bnd (Ej_ x1.ends x3) (λv8=>iter (λq:Nat×Sy=>Bc_ v4 v8 Y q.1 q.2) (0,s0)))
theorem K9_{Sy:Type}{σ:aj}{Y:Sy->Int->Option (Sy×Bool)}{s0:Sy}{x1:Fst}{x2:aO}{x3:aO}(Ot:RS σ 2 bf (.slice dV x1.starts.length dU) x1.starts)(f1_6:RS σ 2 bf (.slice Pm x1.ends.length OL) x1.ends)(f1_9:RS σ 8 fP (.slice Pj x1.arcs.length OH) x1.arcs)(Cj:RZ σ (aF 1 ak aT) (.slice lD x2.length lu) x2)(f3_3:RZ σ (aF 1 ak aT) (.slice O5 x3.length Oy) x3){r:Sy}(hh:Do_ Y s0 x1 x2 x3=some r):
  ug_ prog 97 [loc fG 0,loc jJ 0,loc kM 0] (λ(x:Int) _ vs=>vs=[.int .i64 x]) Y σ [ω fG (jB x1 dV dU Pm OL Pj OH) wK,ω jJ #[.slice lD x2.length lu] C_,ω kM #[.slice O5 x3.length Oy] EO] s0 r (λσ' H'=>H'=[ω fG (jB x1 dV dU Pm OL Pj OH) wK,ω jJ #[.slice lD x2.length lu] C_,ω kM #[.slice O5 x3.length Oy] EO]):=by
 intro l Z ry0 hY hys;dsimp only [Do_]at hh;refine cM 38 Tryz.func97 (λw0=> ?_);refine TC.RJ (TC.seq ?_);obtain ⟨v4,u4,hh⟩:=bg hh;obtain ⟨v8,u8,hh⟩:=bg hh;refine TC.dw [] (ν 0 z fL z (χ 1 z lL z (χ 2 z lL z (ν 4 z fL z (χ 5 z lL z (χ 6 z lL z (υ 3 z (OpOk.call (Kd_ Ot Cj u4) z z pf98 z z z z ?_))))))));rintro _ _ _ pF ⟨a113_1,c113_1,rfl,rfl,rfl⟩;refine k1 (υ 7 z (OpOk.call (Kd_ f1_6 f3_3 u8) z z pf98 z z z z ?_));rintro _ _ _ gY ⟨a115_1,c115_1,rfl,rfl,rfl⟩;refine k2 (ν 8 z mS z (ν 9 z mS z (R8 ?_)));refine TC.Ak (α:=(Nat×Sy)×(Res×aj)) (rgs [(7,1),(18,20)]) (λg=>[(18,.int .i64 (g.1.1:Int))]) (λg=>[dO 4 dG a113_1 c113_1 v4,dO 4 dG a115_1 c115_1 v8,ω fG (jB x1 dV dU Pm OL Pj OH) wK,ω jJ #[.slice lD x2.length lu] C_,ω kM #[.slice O5 x3.length Oy] EO,g.2.1]) (λg=>g.2.2) (λg=>iter (λq:Nat×Sy=>Bc_ v4 v8 Y q.1 q.2) g.1=some r/\YR Z g.1.2 g.2.2 g.2.1/\aj.le σ g.2.2) (λg=>rQ (λq:Nat×Sy=>Bc_ v4 v8 Y q.1 q.2) g.1) ((0,s0),(ry0,σ)) (ψ [2,5,5,5,4,5] 6) z (by repeat (first|exact trivial|refine ⟨z,?_⟩)) ⟨hh,hys,(aj.le.refl _)⟩ (λg1 j1 hg1=> ?_);obtain ⟨⟨aU,sK⟩,⟨Uf,τ129⟩⟩:=g1;obtain ⟨hh,hy128,tN⟩:=hg1
 try dsimp only at hy128 tN ⊢
 obtain ⟨z1,hh,hR1⟩:=zQ hh;dsimp only [Bc_]at hh;refine ζ 0 z (λIz=> ?_);refine ζ 1 z (λhb132=> ?_);refine R5 ?_;refine π z hh (λCc hh=> ?_) (λCc hh=> ?_)
 ·refine R1 ?_;refine TC.cutG (α:=(Sy)×(Res×aj)) (rgs [(7,1),(20,17)]) (λg=>[]) (λg=>[dO 4 dG a113_1 c113_1 v4,dO 4 dG a115_1 c115_1 v8,ω fG (jB x1 dV dU Pm OL Pj OH) wK,ω jJ #[.slice lD x2.length lu] C_,ω kM #[.slice O5 x3.length Oy] EO,g.2.1]) (λg=>g.2.2) (λg=>XD aU g.1=some z1/\YR Z g.1 g.2.2 g.2.1/\aj.le τ129 g.2.2) ?_ (λg j hg=> ?_)
  ·refine R10 ?_;refine TL.iS 0 z (λhs137=> ?_);refine R3 ?_;refine δ 25 z (λCb=> ?_) (λCb=> ?_)
   ·replace hh:=uZ Cb hh;refine R2 ?_;obtain ⟨u24,hh⟩:=gd hh;refine TL.iS 1 z (λVk=> ?_);refine R4 ?_;refine δ 31 z (λZB=> ?_) (λZB=> ?_)
    ·replace hh:=uZ ZB hh;refine TL.g z (OpVal.mv (.inl z)) (TL.g z mI ?_);obtain ⟨v30,u30,hh⟩:=bg hh;refine κ 5 (TL.gon z z z z z (callY hY hy128 u30 z z z z z z ?_));rintro τ141 ry141 Zg hy141;refine R3 ?_;refine TC.cB z hh (λh142 hh=> ?_) (λh142 hh=> ?_)
     ·refine Θ (ψ [5,5,5,3] 4) (η ?_);replace hh:=bJ hR1 hh;obtain rfl:=so hh;refine ⟨_,ψ [3,3,3,3] 4,?_⟩;exact rz
     refine R1 ?_;exact cf (v30.1,(ry141,τ141)) ⟨hh,hy141,Zg⟩ (ψ [5,5,5,5,5] 6)
    replace hh:=u_ ZB hh;refine R8 ?_;exact cf (sK,(Uf,τ129)) ⟨hh,hy128,(aj.le.refl _)⟩ (ψ [5,5,5,5,5,5] 6)
   replace hh:=u_ Cb hh;refine R14 ?_;exact cf (sK,(Uf,τ129)) ⟨hh,hy128,(aj.le.refl _)⟩ (ψ [5,5,5,5,5,5] 6)
  obtain ⟨X7,⟨ry135,τ143⟩⟩:=g;obtain ⟨hh,Ve,BZ⟩:=hg
  try dsimp only at Ve
  dsimp only at BZ;replace hy128:=hy128.mono BZ
  try dsimp only
  dsimp only [XD]at hh;refine ζ 0 z (λIw=> ?_);refine ζ 1 z (λhb146=> ?_);refine R4 ?_;obtain ⟨hh,Y1⟩:=xP hR1 hh;exact lf (((aU+1),X7),(ry135,τ143)) Y1 ⟨hh,Ve,(tN.trans BZ)⟩ (ψ [5,5,5,5,5,5] 6)
 refine R1 ?_;replace hh:=bJ hR1 hh;refine R1 ?_;obtain rfl:=so hh;refine ⟨_,ψ [4,4,4,5] 4,?_⟩;exact rz
def G3_(x0:Fst)(bG:Nat)(jD:aO)(lH:aO):Option ((aO×aO×Nat)⊕((Fst×aO×aO))):=
 grd (0<=((nth x0.arcs bG aQ).to)/\((nth x0.arcs bG aQ).to)<(jD.length:Int)) (grd (((nth jD (((nth x0.arcs bG aQ).to).toNat) []).length+[(nth x0.arcs bG aQ).frm].length) * 8<=140737488355328) (grd (0<=((nth x0.arcs bG aQ).to)/\((nth x0.arcs bG aQ).to)<(jD.length:Int)) (nxt ((lH.set (((nth x0.arcs bG aQ).frm).toNat) ((nth lH (((nth x0.arcs bG aQ).frm).toNat) [])++[(nth x0.arcs bG aQ).to])),(jD.set (((nth x0.arcs bG aQ).to).toNat) ((nth jD (((nth x0.arcs bG aQ).to).toNat) [])++[(nth x0.arcs bG aQ).frm])),(bG+1)))))
def Hn_(x0:Fst)(lH:aO)(jD:aO)(bG:Nat):Option ((aO×aO×Nat)⊕((Fst×aO×aO))):=
 iteO (decide ((bG:Int)<(x0.arcs.length:Int))) (grd (0<=((nth x0.arcs bG aQ).frm)/\((nth x0.arcs bG aQ).frm)<(lH.length:Int)) (grd (((nth lH (((nth x0.arcs bG aQ).frm).toNat) []).length+[(nth x0.arcs bG aQ).to].length) * 8<=140737488355328) (grd (0<=((nth x0.arcs bG aQ).frm)/\((nth x0.arcs bG aQ).frm)<(lH.length:Int)) (G3_ x0 bG jD lH)))) (fin (some (x0,lH,jD)))
def Db_(x0:Fst):Option ((Fst×aO×aO)):=
 iter (λq:aO×aO×Nat=>Hn_ x0 q.1 q.2.1 q.2.2) ((replicate x0.states.toNat ([]:ah)),(replicate x0.states.toNat ([]:ah)),0)
def E0_(x0:Fst):Option ((Fst×aO×aO)):=
 grd (0<=x0.states/\24 * x0.states.toNat<=281474976710656) (grd (0<=x0.states/\24 * x0.states.toNat<=281474976710656) (Db_ x0))
theorem Lv_{σ:aj}{x0:Fst}(aC:RS σ 2 bf (.slice aB x0.starts.length aA) x0.starts)(aV:RS σ 2 bf (.slice ay x0.ends.length aH) x0.ends)(aS:RS σ 8 fP (.slice aG x0.arcs.length au) x0.arcs){r:(Fst×aO×aO)}(hh:E0_ x0=some r):
  Con prog 39 #[.agg (jB x0 aB aA ay aH aG au)] σ [] (λv σ' H'=> ∃br10 Xj Xg ar4 cr5 ar7 cr8 br14 ar11 cr12 br18 ar15 cr16,v= .func (.func 97) #[] #[loc br10 0,loc br14 0,loc br18 0]/\RS σ' 2 bf (.slice Xj r.1.starts.length Xg) r.1.starts/\RS σ' 2 bf (.slice ar4 r.1.ends.length cr5) r.1.ends/\RS σ' 8 fP (.slice ar7 r.1.arcs.length cr8) r.1.arcs/\RZ σ' (aF 1 ak aT) (.slice ar11 r.2.1.length cr12) r.2.1/\RZ σ' (aF 1 ak aT) (.slice ar15 r.2.2.length cr16) r.2.2/\H'=[ω br10 (jB r.1 Xj Xg ar4 cr5 ar7 cr8) 25,ω br14 #[.slice ar11 r.2.1.length cr12] 32,ω br18 #[.slice ar15 r.2.2.length cr16] 32]):=by
 dsimp only [E0_]at hh;have f0_2b:=aS.rv.big;refine cM 48 Tryz.func39 (λw0=> ?_);refine R2 ?_;refine TL.bx (λpJ=> ?_);refine ι z (OpVal.mv (.inr z)) (R1 ?_);refine TC.cutG (α:=(Unit)×(Nat×(Option Addr)×Nat×Nat×(Option Addr)×Nat)) (rgs [(3,2),(7,6)]) (λg=>[(3,loc g.2.1 0),(4,loc g.2.2.2.2.1 0)]) (λg=>[ω pJ (jB x0 aB aA ay aH aG au) 25,ω g.2.1 #[.slice g.2.2.1 ((replicate x0.states.toNat ([]:ah)).length) g.2.2.2.1] 32,Res.nest 31 3 1 ak (.slice g.2.2.1 (replicate x0.states.toNat ([]:ah)).length g.2.2.2.1) (replicate x0.states.toNat (qo:NP Int)),ω g.2.2.2.2.1 #[.slice g.2.2.2.2.2.1 ((replicate x0.states.toNat ([]:ah)).length) g.2.2.2.2.2.2] 32,Res.nest 31 3 1 ak (.slice g.2.2.2.2.2.1 (replicate x0.states.toNat ([]:ah)).length g.2.2.2.2.2.2) (replicate x0.states.toNat (qo:NP Int))]) (λg=>σ) (λg=>Db_ x0=some r/\Zn (replicate x0.states.toNat (qo:NP Int)) (replicate x0.states.toNat ([]:ah))/\Zn (replicate x0.states.toNat (qo:NP Int)) (replicate x0.states.toNat ([]:ah))) ?_ (λg j hg=> ?_)
 ·obtain ⟨u5,hh⟩:=gd hh;obtain ⟨u8,hh⟩:=gd hh;refine TC.OV (Hr:=[ω pJ (jB x0 aB aA ay aH aG au) 25]) (λr hr=>oU [0] z hr) [] (by kernel_rfl) (ν 0 z fL z (χ 1 z lL z (ν 3 z fL z (χ 4 z lL z ?_))));refine TA.aN [2,5,6,7] (an rfl rfl (nP (q:=x0.states.toNat) (E:=3) (size:=1) (enc:=ak) rfl jZ jy mG ku rfl rfl (vN u5.1) (vN u5.1) (by omega) (by decide) rfl (λwI rV wM=>(k1 ?_))) (an rfl rfl (nP (q:=x0.states.toNat) (E:=3) (size:=1) (enc:=ak) rfl jZ jy mG ku rfl rfl (vN u8.1) (vN u8.1) (by omega) (by decide) rfl (λa139 uS gy=>(k1 ?_))) (an rfl rfl (OpOk.alloc rfl rP rfl rfl (λEt=>(k1 ?_))) (an rfl rfl (OpOk.alloc rfl rP rfl rfl (λEs=>(k1 ?_))) (True.intro)))))
  ·refine TA.aN [5,6,7] (an rfl rfl (nP (q:=x0.states.toNat) (E:=3) (size:=1) (enc:=ak) rfl jZ jy mG ku rfl rfl (vN u8.1) (vN u8.1) (by omega) (by decide) rfl (λa147 c148 TM=>(k2 ?_))) (an rfl rfl (OpOk.alloc rfl rP rfl rfl (λb151=>(k2 ?_))) (an rfl rfl (OpOk.alloc rfl rP rfl rfl (λb153=>(k2 ?_))) (True.intro))))
   ·refine TA.aN [6,7] (an z z (OpOk.alloc z rP z z (λb155=>(k3 ?_))) (an z z (OpOk.alloc z rP z z (λEp=>(k3 ?_))) (True.intro)))
    ·refine υ 7 z (OpOk.alloc z rP z z (λb159=>(kc 4 ?_)));refine Ω 1 (υ 8 z (iH z jM z z z z z (kc 4 ?_)));refine Ω 1 (υ 9 z (iH z jM z z z z z (kc 4 ?_)));refine R1 ?_;exact cf ((),(b155,wI,rV,b159,a147,c148)) ⟨hh,wM,TM⟩ (ψ [2,1,3,3,4] 5)
    refine υ 6 z (OpOk.alloc z rP z z (λb161=>(kc 4 ?_)));refine υ 8 z (iH z jM z z z z z (kc 4 ?_));refine Ω 1 (υ 9 z (iH z jM z z z z z (kc 4 ?_)));refine R1 ?_;exact cf ((),(b161,wI,rV,Ep,a147,c148)) ⟨hh,wM,TM⟩ (ψ [2,1,3,3,4] 5)
   ·refine TA.aN [5,7] (an rfl rfl (nP (q:=x0.states.toNat) (E:=3) (size:=1) (enc:=ak) rfl jZ jy mG ku rfl rfl (vN u8.1) (vN u8.1) (by omega) (by decide) rfl (λPq c164 Dt=>(k3 ?_))) (an rfl rfl (OpOk.alloc rfl rP rfl rfl (λb167=>(k3 ?_))) (True.intro)))
    ·refine υ 7 z (OpOk.alloc z rP z z (λb169=>(kc 4 ?_)));refine Ω 2 (υ 8 z (iH z jM z z z z z (kc 4 ?_)));refine Ω 1 (υ 9 z (iH z jM z z z z z (kc 4 ?_)));refine R1 ?_;exact cf ((),(b151,wI,rV,b169,Pq,c164)) ⟨hh,wM,Dt⟩ (ψ [2,1,3,3,4] 5)
    refine TA.aN [5,8] (an rfl rfl (nP (q:=x0.states.toNat) (E:=3) (size:=1) (enc:=ak) rfl jZ jy mG ku rfl rfl (vN u8.1) (vN u8.1) (by omega) (by decide) rfl (λa171 ZX Dp=>(kc 4 ?_))) (an rfl rfl (OpOk.front 1 rfl rfl (iH rfl jM rfl rfl rfl rfl rfl (k3 ?_))) (True.intro)))
    ·refine Ω 2 (υ 8 z (iH z jM z z z z z (kc 4 ?_)));refine Ω 2 (υ 9 z (iH z jM z z z z z (kc 4 ?_)));refine R1 ?_;exact cf ((),(b151,wI,rV,b167,a171,ZX)) ⟨hh,wM,Dp⟩ (ψ [2,1,3,3,4] 5)
    refine υ 5 rfl (nP (q:=x0.states.toNat) (E:=3) (size:=1) (enc:=ak) rfl jZ jy mG ku rfl rfl (vN u8.1) (vN u8.1) (by omega) (by decide) rfl (λa175 c176 zf177=>(kc 4 ?_)));refine Ω 2 (υ 9 z (iH z jM z z z z z (kc 4 ?_)));refine R1 ?_;exact cf ((),(b151,wI,rV,b167,a175,c176)) ⟨hh,wM,zf177⟩ (ψ [1,1,3,3,4] 5)
   refine TA.aN [5,6] (an rfl rfl (nP (q:=x0.states.toNat) (E:=3) (size:=1) (enc:=ak) rfl jZ jy mG ku rfl rfl (vN u8.1) (vN u8.1) (by omega) (by decide) rfl (λa179 c180 kW=>(k3 ?_))) (an rfl rfl (OpOk.alloc rfl rP rfl rfl (λb183=>(k3 ?_))) (True.intro)))
   ·refine υ 6 z (OpOk.alloc z rP z z (λb185=>(kc 4 ?_)));refine υ 8 z (iH z jM z z z z z (kc 4 ?_));refine Ω 2 (υ 9 z (iH z jM z z z z z (kc 4 ?_)));refine R1 ?_;exact cf ((),(b185,wI,rV,b153,a179,c180)) ⟨hh,wM,kW⟩ (ψ [2,1,3,3,4] 5)
   refine TA.aN [5,8] (an rfl rfl (nP (q:=x0.states.toNat) (E:=3) (size:=1) (enc:=ak) rfl jZ jy mG ku rfl rfl (vN u8.1) (vN u8.1) (by omega) (by decide) rfl (λa187 ZV zf189=>(kc 4 ?_))) (an rfl rfl (iH rfl jM rfl rfl rfl rfl rfl (k3 ?_)) (True.intro)))
   ·refine Ω 1 (υ 8 z (iH z jM z z z z z (kc 4 ?_)));refine Ω 2 (υ 9 z (iH z jM z z z z z (kc 4 ?_)));refine R1 ?_;exact cf ((),(b183,wI,rV,b153,a187,ZV)) ⟨hh,wM,zf189⟩ (ψ [2,1,3,3,4] 5)
   refine υ 5 rfl (nP (q:=x0.states.toNat) (E:=3) (size:=1) (enc:=ak) rfl jZ jy mG ku rfl rfl (vN u8.1) (vN u8.1) (by omega) (by decide) rfl (λPn OM zf193=>(kc 4 ?_)));refine Ω 2 (υ 9 z (iH z jM z z z z z (kc 4 ?_)));refine R1 ?_;exact cf ((),(b183,wI,rV,b153,Pn,OM)) ⟨hh,wM,zf193⟩ (ψ [1,1,3,3,4] 5)
  ·refine TA.aN [2,6,7] (an rfl rfl (nP (q:=x0.states.toNat) (E:=3) (size:=1) (enc:=ak) rfl jZ jy mG ku rfl rfl (vN u5.1) (vN u5.1) (by omega) (by decide) rfl (λa195 c196 AO=>(k2 ?_))) (an rfl rfl (OpOk.alloc rfl rP rfl rfl (λRY=>(k2 ?_))) (an rfl rfl (OpOk.alloc rfl rP rfl rfl (λb201=>(k2 ?_))) (True.intro))))
   ·refine TA.aN [6,7] (an z z (OpOk.alloc z rP z z (λb203=>(k3 ?_))) (an z z (OpOk.alloc z rP z z (λb205=>(k3 ?_))) (True.intro)))
    ·refine υ 7 z (OpOk.alloc z rP z z (λb207=>(kc 4 ?_)));refine Ω 1 (υ 8 z (iH z jM z z z z z (kc 4 ?_)));refine Ω 1 (υ 9 z (iH z jM z z z z z (kc 4 ?_)));refine R1 ?_;exact cf ((),(b203,a195,c196,b207,a139,uS)) ⟨hh,AO,gy⟩ (ψ [3,1,3,3,4] 5)
    refine υ 6 z (OpOk.alloc z rP z z (λb209=>(kc 4 ?_)));refine υ 8 z (iH z jM z z z z z (kc 4 ?_));refine Ω 1 (υ 9 z (iH z jM z z z z z (kc 4 ?_)));refine R1 ?_;exact cf ((),(b209,a195,c196,b205,a139,uS)) ⟨hh,AO,gy⟩ (ψ [3,1,3,3,4] 5)
   ·refine TA.aN [2,7] (an rfl rfl (nP (q:=x0.states.toNat) (E:=3) (size:=1) (enc:=ak) rfl jZ jy mG ku rfl rfl (vN u5.1) (vN u5.1) (by omega) (by decide) rfl (λSN c212 J5=>(k3 ?_))) (an rfl rfl (OpOk.alloc rfl rP rfl rfl (λb215=>(k3 ?_))) (True.intro)))
    ·refine υ 7 z (OpOk.alloc z rP z z (λb217=>(kc 4 ?_)));refine Ω 2 (υ 8 z (iH z jM z z z z z (kc 4 ?_)));refine Ω 1 (υ 9 z (iH z jM z z z z z (kc 4 ?_)));refine R1 ?_;exact cf ((),(RY,SN,c212,b217,a139,uS)) ⟨hh,J5,gy⟩ (ψ [3,1,3,3,4] 5)
    refine υ 2 rfl (nP (q:=x0.states.toNat) (E:=3) (size:=1) (enc:=ak) rfl jZ jy mG ku rfl rfl (vN u5.1) (vN u5.1) (by omega) (by decide) rfl (λa219 c220 zf221=>(kc 4 ?_)));refine Ω 2 (υ 8 z (iH z jM z z z z z (kc 4 ?_)));refine Ω 2 (υ 9 z (iH z jM z z z z z (kc 4 ?_)));refine R1 ?_;exact cf ((),(RY,a219,c220,b215,a139,uS)) ⟨hh,zf221,gy⟩ (ψ [3,1,3,3,4] 5)
   refine TA.aN [2,6] (an rfl rfl (nP (q:=x0.states.toNat) (E:=3) (size:=1) (enc:=ak) rfl jZ jy mG ku rfl rfl (vN u5.1) (vN u5.1) (by omega) (by decide) rfl (λa223 c224 zf225=>(k3 ?_))) (an rfl rfl (OpOk.alloc rfl rP rfl rfl (λb227=>(k3 ?_))) (True.intro)))
   ·refine υ 6 z (OpOk.alloc z rP z z (λRX=>(kc 4 ?_)));refine υ 8 z (iH z jM z z z z z (kc 4 ?_));refine Ω 2 (υ 9 z (iH z jM z z z z z (kc 4 ?_)));refine R1 ?_;exact cf ((),(RX,a223,c224,b201,a139,uS)) ⟨hh,zf225,gy⟩ (ψ [3,1,3,3,4] 5)
   refine υ 2 rfl (nP (q:=x0.states.toNat) (E:=3) (size:=1) (enc:=ak) rfl jZ jy mG ku rfl rfl (vN u5.1) (vN u5.1) (by omega) (by decide) rfl (λa231 c232 mP=>(kc 4 ?_)));refine Ω 1 (υ 8 z (iH z jM z z z z z (kc 4 ?_)));refine Ω 2 (υ 9 z (iH z jM z z z z z (kc 4 ?_)));refine R1 ?_;exact cf ((),(b227,a231,c232,b201,a139,uS)) ⟨hh,mP,gy⟩ (ψ [3,1,3,3,4] 5)
  ·refine TA.aN [2,5,7] (an rfl rfl (nP (q:=x0.states.toNat) (E:=3) (size:=1) (enc:=ak) rfl jZ jy mG ku rfl rfl (vN u5.1) (vN u5.1) (by omega) (by decide) rfl (λa235 c236 JZ=>(k2 ?_))) (an rfl rfl (nP (q:=x0.states.toNat) (E:=3) (size:=1) (enc:=ak) rfl jZ jy mG ku rfl rfl (vN u8.1) (vN u8.1) (by omega) (by decide) rfl (λSH RD TJ=>(k2 ?_))) (an rfl rfl (OpOk.alloc rfl rP rfl rfl (λb243=>(k2 ?_))) (True.intro))))
   ·refine TA.aN [5,7] (an rfl rfl (nP (q:=x0.states.toNat) (E:=3) (size:=1) (enc:=ak) rfl jZ jy mG ku rfl rfl (vN u8.1) (vN u8.1) (by omega) (by decide) rfl (λa245 c246 zf247=>(k3 ?_))) (an rfl rfl (OpOk.alloc rfl rP rfl rfl (λb249=>(k3 ?_))) (True.intro)))
    ·refine υ 7 z (OpOk.alloc z rP z z (λb251=>(kc 4 ?_)));refine Ω 3 (υ 8 z (iH z jM z z z z z (kc 4 ?_)));refine Ω 1 (υ 9 z (iH z jM z z z z z (kc 4 ?_)));refine R1 ?_;exact cf ((),(Et,a235,c236,b251,a245,c246)) ⟨hh,JZ,zf247⟩ (ψ [2,1,3,3,4] 5)
    refine TA.aN [5,8] (an rfl rfl (nP (q:=x0.states.toNat) (E:=3) (size:=1) (enc:=ak) rfl jZ jy mG ku rfl rfl (vN u8.1) (vN u8.1) (by omega) (by decide) rfl (λa253 c254 Gu=>(kc 4 ?_))) (an rfl rfl (OpOk.front 2 rfl rfl (iH rfl jM rfl rfl rfl rfl rfl (k3 ?_))) (True.intro)))
    ·refine Ω 3 (υ 8 z (iH z jM z z z z z (kc 4 ?_)));refine Ω 2 (υ 9 z (iH z jM z z z z z (kc 4 ?_)));refine R1 ?_;exact cf ((),(Et,a235,c236,b249,a253,c254)) ⟨hh,JZ,Gu⟩ (ψ [2,1,3,3,4] 5)
    refine υ 5 rfl (nP (q:=x0.states.toNat) (E:=3) (size:=1) (enc:=ak) rfl jZ jy mG ku rfl rfl (vN u8.1) (vN u8.1) (by omega) (by decide) rfl (λSE Ry JY=>(kc 4 ?_)));refine Ω 2 (υ 9 z (iH z jM z z z z z (kc 4 ?_)));refine R1 ?_;exact cf ((),(Et,a235,c236,b249,SE,Ry)) ⟨hh,JZ,JY⟩ (ψ [1,1,3,3,4] 5)
   ·refine TA.aN [2,7] (an rfl rfl (nP (q:=x0.states.toNat) (E:=3) (size:=1) (enc:=ak) rfl jZ jy mG ku rfl rfl (vN u5.1) (vN u5.1) (by omega) (by decide) rfl (λa261 c262 JX=>(k3 ?_))) (an rfl rfl (OpOk.alloc rfl rP rfl rfl (λOX=>(k3 ?_))) (True.intro)))
    ·refine υ 7 z (OpOk.alloc z rP z z (λb267=>(kc 4 ?_)));refine Ω 3 (υ 8 z (iH z jM z z z z z (kc 4 ?_)));refine Ω 1 (υ 9 z (iH z jM z z z z z (kc 4 ?_)));refine R1 ?_;exact cf ((),(Et,a261,c262,b267,SH,RD)) ⟨hh,JX,TJ⟩ (ψ [3,1,3,3,4] 5)
    refine υ 2 rfl (nP (q:=x0.states.toNat) (E:=3) (size:=1) (enc:=ak) rfl jZ jy mG ku rfl rfl (vN u5.1) (vN u5.1) (by omega) (by decide) rfl (λGl FW JW=>(kc 4 ?_)));refine Ω 3 (υ 8 z (iH z jM z z z z z (kc 4 ?_)));refine Ω 2 (υ 9 z (iH z jM z z z z z (kc 4 ?_)));refine R1 ?_;exact cf ((),(Et,Gl,FW,OX,SH,RD)) ⟨hh,JW,TJ⟩ (ψ [3,1,3,3,4] 5)
   refine TA.aN [2,5] (an rfl rfl (nP (q:=x0.states.toNat) (E:=3) (size:=1) (enc:=ak) rfl jZ jy mG ku rfl rfl (vN u5.1) (vN u5.1) (by omega) (by decide) rfl (λa273 ZT TF=>(k3 ?_))) (an rfl rfl (nP (q:=x0.states.toNat) (E:=3) (size:=1) (enc:=ak) rfl jZ jy mG ku rfl rfl (vN u8.1) (vN u8.1) (by omega) (by decide) rfl (λa277 c278 zf279=>(k3 ?_))) (True.intro)))
   ·refine TA.aN [5,8] (an rfl rfl (nP (q:=x0.states.toNat) (E:=3) (size:=1) (enc:=ak) rfl jZ jy mG ku rfl rfl (vN u8.1) (vN u8.1) (by omega) (by decide) rfl (λa281 c282 zf283=>(kc 4 ?_))) (an rfl rfl (OpOk.front 2 rfl rfl (iH rfl jM rfl rfl rfl rfl rfl (k3 ?_))) (True.intro)))
    ·refine Ω 3 (υ 8 z (iH z jM z z z z z (kc 4 ?_)));refine Ω 3 (υ 9 z (iH z jM z z z z z (kc 4 ?_)));refine R1 ?_;exact cf ((),(Et,a273,ZT,b243,a281,c282)) ⟨hh,TF,zf283⟩ (ψ [2,1,3,3,4] 5)
    refine υ 5 rfl (nP (q:=x0.states.toNat) (E:=3) (size:=1) (enc:=ak) rfl jZ jy mG ku rfl rfl (vN u8.1) (vN u8.1) (by omega) (by decide) rfl (λa285 c286 zf287=>(kc 4 ?_)));refine Ω 3 (υ 9 z (iH z jM z z z z z (kc 4 ?_)));refine R1 ?_;exact cf ((),(Et,a273,ZT,b243,a285,c286)) ⟨hh,TF,zf287⟩ (ψ [1,1,3,3,4] 5)
   refine υ 2 rfl (nP (q:=x0.states.toNat) (E:=3) (size:=1) (enc:=ak) rfl jZ jy mG ku rfl rfl (vN u5.1) (vN u5.1) (by omega) (by decide) rfl (λa289 c290 zf291=>(kc 4 ?_)));refine Ω 3 (υ 8 z (iH z jM z z z z z (kc 4 ?_)));refine Ω 3 (υ 9 z (iH z jM z z z z z (kc 4 ?_)));refine R1 ?_;exact cf ((),(Et,a289,c290,b243,a277,c278)) ⟨hh,zf291,zf279⟩ (ψ [3,1,3,3,4] 5)
  refine TA.aN [2,5,6] (an rfl rfl (nP (q:=x0.states.toNat) (E:=3) (size:=1) (enc:=ak) rfl jZ jy mG ku rfl rfl (vN u5.1) (vN u5.1) (by omega) (by decide) rfl (λa293 ZR JV=>(k2 ?_))) (an rfl rfl (nP (q:=x0.states.toNat) (E:=3) (size:=1) (enc:=ak) rfl jZ jy mG ku rfl rfl (vN u8.1) (vN u8.1) (by omega) (by decide) rfl (λa297 c298 Tv=>(k2 ?_))) (an rfl rfl (OpOk.alloc rfl rP rfl rfl (λZ_=>(k2 ?_))) (True.intro))))
  ·refine TA.aN [5,6] (an rfl rfl (nP (q:=x0.states.toNat) (E:=3) (size:=1) (enc:=ak) rfl jZ jy mG ku rfl rfl (vN u8.1) (vN u8.1) (by omega) (by decide) rfl (λa303 c304 zf305=>(k3 ?_))) (an rfl rfl (OpOk.alloc rfl rP rfl rfl (λb307=>(k3 ?_))) (True.intro)))
   ·refine υ 6 z (OpOk.alloc z rP z z (λb309=>(kc 4 ?_)));refine υ 8 z (iH z jM z z z z z (kc 4 ?_));refine Ω 3 (υ 9 z (iH z jM z z z z z (kc 4 ?_)));refine R1 ?_;exact cf ((),(b309,a293,ZR,Es,a303,c304)) ⟨hh,JV,zf305⟩ (ψ [2,1,3,3,4] 5)
   refine TA.aN [5,8] (an rfl rfl (nP (q:=x0.states.toNat) (E:=3) (size:=1) (enc:=ak) rfl jZ jy mG ku rfl rfl (vN u8.1) (vN u8.1) (by omega) (by decide) rfl (λa311 c312 zf313=>(kc 4 ?_))) (an rfl rfl (iH rfl jM rfl rfl rfl rfl rfl (k3 ?_)) (True.intro)))
   ·refine Ω 1 (υ 8 z (iH z jM z z z z z (kc 4 ?_)));refine Ω 3 (υ 9 z (iH z jM z z z z z (kc 4 ?_)));refine R1 ?_;exact cf ((),(b307,a293,ZR,Es,a311,c312)) ⟨hh,JV,zf313⟩ (ψ [2,1,3,3,4] 5)
   refine υ 5 rfl (nP (q:=x0.states.toNat) (E:=3) (size:=1) (enc:=ak) rfl jZ jy mG ku rfl rfl (vN u8.1) (vN u8.1) (by omega) (by decide) rfl (λa315 c316 zf317=>(kc 4 ?_)));refine Ω 3 (υ 9 z (iH z jM z z z z z (kc 4 ?_)));refine R1 ?_;exact cf ((),(b307,a293,ZR,Es,a315,c316)) ⟨hh,JV,zf317⟩ (ψ [1,1,3,3,4] 5)
  ·refine TA.aN [2,6] (an rfl rfl (nP (q:=x0.states.toNat) (E:=3) (size:=1) (enc:=ak) rfl jZ jy mG ku rfl rfl (vN u5.1) (vN u5.1) (by omega) (by decide) rfl (λa319 c320 mO=>(k3 ?_))) (an rfl rfl (OpOk.alloc rfl rP rfl rfl (λb323=>(k3 ?_))) (True.intro)))
   ·refine υ 6 z (OpOk.alloc z rP z z (λb325=>(kc 4 ?_)));refine υ 8 z (iH z jM z z z z z (kc 4 ?_));refine Ω 3 (υ 9 z (iH z jM z z z z z (kc 4 ?_)));refine R1 ?_;exact cf ((),(b325,a319,c320,Es,a297,c298)) ⟨hh,mO,Tv⟩ (ψ [3,1,3,3,4] 5)
   refine υ 2 rfl (nP (q:=x0.states.toNat) (E:=3) (size:=1) (enc:=ak) rfl jZ jy mG ku rfl rfl (vN u5.1) (vN u5.1) (by omega) (by decide) rfl (λa327 c328 zf329=>(kc 4 ?_)));refine Ω 1 (υ 8 z (iH z jM z z z z z (kc 4 ?_)));refine Ω 3 (υ 9 z (iH z jM z z z z z (kc 4 ?_)));refine R1 ?_;exact cf ((),(b323,a327,c328,Es,a297,c298)) ⟨hh,zf329,Tv⟩ (ψ [3,1,3,3,4] 5)
  refine TA.aN [2,5] (an rfl rfl (nP (q:=x0.states.toNat) (E:=3) (size:=1) (enc:=ak) rfl jZ jy mG ku rfl rfl (vN u5.1) (vN u5.1) (by omega) (by decide) rfl (λa331 c332 Az=>(k3 ?_))) (an rfl rfl (nP (q:=x0.states.toNat) (E:=3) (size:=1) (enc:=ak) rfl jZ jy mG ku rfl rfl (vN u8.1) (vN u8.1) (by omega) (by decide) rfl (λa335 c336 zf337=>(k3 ?_))) (True.intro)))
  ·refine TA.aN [5,8] (an rfl rfl (nP (q:=x0.states.toNat) (E:=3) (size:=1) (enc:=ak) rfl jZ jy mG ku rfl rfl (vN u8.1) (vN u8.1) (by omega) (by decide) rfl (λa339 c340 zf341=>(kc 4 ?_))) (an rfl rfl (OpOk.front 1 rfl rfl (iH rfl jM rfl rfl rfl rfl rfl (k3 ?_))) (True.intro)))
   ·refine Ω 2 (υ 8 z (iH z jM z z z z z (kc 4 ?_)));refine Ω 3 (υ 9 z (iH z jM z z z z z (kc 4 ?_)));refine R1 ?_;exact cf ((),(Z_,a331,c332,Es,a339,c340)) ⟨hh,Az,zf341⟩ (ψ [2,1,3,3,4] 5)
   refine υ 5 rfl (nP (q:=x0.states.toNat) (E:=3) (size:=1) (enc:=ak) rfl jZ jy mG ku rfl rfl (vN u8.1) (vN u8.1) (by omega) (by decide) rfl (λa343 c344 zf345=>(kc 4 ?_)));refine Ω 3 (υ 9 z (iH z jM z z z z z (kc 4 ?_)));refine R1 ?_;exact cf ((),(Z_,a331,c332,Es,a343,c344)) ⟨hh,Az,zf345⟩ (ψ [1,1,3,3,4] 5)
  refine υ 2 rfl (nP (q:=x0.states.toNat) (E:=3) (size:=1) (enc:=ak) rfl jZ jy mG ku rfl rfl (vN u5.1) (vN u5.1) (by omega) (by decide) rfl (λyj xZ zf349=>(kc 4 ?_)));refine Ω 2 (υ 8 z (iH z jM z z z z z (kc 4 ?_)));refine Ω 3 (υ 9 z (iH z jM z z z z z (kc 4 ?_)));refine R1 ?_;exact cf ((),(Z_,yj,xZ,Es,a335,c336)) ⟨hh,zf349,zf337⟩ (ψ [3,1,3,3,4] 5)
 obtain ⟨_,⟨uh,mM,mJ,CU,C9,CQ⟩⟩:=g;obtain ⟨hh,yE,wO⟩:=hg
 try dsimp only at yE wO ⊢
 dsimp only [Db_]at hh;have zf116b:=yE.len;have zf122b:=wO.len;refine TC.know (rG (q:=2) z yE) (λ⟨_,hb351⟩=> ?_);refine TC.know (rG (q:=4) z wO) (λ⟨_,hb352⟩=> ?_);refine R9 ?_;refine TC.lk hh ((replicate x0.states.toNat (qo:NP Int)),(replicate x0.states.toNat (qo:NP Int))) (rgs [(6,1),(16,31)]) (λ⟨_,jD,bG⟩ ⟨IQ,Bd⟩=>([(16,.int .i64 (bG:Int))],[ω pJ (jB x0 aB aA ay aH aG au) 25,ω uh #[.slice mM ((replicate x0.states.toNat ([]:ah)).length) mJ] 32,Res.nest 31 3 1 ak (.slice mM (replicate x0.states.toNat ([]:ah)).length mJ) IQ,ω CU #[.slice C9 jD.length CQ] 32,Res.nest 31 3 1 ak (.slice C9 jD.length CQ) Bd])) (λ⟨lH,jD,_⟩ ⟨IQ,Bd⟩=>lH.length=(replicate x0.states.toNat ([]:ah)).length/\Zn IQ lH/\Zn Bd jD) ⟨z,yE,wO⟩ (ψ [4,4,4,4,4] 5) ?_;rintro ⟨lH,jD,bG⟩ ⟨IQ,Bd⟩ _ z1 hh hR1 ⟨Hy,oC,Ar⟩;dsimp only [Hn_]at hh Hy oC Ar ⊢;have zf374b:=oC.len;have zf377b:=Ar.len;refine TC.know (rG (q:=2) z oC) (λ⟨_,hb379⟩=> ?_);refine TC.know (rG (q:=4) z Ar) (λ⟨_,hb380⟩=> ?_);refine R5 ?_;refine π z hh (λh381 hh=> ?_) (λh381 hh=> ?_)
 ·refine R7 ?_;refine TL.al (λZ9=> ?_);refine R2 ?_;refine TC.cutG (α:=(Unit)×((List (NP Int)))) (rgs [(20,13)]) (λg=>[]) (λg=>[ω pJ (jB x0 aB aA ay aH aG au) 25,ω uh #[.slice mM ((replicate x0.states.toNat ([]:ah)).length) mJ] 32,Res.nest 31 3 1 ak (.slice mM (replicate x0.states.toNat ([]:ah)).length mJ) g.2,ω CU #[.slice C9 jD.length CQ] 32,Res.nest 31 3 1 ak (.slice C9 jD.length CQ) Bd,ω Z9 #[.int .i64 ((nth x0.arcs bG aQ).frm),.int .i64 ((nth x0.arcs bG aQ).to),.int .u64 (((nth x0.arcs bG aQ).set).a:Int),.int .u64 (((nth x0.arcs bG aQ).set).b:Int),.int .u64 (((nth x0.arcs bG aQ).set).c:Int),.int .u64 (((nth x0.arcs bG aQ).set).d:Int),.string (bs ((nth x0.arcs bG aQ).out)),.bool ((nth x0.arcs bG aQ).copy)] 49]) (λg=>σ) (λg=>G3_ x0 bG jD lH=some z1/\(lH.set (((nth x0.arcs bG aQ).frm).toNat) ((nth lH (((nth x0.arcs bG aQ).frm).toNat) [])++[(nth x0.arcs bG aQ).to])).length=(replicate x0.states.toNat ([]:ah)).length/\Zn g.2 (lH.set (((nth x0.arcs bG aQ).frm).toNat) ((nth lH (((nth x0.arcs bG aQ).frm).toNat) [])++[(nth x0.arcs bG aQ).to]))/\Zn Bd jD) ?_ (λg j hg=> ?_)
  ·obtain ⟨u28,hh⟩:=gd hh;obtain ⟨u33,hh⟩:=gd hh;obtain ⟨u34,hh⟩:=gd hh;refine TC.OV (Hr:=[ω Z9 #[.int .i64 ((nth x0.arcs bG aQ).frm),.int .i64 ((nth x0.arcs bG aQ).to),.int .u64 (((nth x0.arcs bG aQ).set).a:Int),.int .u64 (((nth x0.arcs bG aQ).set).b:Int),.int .u64 (((nth x0.arcs bG aQ).set).c:Int),.int .u64 (((nth x0.arcs bG aQ).set).d:Int),.string (bs ((nth x0.arcs bG aQ).out)),.bool ((nth x0.arcs bG aQ).copy)] 49,ω pJ (jB x0 aB aA ay aH aG au) 25,ω uh #[.slice mM ((replicate x0.states.toNat ([]:ah)).length) mJ] 32,ω CU #[.slice C9 jD.length CQ] 32,Res.nest 31 3 1 ak (.slice C9 jD.length CQ) Bd]) (λr hr=>oU [0,1,2,4,5] z hr) [] (by kernel_rfl) (χ 0 z lL z (ν 1 z fL z (χ 2 z lL z (χ 3 z lL z (ν 4 z fL z (χ 5 z lL z (TA.know (rG (q:=3) z oC) (λ⟨hs399,hs399b⟩=> ?_))))))));refine χ 6 z iX z (ν 8 z fL z (χ 9 z lL z ?_));obtain ⟨p400,U4,V3⟩:=Zn.at oC (i:=((nth x0.arcs bG aQ).frm).toNat) (by omega);refine TA.aN [7,10] (an z z (OpVal.ok (EM z pV z (q:=3) z U4 V3) z z ⟨(λw h=>qj (aj.le.refl _) (λr hr=>oU [0,1,2,4,5] z hr) w h),?_⟩) (an z z (jc (enc:=ak) [(nth x0.arcs bG aQ).to] (λa401 c402=>⟨(λw h=>qj (aj.le.refl _) (λr hr=>oU [1,2,3,5,6] z hr) w h),?_⟩)) (True.intro)))
   ·refine υ 10 z (jc (enc:=ak) [(nth x0.arcs bG aQ).to] (λa404 c405=>⟨(λw h=>qj (aj.le.refl _) (λr hr=>oU [1,2,3,5,6] z hr) w h),?_⟩));refine Ω 4 (TA.by (λw h=>Reach.takeN U4 V3 h) (υ 11 z (apF (.inr ⟨_,1,z⟩) u33 (λa408 ZN=>(k3 ?_)))));refine TA.know (JI (q:=1) z oC) (λ⟨hs410,hs410b⟩=> ?_);refine χ 12 z iX z (Ω 1 (Ω 1 ?_));have hn412:(lH.set (((nth x0.arcs bG aQ).frm).toNat) ((nth lH (((nth x0.arcs bG aQ).frm).toNat) [])++[(nth x0.arcs bG aQ).to])).length=(replicate x0.states.toNat ([]:ah)).length:=(fV ..).trans Hy;refine υ 13 rfl (JM (l':=((nth lH (((nth x0.arcs bG aQ).frm).toNat) [])++[(nth x0.arcs bG aQ).to])) rfl jy rfl rfl rfl rfl rfl (by rw [oC.len];omega) oC (λzf411=>(k2 ?_)));refine R1 ?_;exact cf ((),(IQ.set (((nth x0.arcs bG aQ).frm).toNat) (((nth lH (((nth x0.arcs bG aQ).frm).toNat) [])++[(nth x0.arcs bG aQ).to]),(a408,ZN)))) ⟨hh,hn412,zf411,Ar⟩ (ψ [2,6,6,3,6,6] 6)
   obtain ⟨p413,U3,VZ⟩:=Zn.at oC (i:=((nth x0.arcs bG aQ).frm).toNat) (by omega);refine υ 7 z (OpVal.ok (EM z pV z (q:=4) z U3 VZ) z z ⟨(λw h=>qj (aj.le.refl _) (λr hr=>oU [1,2,3,5,6] z hr) w h),?_⟩);refine Ω 4 (TA.by (λw h=>Reach.takeN U3 VZ h) (υ 11 z (apF (.inr ⟨_,1,z⟩) u33 (λa415 c416=>(k3 ?_)))));refine TA.know (JI (q:=1) z oC) (λ⟨hs417,hs417b⟩=> ?_);refine χ 12 z iX z (Ω 1 (Ω 1 ?_));have hn419:(lH.set (((nth x0.arcs bG aQ).frm).toNat) ((nth lH (((nth x0.arcs bG aQ).frm).toNat) [])++[(nth x0.arcs bG aQ).to])).length=(replicate x0.states.toNat ([]:ah)).length:=(fV ..).trans Hy;refine υ 13 rfl (JM (l':=((nth lH (((nth x0.arcs bG aQ).frm).toNat) [])++[(nth x0.arcs bG aQ).to])) rfl jy rfl rfl rfl rfl rfl (by rw [oC.len];omega) oC (λzf418=>(k2 ?_)));refine R1 ?_;exact cf ((),(IQ.set (((nth x0.arcs bG aQ).frm).toNat) (((nth lH (((nth x0.arcs bG aQ).frm).toNat) [])++[(nth x0.arcs bG aQ).to]),(a415,c416)))) ⟨hh,hn419,zf418,Ar⟩ (ψ [2,6,6,3,6,6] 6)
  obtain ⟨_,XP⟩:=g;obtain ⟨hh,L8,Dh,pO⟩:=hg
  try dsimp only at L8 Dh pO ⊢
  dsimp only [G3_]at hh;have zf386b:=Dh.len;have zf387b:=pO.len;refine TC.know (rG (q:=2) z Dh) (λ⟨_,hb420⟩=> ?_);refine TC.know (rG (q:=4) z pO) (λ⟨_,hb421⟩=> ?_);obtain ⟨u42,hh⟩:=gd hh;obtain ⟨PU,hh⟩:=gd hh;obtain ⟨u48,hh⟩:=gd hh;refine TC.OV (Hr:=[ω pJ (jB x0 aB aA ay aH aG au) 25,ω uh #[.slice mM ((replicate x0.states.toNat ([]:ah)).length) mJ] 32,Res.nest 31 3 1 ak (.slice mM (replicate x0.states.toNat ([]:ah)).length mJ) XP,ω CU #[.slice C9 jD.length CQ] 32,ω Z9 #[.int .i64 ((nth x0.arcs bG aQ).frm),.int .i64 ((nth x0.arcs bG aQ).to),.int .u64 (((nth x0.arcs bG aQ).set).a:Int),.int .u64 (((nth x0.arcs bG aQ).set).b:Int),.int .u64 (((nth x0.arcs bG aQ).set).c:Int),.int .u64 (((nth x0.arcs bG aQ).set).d:Int),.string (bs ((nth x0.arcs bG aQ).out)),.bool ((nth x0.arcs bG aQ).copy)] 49]) (λr hr=>oU [0,1,2,3,5] z hr) [] (by kernel_rfl) (χ 0 z lL z (ν 1 z fL z (χ 2 z lL z (χ 3 z lL z (ν 4 z fL z (χ 5 z lL z (TA.know (rG (q:=4) z pO) (λ⟨hs433,hs433b⟩=> ?_))))))));refine χ 6 z iX z (ν 8 z fL z (χ 9 z lL z ?_));obtain ⟨p434,U2,VY⟩:=Zn.at pO (i:=((nth x0.arcs bG aQ).to).toNat) (by omega);refine TA.aN [7,10] (an z z (OpVal.ok (EM z pV z (q:=4) z U2 VY) z z ⟨(λw h=>qj (aj.le.refl _) (λr hr=>oU [0,1,2,3,5] z hr) w h),?_⟩) (an z z (jc (enc:=ak) [(nth x0.arcs bG aQ).frm] (λa435 c436=>⟨(λw h=>qj (aj.le.refl _) (λr hr=>oU [1,2,3,4,6] z hr) w h),?_⟩)) (True.intro)))
  ·refine υ 10 z (jc (enc:=ak) [(nth x0.arcs bG aQ).frm] (λa438 c439=>⟨(λw h=>qj (aj.le.refl _) (λr hr=>oU [1,2,3,4,6] z hr) w h),?_⟩));refine Ω 5 (TA.by (λw h=>Reach.takeN U2 VY h) (υ 11 z (apF (.inr ⟨_,1,z⟩) PU (λa442 ZM=>(k3 ?_)))));refine TA.know (JI (q:=1) z pO) (λ⟨hs444,hs444b⟩=> ?_);refine χ 12 z iX z (Ω 1 (Ω 1 ?_));have hn446:(jD.set (((nth x0.arcs bG aQ).to).toNat) ((nth jD (((nth x0.arcs bG aQ).to).toNat) [])++[(nth x0.arcs bG aQ).frm])).length=jD.length:=(fV ..).trans rfl;refine υ 13 rfl (JM (l':=((nth jD (((nth x0.arcs bG aQ).to).toNat) [])++[(nth x0.arcs bG aQ).frm])) rfl jy rfl rfl rfl rfl rfl (by rw [pO.len];omega) pO (λzf445=>(k2 ?_)));refine R4 ?_;rw [<-hn446];refine R1 ?_;exact nk hR1 hh (XP,(Bd.set (((nth x0.arcs bG aQ).to).toNat) (((nth jD (((nth x0.arcs bG aQ).to).toNat) [])++[(nth x0.arcs bG aQ).frm]),(a442,ZM)))) (ψ [5,5,5,5] 5) ⟨L8,Dh,zf445⟩
  obtain ⟨p448,U1,VX⟩:=Zn.at pO (i:=((nth x0.arcs bG aQ).to).toNat) (by omega);refine υ 7 z (OpVal.ok (EM z pV z (q:=5) z U1 VX) z z ⟨(λw h=>qj (aj.le.refl _) (λr hr=>oU [1,2,3,4,6] z hr) w h),?_⟩);refine Ω 5 (TA.by (λw h=>Reach.takeN U1 VX h) (υ 11 z (apF (.inr ⟨_,1,z⟩) PU (λa450 c451=>(k3 ?_)))));refine TA.know (JI (q:=1) z pO) (λ⟨hs452,hs452b⟩=> ?_);refine χ 12 z iX z (Ω 1 (Ω 1 ?_));have hn454:(jD.set (((nth x0.arcs bG aQ).to).toNat) ((nth jD (((nth x0.arcs bG aQ).to).toNat) [])++[(nth x0.arcs bG aQ).frm])).length=jD.length:=(fV ..).trans rfl;refine υ 13 rfl (JM (l':=((nth jD (((nth x0.arcs bG aQ).to).toNat) [])++[(nth x0.arcs bG aQ).frm])) rfl jy rfl rfl rfl rfl rfl (by rw [pO.len];omega) pO (λzf453=>(k2 ?_)));refine R4 ?_;rw [<-hn454];refine R1 ?_;exact nk hR1 hh (XP,(Bd.set (((nth x0.arcs bG aQ).to).toNat) (((nth jD (((nth x0.arcs bG aQ).to).toNat) [])++[(nth x0.arcs bG aQ).frm]),(a450,c451)))) (ψ [5,5,5,5] 5) ⟨L8,Dh,zf453⟩
 refine R1 ?_;replace hh:=bJ hR1 hh;refine R3 ?_;refine ι z (cb_ z) (ι z (RN (.inr z) z) (R1 ?_));rw [<-Hy];refine TC.fr 2 (TC.cv_ (λw h=>Reach.bf_ aT oC h) (λτ458 Fj Vp=> ?_));replace aC:=aC.mono Fj;replace aV:=aV.mono Fj;replace aS:=aS.mono Fj;refine TC.fr 3 (TC.cv_ (λw h=>Reach.bf_ aT Ar h) (λτ461 BM hr459=> ?_));replace aC:=aC.mono BM;replace aV:=aV.mono BM;replace aS:=aS.mono BM;replace Vp:=Vp.mono BM;have hr459b:=hr459.big;refine η ?_;obtain rfl:=so hh;exact rz
def Ga_(bM:ah)(gB:Nat)(IU:Int):Option (Nat×(ah×Nat)):=
 grd (0<=IU/\IU<(bM.length:Int)) (grd (gB+1<=9223372036854775807) (some (0,((bM.set IU.toNat (gB:Int)),(gB+1)))))
def Ct_(d_:Nat)(l175:List Tip):Option (((List Tip)×Nat)⊕(Fst×Int)):=
 nxt (l175,(d_+1))
def Cz_(iY:Nat)(l215:List Tip):Option (((List Tip)×Nat)⊕(Fst×Int)):=
 nxt (l215,(iY+1))
def XA(dS:Nat)(l257:List Arc):Option (((List Arc)×Nat)⊕(Fst×Int)):=
 nxt (l257,(dS+1))
def Fy_(x0:Fst)(bM:ah)(gB:Nat)(bD:List Tip)(ji:List Tip)(mW:List Arc)(dS:Nat):Option (((List Arc)×Nat)⊕(Fst×Int)):=
 iteO (decide ((dS:Int)<(x0.arcs.length:Int))) (grd (0<=((nth x0.arcs dS aQ).frm)/\((nth x0.arcs dS aQ).frm)<(bM.length:Int)) (grd (0<=((nth x0.arcs dS aQ).to)/\((nth x0.arcs dS aQ).to)<(bM.length:Int)) (iteO (decide (0<=(nth bM (((nth x0.arcs dS aQ).frm).toNat) 0))) (iteO (decide (0<=(nth bM (((nth x0.arcs dS aQ).to).toNat) 0))) (grd ((mW.length+[(⟨(nth bM (((nth x0.arcs dS aQ).frm).toNat) 0),(nth bM (((nth x0.arcs dS aQ).to).toNat) 0),(nth x0.arcs dS aQ).set,(nth x0.arcs dS aQ).out,(nth x0.arcs dS aQ).copy⟩:Arc)].length) * 72<=140737488355328) (XA dS (mW++[(⟨(nth bM (((nth x0.arcs dS aQ).frm).toNat) 0),(nth bM (((nth x0.arcs dS aQ).to).toNat) 0),(nth x0.arcs dS aQ).set,(nth x0.arcs dS aQ).out,(nth x0.arcs dS aQ).copy⟩:Arc)]))) (XA dS mW)) (XA dS mW)))) (fin (bnd (J4_ (⟨(gB:Int),bD,ji,mW⟩:Fst)) (λv145=>some (v145.1,v145.2))))
def F1_(x0:Fst)(bM:ah)(gB:Nat)(bD:List Tip)(ji:List Tip)(iY:Nat):Option (((List Tip)×Nat)⊕(Fst×Int)):=
 iteO (decide ((iY:Int)<(x0.ends.length:Int))) (grd (0<=((nth x0.ends iY aY).state)/\((nth x0.ends iY aY).state)<(bM.length:Int)) (iteO (decide (0<=(nth bM (((nth x0.ends iY aY).state).toNat) 0))) (grd ((ji.length+[(⟨(nth bM (((nth x0.ends iY aY).state).toNat) 0),(nth x0.ends iY aY).out⟩:Tip)].length) * 24<=140737488355328) (Cz_ iY (ji++[(⟨(nth bM (((nth x0.ends iY aY).state).toNat) 0),(nth x0.ends iY aY).out⟩:Tip)]))) (Cz_ iY ji))) (fin (iter (λq:(List Arc)×Nat=>Fy_ x0 bM gB bD ji q.1 q.2) (([]:List Arc),0)))
def F2_(x0:Fst)(bM:ah)(gB:Nat)(bD:List Tip)(d_:Nat):Option (((List Tip)×Nat)⊕(Fst×Int)):=
 iteO (decide ((d_:Int)<(x0.starts.length:Int))) (grd (0<=((nth x0.starts d_ aY).state)/\((nth x0.starts d_ aY).state)<(bM.length:Int)) (iteO (decide (0<=(nth bM (((nth x0.starts d_ aY).state).toNat) 0))) (grd ((bD.length+[(⟨(nth bM (((nth x0.starts d_ aY).state).toNat) 0),(nth x0.starts d_ aY).out⟩:Tip)].length) * 24<=140737488355328) (Ct_ d_ (bD++[(⟨(nth bM (((nth x0.starts d_ aY).state).toNat) 0),(nth x0.starts d_ aY).out⟩:Tip)]))) (Ct_ d_ bD))) (fin (iter (λq:(List Tip)×Nat=>F1_ x0 bM gB bD q.1 q.2) (([]:List Tip),0)))
def F5_(x0:Fst)(jz:Nat)(bM:ah)(gB:Nat):Option (Fst×Int):=
 jsel jz (iter (λq:(List Tip)×Nat=>F2_ x0 bM gB q.1 q.2) (([]:List Tip),0)) (λ_=>none)
def F4_(x0:Fst)(dF:ah)(mZ:Nat):Option ((ah×Nat)⊕(Fst×Int)):=
 iteO (decide ((mZ:Int)<((replicate x0.states.toNat (0:Int)).length:Int))) (grd (mZ<dF.length) (nxt ((dF.set mZ (-1)),(mZ+1)))) (fin (bnd (E0_ x0) (λv29=>bnd (Do_ (stepY (λ(q:ah×Nat) (x:Int)=>Ga_ q.1 q.2 x)) (0,(dF,0)) (⟨v29.1.states,v29.1.starts,v29.1.ends,v29.1.arcs⟩:Fst) v29.2.1 v29.2.2) (λP8=>F5_ x0 P8.1 P8.2.1 P8.2.2))))
def Gz_(x0:Fst):Option (Fst×Int):=
 bnd (Gp x0) (λv5=>iteO (decide (v5≠0)) (some ((⟨0,([]:List Tip),([]:List Tip),([]:List Arc)⟩:Fst),1)) (grd (0<=x0.states/\8 * x0.states.toNat<=281474976710656) (iter (λq:ah×Nat=>F4_ x0 q.1 q.2) ((replicate x0.states.toNat (0:Int)),0))))
theorem Md_{σ:aj}{x0:Fst}(aC:RS σ 2 bf (.slice aB x0.starts.length aA) x0.starts)(aV:RS σ 2 bf (.slice ay x0.ends.length aH) x0.ends)(aS:RS σ 8 fP (.slice aG x0.arcs.length au) x0.arcs){r:Fst×Int}(hh:Gz_ x0=some r):
  Con prog 12 #[.agg (jB x0 aB aA ay aH aG au)] σ [] (Iu_ σ r):=by
 dsimp only [Gz_]at hh;have f0_0b:=aC.rv.big;have f0_1b:=aV.rv.big;have f0_2b:=aS.rv.big;refine cM 136 Tryz.func12 (λw0=> ?_);refine R2 ?_;refine TL.bx (λaP=> ?_);refine TL.al (λbK=> ?_);refine R6 ?_;obtain ⟨v5,u5,hh⟩:=bg hh;refine φ z (gI (Tm (x0:=x0) aC aV aS u5) z z Qb z z z ?_);refine R2 ?_;refine π z hh (λdL hh=> ?_) (λdL hh=> ?_)
 ·refine R6 ?_;refine Ψ 1 ?_;obtain rfl:=so hh;exact rz
 refine R5 ?_;obtain ⟨u12,hh⟩:=gd hh;refine φ rfl (CV (m:=x0.states.toNat) (enc:=ak) (0:Int) rfl sU oq IG yF rfl rfl (vN u12.1) (vN u12.1) (by omega) (by decide) aT (by decide) rfl GL (λkP c107=> ?_));refine TL.al (λpJ=> ?_);refine R10 ?_;refine TC.lk hh () (rgs [(5,1),(27,7)]) (λ⟨dF,mZ⟩ _=>([(27,.int .i64 (mZ:Int))],[ω aP (jB x0 aB aA ay aH aG au) 25,ω bK #[.int .i64 0,aW,aW,aW] 25,ω pJ #[.slice kP ((replicate x0.states.toNat (0:Int)).length) c107] 31,ε 3 1 ak (.slice kP (replicate x0.states.toNat (0:Int)).length c107) dF])) (λ⟨dF,_⟩ _=>dF.length=(replicate x0.states.toNat (0:Int)).length) z (ψ [1,1,2,3] 4) ?_;rintro ⟨dF,mZ⟩ _ _ z1 hh hR1 wX;dsimp only [F4_]at hh wX ⊢;refine ζ 3 z (λhb120=> ?_);refine R5 ?_;refine π z hh (λtY hh=> ?_) (λtY hh=> ?_)
 ·refine R11 ?_;obtain ⟨u23,hh⟩:=gd hh;refine TL.iS 3 z (λhs122=> ?_);refine ι z iN (κ 3 ?_);have gG:(dF.set mZ (-1)).length=(replicate x0.states.toNat (0:Int)).length:=by rw [fV];exact wX
  refine φ z (sS (-1) ?_);refine R5 ?_;exact nk hR1 hh () (ψ [3,3,3] 4) gG
 refine R1 ?_;replace hh:=bJ hR1 hh;refine R3 ?_;refine TL.al (λAi=> ?_);refine R5 ?_;obtain ⟨v29,u29,hh⟩:=bg hh;refine φ z (OpOk.call (Lv_ aC aV aS u29) z z pf39 z z z z ?_);rintro _ τ127 _ ny ⟨b127_10,a127_1,c127_2,a127_4,c127_5,a127_7,c127_8,b127_14,a127_11,c127_12,b127_18,a127_15,c127_16,rfl,f127_3,f127_6,f127_9,f127_13,f127_17,rfl⟩;replace aC:=aC.mono ny;replace aV:=aV.mono ny;replace aS:=aS.mono ny;have f127_13b:=f127_13.big;refine R2 ?_;refine Θ (ψ [2,2,2,3,7,7,7,7] 8) ?_;obtain ⟨P8,hz4,hh⟩:=bg hh;obtain ⟨jz4,⟨bM,gB⟩⟩:=P8;dsimp only at hh;refine TC.dv_ (A:=(λ(x:Int) _ vs=>vs=[.int .i64 x])) [] (λ(q:ah×Nat) (x:Int)=>Ga_ q.1 q.2 x) (λ(q:ah×Nat) (τ146:aj) Hs=>Hs=[ω aP (jB x0 aB aA ay aH aG au) 25,ω bK #[.int .i64 0,aW,aW,aW] 25,ω pJ #[.slice kP ((replicate x0.states.toNat (0:Int)).length) c107] 31,ε 3 1 ak (.slice kP (replicate x0.states.toNat (0:Int)).length c107) q.1,ω Ai #[.int .i64 (q.2:Int),aW,aW,aW] 25]/\q.1.length=(replicate x0.states.toNat (0:Int)).length) (s:=(dF,0)) rfl pf97 rfl rfl (by rintro _ _ _ _ ⟨rfl,Ed⟩ hle_;exact ⟨rfl,Ed⟩) ⟨rfl,wX⟩ (λ_ _ _ h_=>by subst h_;rfl) (K9_ f127_3 f127_6 f127_9 f127_13 f127_17 hz4) ?_ ?_
 ·clear hh hz4;rintro l_ _ _ _ τ146 ⟨bM,gB⟩ IU z4 _ _ hh qR rfl ⟨rfl,Ed⟩;dsimp only [Ga_]at hh;replace aC:=aC.mono qR;replace aV:=aV.mono qR;replace aS:=aS.mono qR;show TC _ _ _ (upds _ [(36,.int .i64 IU)]) τ146 [ω aP (jB x0 aB aA ay aH aG au) 25,ω bK #[.int .i64 0,aW,aW,aW] 25,ω pJ #[.slice kP ((replicate x0.states.toNat (0:Int)).length) c107] 31,ε 3 1 ak (.slice kP (replicate x0.states.toNat (0:Int)).length c107) bM,ω Ai #[.int .i64 (gB:Int),aW,aW,aW] 25];refine ζ 3 z (λhb148=> ?_);refine R3 ?_;refine asg_n (λ_ _ _=> ?_);refine R7 ?_;obtain ⟨u35,hh⟩:=gd hh;refine TL.iS 3 z (λLQ=> ?_);refine ι z iX (κ 3 ?_);have Ie:(bM.set IU.toNat (gB:Int)).length=(replicate x0.states.toNat (0:Int)).length:=by rw [fV];exact Ed
  refine φ z (sS (gB:Int) ?_);refine R4 ?_;obtain ⟨u39,hh⟩:=gd hh;refine R2 ?_;refine κ 4 (R2 ?_);refine B.n ?_;obtain rfl:=so hh;exact rnd_n ⟨z,_,ψ [1,4,4,4] 5,⟨z,Ie⟩⟩
 rintro τ146 _ _ qR ⟨rfl,Ed⟩ ⟨rfl⟩;replace aC:=aC.mono qR;replace aV:=aV.mono qR;replace aS:=aS.mono qR;dsimp only [F5_]at hh;show jmpQ _ _ _ _ _ τ146 [ω aP (jB x0 aB aA ay aH aG au) 25,ω bK #[.int .i64 0,aW,aW,aW] 25,ω pJ #[.slice kP ((replicate x0.states.toNat (0:Int)).length) c107] 31,ε 3 1 ak (.slice kP (replicate x0.states.toNat (0:Int)).length c107) bM,ω Ai #[.int .i64 (gB:Int),aW,aW,aW] 25,ω b127_10 (jB v29.1 a127_1 c127_2 a127_4 c127_5 a127_7 c127_8) 25,ω b127_14 #[.slice a127_11 v29.2.1.length c127_12] 32,ω b127_18 #[.slice a127_15 v29.2.2.length c127_16] 32];refine s0_ hh ?_ ?_ <;>clear hh
 ·intro hh;refine R9 ?_;refine TC.nilS 79 2 bf (TC.lk hh (nO,oO) (rgs [(9,2),(49,21)]) (λ⟨bD,d_⟩ ⟨a167,c168⟩=>([(49,.int .i64 (d_:Int))],[ω aP (jB x0 aB aA ay aH aG au) 25,ω bK #[.int .i64 0,aW,aW,aW] 25,ω pJ #[.slice kP ((replicate x0.states.toNat (0:Int)).length) c107] 31,ε 3 1 ak (.slice kP (replicate x0.states.toNat (0:Int)).length c107) bM,ω Ai #[.int .i64 (gB:Int),.slice a167 bD.length c168,aW,aW] 25,ε 79 2 bf (.slice a167 bD.length c168) bD])) (λ⟨_,_⟩ ⟨_,_⟩=>bM.length=(replicate x0.states.toNat (0:Int)).length) Ed (ψ [5,5,5,5,5] 6) ?_);rintro ⟨bD,d_⟩ ⟨a167,c168⟩ _ z1 hh hR1 sD;dsimp only [F2_]at hh sD ⊢;refine ζ 3 z (λNR=> ?_);refine ζ 5 z (λWU=> ?_);refine R5 ?_;refine π z hh (λzC hh=> ?_) (λzC hh=> ?_)
  ·refine R1 ?_;refine TC.cutG (α:=((List Tip))×((Option Addr)×Nat)) (rgs [(9,2),(51,18)]) (λg=>[]) (λg=>[ω aP (jB x0 aB aA ay aH aG au) 25,ω bK #[.int .i64 0,aW,aW,aW] 25,ω pJ #[.slice kP ((replicate x0.states.toNat (0:Int)).length) c107] 31,ε 3 1 ak (.slice kP (replicate x0.states.toNat (0:Int)).length c107) bM,ω Ai #[.int .i64 (gB:Int),.slice g.2.1 g.1.length g.2.2,aW,aW] 25,ε 79 2 bf (.slice g.2.1 g.1.length g.2.2) g.1]) (λg=>τ146) (λg=>Ct_ d_ g.1=some z1/\bM.length=(replicate x0.states.toNat (0:Int)).length) ?_ (λg j hg=> ?_)
   ·refine R5 ?_;refine TL.al (λb178=> ?_);refine R7 ?_;obtain ⟨u54,hh⟩:=gd hh;refine TL.iS 4 z (λhs180=> ?_);refine R9 ?_;refine π z hh (λh181 hh=> ?_) (λh181 hh=> ?_)
    ·refine R7 ?_;refine φ z (jc (enc:=bf) [(⟨(nth bM (((nth x0.starts d_ aY).state).toNat) 0),(nth x0.starts d_ aY).out⟩:Tip)] (λa182 c183=> ?_));refine κ 7 ?_;obtain ⟨u66,hh⟩:=gd hh;refine φ z (apF (.inr ⟨_,0,z⟩) u66 (λuj ug=> ?_));refine ι z fL (κ 7 (R2 ?_));exact cf ((bD++[(⟨(nth bM (((nth x0.starts d_ aY).state).toNat) 0),(nth x0.starts d_ aY).out⟩:Tip)]),(uj,ug)) ⟨hh,sD⟩ (ψ [1,1,7,7,7,7] 6)
    refine R1 ?_;exact cf (bD,(a167,c168)) ⟨hh,sD⟩ (ψ [6,6,6,6,6,6] 6)
   obtain ⟨l175,⟨Ap,Ah⟩⟩:=g;obtain ⟨hh,VT⟩:=hg
   try dsimp only at VT ⊢
   dsimp only [Ct_]at hh;refine ζ 3 z (λhb187=> ?_);refine ζ 5 z (λhb188=> ?_);refine R4 ?_;exact nk hR1 hh (Ap,Ah) (ψ [5,5,5,5,5,5] 6) VT
  refine R1 ?_;replace hh:=bJ hR1 hh;refine R10 ?_;refine TC.nilS 79 2 bf (TC.lk hh (nO,oO) (rgs [(12,2),(73,21)]) (λ⟨ji,iY⟩ ⟨a206,En⟩=>([(73,.int .i64 (iY:Int))],[ω aP (jB x0 aB aA ay aH aG au) 25,ω bK #[.int .i64 0,aW,aW,aW] 25,ω pJ #[.slice kP ((replicate x0.states.toNat (0:Int)).length) c107] 31,ε 3 1 ak (.slice kP (replicate x0.states.toNat (0:Int)).length c107) bM,ω Ai #[.int .i64 (gB:Int),.slice a167 bD.length c168,.slice a206 ji.length En,aW] 25,ε 79 2 bf (.slice a167 bD.length c168) bD,ε 79 2 bf (.slice a206 ji.length En) ji])) (λ⟨_,_⟩ ⟨_,_⟩=>bM.length=(replicate x0.states.toNat (0:Int)).length) sD (ψ [6,6,6,6,6,6] 7) ?_);rintro ⟨ji,iY⟩ ⟨a206,En⟩ _ z1 hh hR1 wU;dsimp only [F1_]at hh wU ⊢;refine ζ 3 z (λNM=> ?_);refine ζ 5 z (λNK=> ?_);refine ζ 6 z (λNJ=> ?_);refine R5 ?_;refine π z hh (λh213 hh=> ?_) (λh213 hh=> ?_)
  ·refine R1 ?_;refine TC.cutG (α:=((List Tip))×((Option Addr)×Nat)) (rgs [(12,2),(75,18)]) (λg=>[]) (λg=>[ω aP (jB x0 aB aA ay aH aG au) 25,ω bK #[.int .i64 0,aW,aW,aW] 25,ω pJ #[.slice kP ((replicate x0.states.toNat (0:Int)).length) c107] 31,ε 3 1 ak (.slice kP (replicate x0.states.toNat (0:Int)).length c107) bM,ω Ai #[.int .i64 (gB:Int),.slice a167 bD.length c168,.slice g.2.1 g.1.length g.2.2,aW] 25,ε 79 2 bf (.slice a167 bD.length c168) bD,ε 79 2 bf (.slice g.2.1 g.1.length g.2.2) g.1]) (λg=>τ146) (λg=>Cz_ iY g.1=some z1/\bM.length=(replicate x0.states.toNat (0:Int)).length) ?_ (λg j hg=> ?_)
   ·refine R5 ?_;refine TL.al (λb218=> ?_);refine R7 ?_;obtain ⟨u83,hh⟩:=gd hh;refine TL.iS 4 z (λhs220=> ?_);refine R9 ?_;refine π z hh (λZu hh=> ?_) (λZu hh=> ?_)
    ·refine R7 ?_;refine φ z (jc (enc:=bf) [(⟨(nth bM (((nth x0.ends iY aY).state).toNat) 0),(nth x0.ends iY aY).out⟩:Tip)] (λa222 c223=> ?_));refine κ 8 ?_;obtain ⟨u95,hh⟩:=gd hh;refine φ z (apF (.inr ⟨_,0,z⟩) u95 (λSK c226=> ?_));refine ι z fL (κ 7 (R2 ?_));exact cf ((ji++[(⟨(nth bM (((nth x0.ends iY aY).state).toNat) 0),(nth x0.ends iY aY).out⟩:Tip)]),(SK,c226)) ⟨hh,wU⟩ (ψ [1,8,2,8,8,8,8] 7)
    refine R1 ?_;exact cf (ji,(a206,En)) ⟨hh,wU⟩ (ψ [7,7,7,7,7,7,7] 7)
   obtain ⟨l215,⟨a216,c217⟩⟩:=g;obtain ⟨hh,H7⟩:=hg
   try dsimp only at H7 ⊢
   dsimp only [Cz_]at hh;refine ζ 3 z (λWI=> ?_);refine ζ 5 z (λhb228=> ?_);refine ζ 6 z (λhb229=> ?_);refine R4 ?_;exact nk hR1 hh (a216,c217) (ψ [6,6,6,6,6,6,6] 7) H7
  refine R1 ?_;replace hh:=bJ hR1 hh;refine R10 ?_;refine TC.nilS 49 8 fP (TC.lk hh (nO,oO) (rgs [(15,3),(97,35)]) (λ⟨mW,dS⟩ ⟨Gm,FX⟩=>([(97,.int .i64 (dS:Int))],[ω bK #[.int .i64 0,aW,aW,aW] 25,ω pJ #[.slice kP ((replicate x0.states.toNat (0:Int)).length) c107] 31,ε 3 1 ak (.slice kP (replicate x0.states.toNat (0:Int)).length c107) bM,ω Ai #[.int .i64 (gB:Int),.slice a167 bD.length c168,.slice a206 ji.length En,.slice Gm mW.length FX] 25,ε 79 2 bf (.slice a167 bD.length c168) bD,ε 79 2 bf (.slice a206 ji.length En) ji,ε 49 8 fP (.slice Gm mW.length FX) mW])) (λ⟨_,_⟩ ⟨_,_⟩=>bM.length=(replicate x0.states.toNat (0:Int)).length) wU (ψ [7,7,7,7,7,7] 7) ?_);rintro ⟨mW,dS⟩ ⟨Gm,FX⟩ _ z1 hh hR1 H6;dsimp only [Fy_]at hh H6 ⊢;refine ζ 2 z (λhb251=> ?_);refine ζ 4 z (λhb252=> ?_);refine ζ 5 z (λhb253=> ?_);refine ζ 6 z (λhb254=> ?_);refine R5 ?_;refine π z hh (λh255 hh=> ?_) (λh255 hh=> ?_)
  ·refine R1 ?_;refine TC.cutG (α:=((List Arc))×((Option Addr)×Nat)) (rgs [(15,3),(99,32)]) (λg=>[]) (λg=>[ω bK #[.int .i64 0,aW,aW,aW] 25,ω pJ #[.slice kP ((replicate x0.states.toNat (0:Int)).length) c107] 31,ε 3 1 ak (.slice kP (replicate x0.states.toNat (0:Int)).length c107) bM,ω Ai #[.int .i64 (gB:Int),.slice a167 bD.length c168,.slice a206 ji.length En,.slice g.2.1 g.1.length g.2.2] 25,ε 79 2 bf (.slice a167 bD.length c168) bD,ε 79 2 bf (.slice a206 ji.length En) ji,ε 49 8 fP (.slice g.2.1 g.1.length g.2.2) g.1]) (λg=>τ146) (λg=>XA dS g.1=some z1/\bM.length=(replicate x0.states.toNat (0:Int)).length) ?_ (λg j hg=> ?_)
   ·refine R5 ?_;refine TL.al (λb260=> ?_);refine R3 ?_;obtain ⟨KO,hh⟩:=gd hh;obtain ⟨XY,hh⟩:=gd hh;refine TC.dw [] (χ 0 z lL z (ν 1 z fL z (χ 2 z lL z (TA.isSl (i:=3) z (λhs264 _ _=> ?_)))));refine χ 3 z iX z (χ 4 z o1 z (χ 5 z lL z (ν 6 z fL z (χ 7 z lL z (TA.isSl (i:=3) z (λhs265 _ _=> ?_))))));refine χ 8 z iX z (χ 9 z o1 z (ν 10 z mI z (ν 11 z mI z (R6 ?_))));refine δ 113 z (λFP=> ?_) (λFP=> ?_)
    ·obtain ⟨FP,hh⟩:=iT FP hh;refine R4 ?_;refine π z hh (λh267 hh=> ?_) (λh267 hh=> ?_)
     ·refine R12 ?_;refine φ z (jc (enc:=fP) [(⟨(nth bM (((nth x0.arcs dS aQ).frm).toNat) 0),(nth bM (((nth x0.arcs dS aQ).to).toNat) 0),(nth x0.arcs dS aQ).set,(nth x0.arcs dS aQ).out,(nth x0.arcs dS aQ).copy⟩:Arc)] (λAm Ag=> ?_));refine κ 8 ?_;obtain ⟨u139,hh⟩:=gd hh;refine φ z (apF (.inr ⟨_,0,z⟩) u139 (λa271 c272=> ?_));refine ι z fL (κ 6 (R2 ?_));exact cf ((mW++[(⟨(nth bM (((nth x0.arcs dS aQ).frm).toNat) 0),(nth bM (((nth x0.arcs dS aQ).to).toNat) 0),(nth x0.arcs dS aQ).set,(nth x0.arcs dS aQ).out,(nth x0.arcs dS aQ).copy⟩:Arc)]),(a271,c272)) ⟨hh,H6⟩ (ψ [1,8,8,3,8,8,8] 7)
     refine R1 ?_;exact cf (mW,(Gm,FX)) ⟨hh,H6⟩ (ψ [7,7,7,7,7,7,7] 7)
    obtain ⟨FP,hh⟩:=iF FP hh;refine R6 ?_;exact cf (mW,(Gm,FX)) ⟨hh,H6⟩ (ψ [7,7,7,7,7,7,7] 7)
   obtain ⟨l257,⟨a258,c259⟩⟩:=g;obtain ⟨hh,y5⟩:=hg
   try dsimp only at y5 ⊢
   dsimp only [XA]at hh;refine ζ 2 z (λhb273=> ?_);refine ζ 4 z (λhb274=> ?_);refine ζ 5 z (λhb275=> ?_);refine ζ 6 z (λWC=> ?_);refine R4 ?_;exact nk hR1 hh (a258,c259) (ψ [6,6,6,6,6,6,6] 7) y5
  refine R1 ?_;replace hh:=bJ hR1 hh;refine R4 ?_;refine κ 4 (TL.jO iV (λτ280 hle279 DV=> ?_));refine κ 4 (TL.jO iV (λτ283 Y8 LY=> ?_));replace DV:=DV.mono Y8;refine κ 4 (TL.jO IE (λτ286 MV hr284=> ?_));replace DV:=DV.mono MV;replace LY:=LY.mono MV;obtain ⟨v145,Qg,hh⟩:=bg hh;refine φ z (OpOk.call (Mz_ (x0:=(⟨(gB:Int),bD,ji,mW⟩:Fst)) DV LY hr284 Qg) z z pf40 z z z z ?_);rintro _ τ287 _ hle287 ⟨a287_1,c287_1,a287_2,c287_2,a287_3,c287_3,rfl,hr287_0,hr287_1,hr287_2,rfl⟩;have hr287_2b:=hr287_2.rv.big;refine R5 ?_;refine Ψ 1 ?_;obtain rfl:=so hh;exact rz
 intro m_ c_ hh hc_;exact jl_nil hc_
end Go.Proofs.YtcfgkcfcddfccaaGreatDoor
end

noncomputable section
namespace Go.E
open Go
def ES(k:IntKind)(a:Int)(b:Nat):Int:=a.fdiv (2 ^ min b k.bits)
theorem OpVal.shrI{P:Program}{n:Nat}{o:Oper}{e:Env}{σ:aj}{H:List Res}{x y:Operand}{T T':TypeId}{k k':IntKind}{a:Int}{b:Nat}(ho:o.op= .binOp .shr T x y T')(hx:ev e x= .int k a)(hy:ev e y= .int k' (b:Nat)):OpVal P n o e σ H (.int k (ES k a b)):=λw _=>by
  have h0: ¬ (b:Int)<0:=by omega
  simp only [execOp,ho,hx,hy,Sem.run_bind,f6_,Result.andThen_ok,binOp,Op.shift,h0,if_false,nI,ES];rfl
end Go.E
end
