/- Parts of a proof, one behind the other: what a machine reaches, functions decompiled, plain lemmas. Conditions stand with each lemma. -/
import Derived.Test.YtcfgkcfcddfccaaGreatDoorB436a4c84ed
import Derived.Test.YtcfgkcfcddfccaaGreatDoorB2a01e67502
import Derived.RangeFuncLeaves

set_option linter.unusedVariables false
set_option linter.unusedSimpArgs false
set_option linter.unusedSectionVars false
set_option maxRecDepth 100000
set_option maxHeartbeats 8000000
variable {ay aC aK bW cu d_:Option Go.Addr}{au aJ aF bV dZ b_:Nat}

noncomputable section
namespace Go.Proofs.YtcfgkcfcddfccaaGreatDoor
open Go Go.E Go.Sort
structure GoodCmp {α:Type} (c:α->α->Int):Prop where
  eq: ∀x y,c x y=0↔x=y
  anti: ∀x y,c x y<0↔0<c y x
  trans: ∀x y z,c x y<0->c y z<0->c x z<0
theorem GoodCmp.total{α:Type}{c:α->α->Int}(h:GoodCmp c):TotalCmp c where
  swo := {
    irrefl:=λx=>by have:=(h.eq x x).2 rfl;simp [ltOf,this]
    trans:=λx y z h1 h2=>by
      simp only [ltOf,dA]at *;exact h.trans x y z h1 h2
    ntrans:=λx y z h1 h2=>by
      simp only [ltOf,decide_eq_false_iff_not]at *;intro h3
      by_cases e1:x=y
      · subst e1;exact h2 h3
      by_cases e2:y=z
      · subst e2;exact h1 h3
      have n1:c x y≠0:=λe=>e1 ((h.eq _ _).1 e);have n2:c y z≠0:=λe=>e2 ((h.eq _ _).1 e);have h4:c z y<0:=(h.anti _ _).2 (by omega);exact h1 (h.trans _ _ _ h3 h4)}
  tot:=λx y h1 h2=>by
    simp only [ltOf,decide_eq_false_iff_not]at *;refine (h.eq x y).1 ?_;have:=(h.anti y x);omega
def kE(a b:Int):Int:=if a≠0 then a else b
theorem GoodCmp.lex {α β γ : Type} {c : β -> β -> Int} {d : γ -> γ -> Int} (hc : GoodCmp c) (hd : GoodCmp d) (f : α -> β) (g : α -> γ) (hfg : ∀ x y, f x = f y -> g x = g y -> x = y) : GoodCmp λx y => kE (c (f x) (f y)) (d (g x) (g y)) where
  eq x y:=by
    unfold kE
    by_cases h:c (f x) (f y)=0
    · have hf:=(hc.eq _ _).1 h
      simp only [h,ne_eq,not_true_eq_false,if_false,hd.eq];exact ⟨λhg=>hfg x y hf hg,λe=>by rw [e]⟩
    simp only [ne_eq,h,not_false_eq_true,if_true,false_iff];intro e;subst e;exact h ((hc.eq _ _).2 rfl)
  anti x y:=by
    unfold kE;have h1:=hc.anti (f x) (f y);have h2:=hc.anti (f y) (f x);have h3:=hd.anti (g x) (g y)
    by_cases h:c (f x) (f y)=0
    · have hf:=(hc.eq _ _).1 h
      have h':c (f y) (f x)=0:=(hc.eq _ _).2 hf.symm;simp only [h,h',ne_eq,not_true_eq_false,if_false];exact h3
    have h':c (f y) (f x)≠0:=λe=>h ((hc.eq _ _).2 ((hc.eq _ _).1 e).symm);simp only [h,h',ne_eq,not_false_eq_true,if_true];exact h1
  trans x y z := by
    unfold kE;intro h1 h2
    by_cases a:c (f x) (f y)=0
    · have ea:=(hc.eq _ _).1 a
      rw [a]at h1;simp only [ne_eq,not_true_eq_false,if_false]at h1;rw [ea]
      by_cases b:c (f y) (f z)=0
      · rw [b]at h2 ⊢
        simp only [ne_eq,not_true_eq_false,if_false]at h2 ⊢;exact hd.trans _ _ _ h1 h2
      simp only [ne_eq,b,not_false_eq_true,if_true]at h2 ⊢;exact h2
    simp only [ne_eq,a,not_false_eq_true,if_true]at h1
    by_cases b:c (f y) (f z)=0
    · have eb:=(hc.eq _ _).1 b
      rw [<-eb];simp only [ne_eq,a,not_false_eq_true,if_true];exact h1
    simp only [ne_eq,b,not_false_eq_true,if_true]at h2;have h3:=hc.trans _ _ _ h1 h2;have h4:c (f x) (f z)≠0:=by omega
    simp only [ne_eq,h4,not_false_eq_true,if_true];exact h3
def mO(x y:Int):Int:=if x<y then -1 else if y<x then 1 else 0
theorem Hq:GoodCmp mO where
  eq x y:=by unfold mO;(repeat' split)<;>omega
  anti x y:=by unfold mO;(repeat' split)<;>omega
  trans x y z:=by unfold mO;(repeat' split)<;>omega
def qZ(x y:Nat):Int:=if x<y then -1 else if y<x then 1 else 0
theorem jd_:GoodCmp qZ where
  eq x y:=by unfold qZ;(repeat' split)<;>omega
  anti x y:=by unfold qZ;(repeat' split)<;>omega
  trans x y z:=by unfold qZ;(repeat' split)<;>omega
theorem xz_: ∀a b:T_1,Lib.compareBytes a b=0↔a=b
  |[],[]=>by simp [Lib.compareBytes]
  |[],_::_=>by simp [Lib.compareBytes]
  |_::_,[]=>by simp [Lib.compareBytes]
  |x::a,y::b=>by
    simp only [Lib.compareBytes]
    split
    · rename_i h;simp;intro e;subst e;exact absurd h (UInt8.lt_irrefl _)
    rename_i h
    split
    · rename_i h';simp;intro e;subst e;exact absurd h' (UInt8.lt_irrefl _)
    rename_i h'
    have:x=y:=UInt8.le_antisymm (UInt8.not_lt.1 h') (UInt8.not_lt.1 h);subst this;simp [xz_ a b]
theorem r6_: ∀a b:T_1,Lib.compareBytes a b<0↔0<Lib.compareBytes b a
  |[],[]=>by simp [Lib.compareBytes]
  |[],_::_=>by simp [Lib.compareBytes]
  |_::_,[]=>by simp [Lib.compareBytes]
  | x :: a, y :: b => by
    simp only [Lib.compareBytes]
    by_cases h:x<y
    · have h': ¬ y<x:=λh2=>UInt8.lt_irrefl _ (UInt8.lt_trans h h2)
      simp [h,h']
    by_cases h':y<x
    · simp [h,h']
    simp [h,h',r6_ a b]
theorem pj_: ∀a b c:T_1,Lib.compareBytes a b<0->Lib.compareBytes b c<0->Lib.compareBytes a c<0
  |[],[],c,h,_=>by simp [Lib.compareBytes]at h
  |[],_::_,[],_,h=>by simp [Lib.compareBytes]at h
  |[],_::_,_::_,_,_=>by simp [Lib.compareBytes]
  |_::_,[],c,h,_=>by simp [Lib.compareBytes]at h
  |_::_,_::_,[],_,h=>by simp [Lib.compareBytes]at h
  | x :: a, y :: b, z :: c, h1, h2 => by
    simp only [Lib.compareBytes]at *
    by_cases hxy:x<y
    · by_cases hyz:y<z
      · have:=UInt8.lt_trans hxy hyz;simp [this]
      by_cases hzy:z<y
      · simp [hyz,hzy]at h2
      have:y=z:=UInt8.le_antisymm (UInt8.not_lt.1 hzy) (UInt8.not_lt.1 hyz);subst this;simp [hxy]
    by_cases hyx:y<x
    · simp [hxy,hyx]at h1
    have:x=y:=UInt8.le_antisymm (UInt8.not_lt.1 hyx) (UInt8.not_lt.1 hxy);subst this;simp only [UInt8.lt_irrefl,if_false]at h1
    by_cases hyz:x<z
    · simp [hyz]
    by_cases hzy:z<x
    · simp [hyz,hzy]at h2
    simp only [hyz,hzy,if_false]at h2 ⊢;exact pj_ a b c h1 h2
theorem nk_:GoodCmp Lib.compareBytes:=⟨xz_,r6_,pj_⟩
def oj_(x y:Bool):Int:=mO (if x then 1 else 0) (if y then 1 else 0)
theorem sa_:GoodCmp oj_ where
  eq x y:=by cases x<;>cases y<;>decide
  anti x y:=by cases x<;>cases y<;>decide
  trans x y z:=by cases x<;>cases y<;>cases z<;>decide
theorem qJ{k n:Nat}(h:k<n):decide (((k:Nat):Int)<((n:Nat):Int))=true:=decide_eq_true (by omega)
theorem MZ{x y:Int}:mO x y<0↔x<y:=by unfold mO;(repeat' split)<;>omega
theorem Gt_(x y:Int):Uk x y=some (mO x y):=by
  unfold Uk Iw_ mO;simp only [bnd,Option.bind_some,ne_eq,not_true_eq_false,decide_false,iteO_false]
  by_cases h:x<y
  · simp [h]
  by_cases h':y<x<;>simp [h,h']
theorem nm_(x y:Nat):k2_ x y=some (qZ x y):=by
  unfold k2_ r8_ qZ;simp only [bnd,Option.bind_some,ne_eq,not_true_eq_false,decide_false,iteO_false]
  by_cases h:x<y
  · simp [h]
  by_cases h':y<x<;>simp [h,h']
theorem Iz_(x y:T_1):Gc_ x y=some (Lib.compareBytes x y):=rfl
def orL:aj->Int
  |[]=>0
  |a::l=>kE a (orL l)
theorem L0_(l:aj): ∀m k,l.length=k+m->aV (λq:Nat=>H3_ l q) k=some (orL (l.drop k)):=by
  intro m
  induction m with
  |zero=>
    intro k hk;refine DU ?_;rw [List.drop_of_length_le (by omega)];simp only [H3_,decide_eq_false (show ¬ ((k:Nat):Int)<((l.length:Nat):Int) by omega),iteO_false];rfl
  |succ m ih=>
    intro k hk;have hlt:k<l.length:=by omega
    have hd:l.drop k=nth l k 0::l.drop (k+1):=by
      rw [List.drop_eq_getElem_cons hlt];have:=getD_some l hlt 0;rw [List.getElem?_eq_getElem hlt,Option.some.injEq]at this;rw [this]
    rw [hd,orL,kE]
    by_cases h:nth l k 0≠0
    · rw [if_pos h]
      refine DU ?_;simp only [H3_,decide_eq_true (show ((k:Nat):Int)<((l.length:Nat):Int) by omega),iteO_true,decide_eq_true h];rfl
    rw [if_neg h];refine Nh (s':=k+1) ?_ (ih (k+1) (by omega));simp only [H3_,decide_eq_true (show ((k:Nat):Int)<((l.length:Nat):Int) by omega),iteO_true,decide_eq_false h];rfl
theorem Lg_(l:aj):J2_ l=some (orL l):=by
  unfold J2_;rw [L0_ l l.length 0 (by omega),List.drop_zero]
def G_(x y:Tip):Int:=kE (mO x.state y.state) (kE (Lib.compareBytes x.out y.out) 0)
theorem ou_(x y:Tip):Hc_ x y=some (G_ x y):=by
  unfold Hc_;rw [iy (Gt_ _ _),iy (Iz_ _ _),iy (Lg_ _)];rfl
theorem n9_(a:Int):kE a 0=a:=by unfold kE;split<;>omega
theorem hm_:GoodCmp G_:=by
  have:=GoodCmp.lex Hq nk_ Tip.state Tip.out (λx y h1 h2=>by cases x;cases y;simp_all);have e:G_=λx y=>kE (mO x.state y.state) (Lib.compareBytes x.out y.out):=by
    funext x y;unfold G_;rw [n9_]
  rw [e];exact this
def t9_(s t:BSet):Int:=kE (qZ s.a t.a) (kE (qZ s.b t.b) (kE (qZ s.c t.c) (qZ s.d t.d)))
theorem o2_(a b c d a' b' c' d':Nat):lf_ [a,b,c,d] [a',b',c',d']=some (kE (qZ a a') (kE (qZ b b') (kE (qZ c c') (qZ d d')))):=by
  have st: ∀(k x y:Nat),k<4->nth [a,b,c,d] k 0=x->nth [a',b',c',d'] k 0=y->(qZ x y≠0->aV (λq:Nat=>Lr [a,b,c,d] [a',b',c',d'] q) k=some (qZ x y))/\(∀r,qZ x y=0->aV (λq:Nat=>Lr [a,b,c,d] [a',b',c',d'] q) (k+1)=some r->aV (λq:Nat=>Lr [a,b,c,d] [a',b',c',d'] q) k=some r):=by
    intro k x y hk hx hy;have e1:((k:Nat):Int)<(([a,b,c,d].length:Nat):Int):=by simp;omega
    have e2: ¬ (([a',b',c',d'].length:Nat):Int)<=((k:Nat):Int):=by simp;omega
    refine ⟨λh=>DU ?_,λr h hr=>Nh (s':=k+1) ?_ hr⟩
    · simp only [Lr,decide_eq_true e1,iteO_true,decide_eq_false e2,iteO_false]
      rw [aQ (by simp;omega),hx,hy,iy (nm_ _ _),decide_eq_true h];rfl
    simp only [Lr,decide_eq_true e1,iteO_true,decide_eq_false e2,iteO_false];rw [aQ (by simp;omega),hx,hy,iy (nm_ _ _),h];rfl
  have fi:aV (λq:Nat=>Lr [a,b,c,d] [a',b',c',d'] q) 4=some 0:=DU (by simp [Lr]);have go: ∀(k x y:Nat) (r:Int),k<4->nth [a,b,c,d] k 0=x->nth [a',b',c',d'] k 0=y->aV (λq:Nat=>Lr [a,b,c,d] [a',b',c',d'] q) (k+1)=some r->aV (λq:Nat=>Lr [a,b,c,d] [a',b',c',d'] q) k=some (kE (qZ x y) r):=by
    intro k x y r hk hx hy hr;obtain ⟨h1,h2⟩:=st k x y hk hx hy
    by_cases h:qZ x y=0
    · rw [show kE (qZ x y) r=r from by simp [kE,h]];exact h2 r h hr
    rw [show kE (qZ x y) r=qZ x y from by simp [kE,h]];exact h1 h
  have h3:=go 3 d d' 0 (by omega) rfl rfl fi;rw [n9_]at h3;exact go 0 a a' _ (by omega) rfl rfl (go 1 b b' _ (by omega) rfl rfl (go 2 c c' _ (by omega) rfl rfl h3))
theorem sq_:GoodCmp t9_:=by
  have h1:=GoodCmp.lex (α:=Nat×Nat) jd_ jd_ Prod.fst Prod.snd (λx y h1 h2=>Prod.ext h1 h2);have h2:=GoodCmp.lex (α:=Nat×Nat×Nat) jd_ h1 Prod.fst Prod.snd (λx y h1 h2=>Prod.ext h1 h2);have h3:=GoodCmp.lex (α:=BSet) jd_ h2 BSet.a (λs=>(s.b,s.c,s.d)) (λx y h1 h2=>by
    cases x;cases y;simp_all)
  exact h3
def He(x y:Arc):Int:=kE (mO x.frm y.frm) (kE (mO x.to y.to) (kE (t9_ x.set y.set) (kE (Lib.compareBytes x.out y.out) (kE (oj_ x.copy y.copy) 0))))
theorem Kf_(b:Bool):Ig_ b=some (if b then 1 else 0):=by cases b<;>rfl
theorem o0_(x y:Arc):Ha_ x y=some (He x y):=by
  unfold Ha_;rw [iy (Gt_ _ _),iy (Gt_ _ _),iy (o2_ ..),iy (Iz_ _ _),iy (Kf_ _),iy (Kf_ _),iy (Gt_ _ _),iy (Lg_ _)];rfl
theorem iy_:GoodCmp He:=by
  have h1:=GoodCmp.lex (α:=T_1×Bool) nk_ sa_ Prod.fst Prod.snd (λx y h1 h2=>Prod.ext h1 h2);have h2:=GoodCmp.lex (α:=BSet×T_1×Bool) sq_ h1 Prod.fst Prod.snd (λx y h1 h2=>Prod.ext h1 h2);have h3:=GoodCmp.lex (α:=Int×BSet×T_1×Bool) Hq h2 Prod.fst Prod.snd (λx y h1 h2=>Prod.ext h1 h2);have h4:=GoodCmp.lex (α:=Arc) Hq h3 Arc.frm (λs=>(s.to,s.set,s.out,s.copy)) (λx y h1 h2=>by
    cases x;cases y;simp_all)
  have e:He=λx y=>kE (mO x.frm y.frm) (kE (mO x.to y.to) (kE (t9_ x.set y.set) (kE (Lib.compareBytes x.out y.out) (oj_ x.copy y.copy)))):=by
    funext x y;unfold He;rw [n9_]
  rw [e];exact h4
end Go.Proofs.YtcfgkcfcddfccaaGreatDoor
end

noncomputable section
namespace Go.Proofs.YtcfgkcfcddfccaaGreatDoor
open Go Go.E
instance:Inhabited Tip:=⟨bD⟩
instance:Inhabited Arc:=⟨aO⟩
theorem Mf_{σ:ak}{a:Option Addr}{c:Nat}{l:aj}:Con Tryz.prog 188 #[.slice a l.length c,.func (.func 143) #[] #[]] σ [ε 3 1 aB (.slice a l.length c) l] (Vh 3 1 aB a c l (uh mO l) σ):=
  Con.sort1 (enc:=lN) layI layI0 rfl (λ_=>rfl) (λ_=>rfl) Hq.total (λargs w=>ZY (by kernel_rfl) args w) (λx y τ=>Gf_ (Gt_ x y))
theorem Me_{σ:ak}{a:Option Addr}{c:Nat}{l:List Tip}:Con Tryz.prog 157 #[.slice a l.length c,.func (.func 100) #[] #[]] σ [ε 79 2 bg (.slice a l.length c) l] (Vh 79 2 bg a c l (uh G_ l) σ):=
  Con.sortK (k:=2) layT0 rfl Tryz.isAgg79 Tryz.sizeOf79 yj jz_ hm_.total (λargs w=>ZY (by kernel_rfl) args w) (λx y τ=>Kh_ (ou_ x y))
theorem Md_{σ:ak}{a:Option Addr}{c:Nat}{l:List Arc}:Con Tryz.prog 162 #[.slice a l.length c,.func (.func 102) #[] #[]] σ [ε 49 8 dG (.slice a l.length c) l] (Vh 49 8 dG a c l (uh He l) σ):=
  Con.sortK (k:=8) layA0 rfl Tryz.isAgg49 Tryz.sizeOf49 EM jt_ iy_.total (λargs w=>ZY (by kernel_rfl) args w) (λx y τ=>Ki_ (o0_ x y))
end Go.Proofs.YtcfgkcfcddfccaaGreatDoor
end

noncomputable section
namespace Go.Proofs.YtcfgkcfcddfccaaGreatDoor
open Go Go.E Go.E.OpVal Go.E.OpOk Go.Proofs.Tryz
open List (replicate)
theorem xj_:aggOf Tryz.prog 25=some true:=by kernel_rfl
theorem ag65:aggOf Tryz.prog 65=some true:=by kernel_rfl
theorem by129:byOf Tryz.prog 129=some 48:=by kernel_rfl
theorem by49:byOf Tryz.prog 49=some 72:=by kernel_rfl
theorem by79:byOf Tryz.prog 79=some 24:=by kernel_rfl
theorem OY:Tryz.prog.eqGuardType Tryz.prog.depth 49=false:=by kernel_rfl
theorem OX:Tryz.prog.eqGuardType Tryz.prog.depth 79=false:=by kernel_rfl
theorem OV(x y:Arc):Go.E.EqAt Tryz.prog 3 49 (.agg (dG x).toArray) (.agg (dG y).toArray) (decide (x=y)):=
 (EqAt.struct (ts:=[(false,3,0),(false,3,1),(false,47,2),(false,9,6),(false,4,7)]) (by kernel_rfl) (by kernel_rfl) (by kernel_rfl) (EqC.one (by kernel_rfl) rfl rfl (EqAt.int zV x.frm y.frm |>.up (by decide)) (EqC.one (by kernel_rfl) rfl rfl (EqAt.int zV x.to y.to |>.up (by decide)) (EqC.agg (s:=4) (us:=Go.E.setA x.set) (vs:=Go.E.setA y.set) (by kernel_rfl) (by kernel_rfl) rfl rfl (EqAt.set D8 NI (by kernel_rfl) (by kernel_rfl) x.set y.set) (EqC.one (by kernel_rfl) rfl rfl (EqAt.str vU x.out y.out |>.up (by decide)) (EqC.one (by kernel_rfl) rfl rfl (EqAt.bool underlying4 x.copy y.copy |>.up (by decide)) EqC.nil)))))).of (by rw [Bool.eq_iff_iff];cases x;cases y;simp)
theorem OU(x y:Tip):Go.E.EqAt Tryz.prog 2 79 (.agg (bg x).toArray) (.agg (bg y).toArray) (decide (x=y)):=
 (EqAt.struct (ts:=[(false,3,0),(false,9,1)]) (by kernel_rfl) (by kernel_rfl) (by kernel_rfl) (EqC.one (by kernel_rfl) rfl rfl (EqAt.int zV x.state y.state) (EqC.one (by kernel_rfl) rfl rfl (EqAt.str vU x.out y.out) EqC.nil))).of (by rw [Bool.eq_iff_iff];cases x;cases y;simp)
theorem pf101:plainF Tryz.prog 101=true:=by kernel_rfl
theorem pf132:plainF Tryz.prog 132=true:=by kernel_rfl
theorem pf142:plainF Tryz.prog 142=true:=by kernel_rfl
theorem pf157:plainF Tryz.prog 157=true:=by kernel_rfl
theorem pf158:plainF Tryz.prog 158=true:=by kernel_rfl
theorem pf161:plainF Tryz.prog 161=true:=by kernel_rfl
theorem pf162:plainF Tryz.prog 162=true:=by kernel_rfl
theorem pf163:plainF Tryz.prog 163=true:=by kernel_rfl
theorem pf188:plainF Tryz.prog 188=true:=by kernel_rfl
theorem Qn:plainF Tryz.prog 21=true:=by kernel_rfl
theorem Jj:plainF Tryz.prog 81=true:=by kernel_rfl
theorem pf99:plainF Tryz.prog 99=true:=by kernel_rfl
theorem pl129:plOf Tryz.prog 129=some #[(0,1),(1,1),(2,4)]:=by kernel_rfl
theorem w9_:plOf Tryz.prog 25=some #[(0,1),(1,1),(2,1),(3,1)]:=by kernel_rfl
theorem pl65:plOf Tryz.prog 65=some #[(0,1),(1,1),(2,1),(3,1)]:=by kernel_rfl
theorem Vq:szOf Tryz.prog 25=some 4:=by kernel_rfl
theorem Va:szOf Tryz.prog 65=some 4:=by kernel_rfl
theorem y3_:zeroOf Tryz.prog 25=some (.agg #[.int .i64 0,aT,aT,aT]):=by kernel_rfl
theorem U7:zeroOf Tryz.prog 65=some (.agg #[.int .i64 0,aT,aT,aT]):=by kernel_rfl
theorem L6_{σ:ak}{a:Option Addr}{c:Nat}{l:List Tip}(hl:RS σ 2 bg (.slice a l.length c) l)(hsz:l.length * 24<=140737488355328):
  Con prog 132 #[.slice a l.length c] σ [] (RowP 79 2 bg l σ):=by
 have hb:=hl.rv.big;refine cM 8 Tryz.func132 (λw0=> ?_);refine R3 ?_;refine TL.nilS 79 2 bg (R5 ?_);refine TL.w z (b3_ z Ic z z) (R1 ?_);refine TC.cond z (λh2=> ?_) (λh2=> ?_)
 ·refine R3 ?_;refine TL.nilS 79 2 bg (R1 ?_);refine θ ?_;cases a with
  |some _=>simp at h2
  |none=>
   obtain rfl:=hl.bz_;exact Zq z z
 refine R3 ?_;refine κ z (Vy (enc:=bg) z z Ic Il z z (λa4 c5=> ?_));refine TL.s z z (κ z (Z_ z z Ic Il by79 wa_ z z (by decide) z z z (.inl hl) (by simpa using hsz) (by decide) (λa7 c8=> ?_)));refine R2 ?_;exact θ (Zq z z)
def Is_(bP:Nat)(yX:List Tip)(jK:Nat):Option (((List Tip)×Nat×Nat)⊕((Nat)⊕((List Tip)))):=
 nxt (yX,jK,(bP+1))
def Kx_(x0:List Tip)(aZ:Nat)(bG:List Tip)(aU:Nat)(bP:Nat):Option (((List Tip)×Nat×Nat)⊕((Nat)⊕((List Tip)))):=
 aI (decide ((bP:Int)<(((x0.length - aZ):Nat):Int))) (grd (bP<(x0.length - aZ)) (grd (0<=(IntKind.i64.wrap ((bP:Int) - 1))/\(IntKind.i64.wrap ((bP:Int) - 1))<((x0.length - aZ):Nat)) (aI (decide (¬ ((nth bG (aZ+bP) bD)=(nth bG (aZ+(IntKind.i64.wrap ((bP:Int) - 1)).toNat) bD)))) (grd (bP<(x0.length - aZ)) (grd (aU<bG.length) (Is_ bP (bG.set aU (nth bG (aZ+bP) bD)) (aU+1)))) (Is_ bP bG aU)))) (fin (grd (aU<=x0.length) (grd (aU<=(bG.take aU++replicate (bG.length - aU) bD).length) (fin (some ((bG.take aU++replicate (bG.length - aU) bD).take aU))))))
def Ku_(x0:List Tip)(aZ:Nat):Option ((Nat)⊕((List Tip))):=
 aI (decide ((aZ:Int)<(x0.length:Int))) (grd (0<=(IntKind.i64.wrap ((aZ:Int) - 1))/\(IntKind.i64.wrap ((aZ:Int) - 1))<(x0.length:Int)) (aI (decide ((nth x0 aZ bD)=(nth x0 ((IntKind.i64.wrap ((aZ:Int) - 1)).toNat) bD))) (grd (aZ<=x0.length) (aV (λq:(List Tip)×Nat×Nat=>Kx_ x0 aZ q.1 q.2.1 q.2.2) (x0,aZ,1))) (nxt (aZ+1)))) (fin (some x0))
def ne_(x0:List Tip):Option ((List Tip)):=
 aI (decide ((x0.length:Int)<2)) (some x0) (aV (λq:Nat=>Ku_ x0 q) 1)
theorem Ly_{σ:ak}{x0:List Tip}{r:(List Tip)}(hh:ne_ x0=some r):
  Con prog 158 #[.slice aC x0.length aF] σ [ε 79 2 bg (.slice aC x0.length aF) x0] (λv σ' H'=> ∃a1 c1,v= .slice a1 r.length c1/\σ=σ'/\H'=[ε 79 2 bg (.slice a1 r.length c1) r]):=by
 dsimp only [ne_]at hh;refine cM 61 Tryz.func158 (λw0=> ?_);refine R11 ?_;refine ι z hh (λAA hh=> ?_) (λAA hh=> ?_)
 ·refine R5 ?_;refine θ ?_;obtain rfl:=so hh;exact rz
 refine R7 ?_;refine TC.lp hh () (rgs [(2,4),(10,50)]) (λaZ _=>([(3,.int .i64 (aZ:Int))],[ε 79 2 bg (.slice aC x0.length aF) x0])) (ζ 1 z) ?_;rintro aZ _ _ z1 hh hR1;dsimp only [Ku_]at hh ⊢;refine ξ 0 z (λTP=> ?_);refine R8 ?_;refine ι z hh (λfB hh=> ?_) (λfB hh=> ?_)
 ·refine R4 ?_;obtain ⟨DY,hh⟩:=gd hh;refine TC.draw [] (by kernel_rfl) (ν 0 z mS z (ν 1 z mI z (TA.isSl (i:=0) z (λRq _ _=> ?_))));refine Δ 2 z iN z (Δ 3 z oT z (ν 4 z mS z (ν 5 z mI z (ν 6 z (subW z z z) z (TA.isSl (i:=0) z (λRo _ _=> ?_))))));refine Δ 7 z iX z (Δ 8 z oT z (ν 9 z (da_ (p:=(nth x0 aZ bD)=(nth x0 ((IntKind.i64.wrap ((aZ:Int) - 1)).toNat) bD)) z z z OX (OU (nth x0 aZ bD) (nth x0 ((IntKind.i64.wrap ((aZ:Int) - 1)).toNat) bD)) z) z (R1 ?_)));refine ι z hh (λh112 hh=> ?_) (λh112 hh=> ?_)
  ·refine R4 ?_;obtain ⟨u24,hh⟩:=gd hh;refine TL.iS 0 z (λBX=> ?_);obtain ⟨dD,yA,hv113,CJ⟩:=Zp (k:=aZ) (size:=2) BX (by omega);refine TL.w z (CJ z Ic Il z z) (R8 ?_);refine TC.lk hh () (rgs [(3,1),(5,1),(29,25)]) (λ⟨bG,aU,bP⟩ _=>([(3,.int .i64 (aU:Int)),(5,.int .i64 (bP:Int))],[ε 79 2 bg (.slice aC x0.length aF) bG])) (λ⟨bG,_,_⟩ _=>bG.length=x0.length) z (ζ 1 z) ?_;rintro ⟨bG,aU,bP⟩ _ _ z2 hh hR2 jG;dsimp only [Kx_]at hh jG ⊢;refine ξ 0 z (λGt=> ?_);refine R8 ?_;refine ι z hh (λh127 hh=> ?_) (λh127 hh=> ?_)
   ·refine R1 ?_;refine TC.cutG (α:=((List Tip)×Nat)×(Unit)) (rgs [(3,1),(35,19)]) (λg=>[(3,.int .i64 (g.1.2:Int))]) (λg=>[ε 79 2 bg (.slice aC x0.length aF) g.1.1]) (λg=>σ) (λg=>Is_ bP g.1.1 g.1.2=some z2/\g.1.1.length=x0.length) ?_ (λg j hg=> ?_)
    ·refine R2 ?_;obtain ⟨u33,hh⟩:=gd hh;obtain ⟨u38,hh⟩:=gd hh;refine TC.draw [] (by kernel_rfl) (ν 0 z mS z (ν 1 z mI z (Δ 2 z (elVw hv113 (by omega) (zk z Ic Il z z hv113.sl (by omega))) z (Δ 3 z oT z (ν 4 z mS z (ν 5 z mI z (ν 6 z (subW z z z) z (Δ 7 z (elVw hv113 (by omega) (OpVal.index z Ic Il z z hv113.sl u38.1 u38.2)) z (Δ 8 z oT z (ν 9 z (c2_ (p:=(nth bG (aZ+bP) bD)=(nth bG (aZ+(IntKind.i64.wrap ((bP:Int) - 1)).toNat) bD)) z z z OX (OU (nth bG (aZ+bP) bD) (nth bG (aZ+(IntKind.i64.wrap ((bP:Int) - 1)).toNat) bD)) z) z (R1 ?_)))))))))));refine ι z hh (λmG hh=> ?_) (λmG hh=> ?_)
     ·refine R6 ?_;obtain ⟨u45,hh⟩:=gd hh;refine TL.w z (elVw hv113 (by omega) (zk z Ic Il z z hv113.sl (by omega))) (TL.w z oT ?_);obtain ⟨DX,hh⟩:=gd hh;refine TL.iS 0 z (λJy=> ?_);refine TL.w z iN ?_;have CX:(bG.set aU (nth bG (aZ+bP) bD)).length=x0.length:=by rw [eX];exact jG
      refine κ z (qp (nth bG (aZ+bP) bD) z Il z z z z yj jz_ (by omega) (by omega) ?_);refine R6 ?_;exact cf (((bG.set aU (nth bG (aZ+bP) bD)),(aU+1)),()) ⟨hh,CX⟩ (ζ 1 z)
     refine R1 ?_;exact cf ((bG,aU),()) ⟨hh,jG⟩ (ζ 1 z)
    obtain ⟨⟨yX,jK⟩,_⟩:=g;obtain ⟨hh,vK⟩:=hg
    try dsimp only at vK ⊢
    dsimp only [Is_]at hh;refine ξ 0 z (λKZ=> ?_);refine R5 ?_;exact nk hR2 hh () (ζ 1 z) vK
   refine R1 ?_;replace hh:=bF hR2 hh;refine R5 ?_;obtain ⟨NM,hh⟩:=gd hh;refine TL.iS 0 z (λvw=> ?_);rw [jG]at vw;obtain ⟨H_,rZ,BR,CG⟩:=Zp (k:=aU) (size:=2) vw (by omega);refine TL.w z (CG z Ic Il z z) ?_;have vI:(bG.take aU++replicate (bG.length - aU) bD).length=x0.length:=by simp only [gu,List.length_take,lq];(try simp only [lq]at *);omega
   refine κ z (cy_ (k:=aU) bD z Ic wa_ z z BR (by omega) (by omega) yj (by decide) z jz_ ?_);refine R5 ?_;rw [<-vI];obtain ⟨u61,hh⟩:=gd hh;refine κ z (cutS z Ic Il z z z z z (by omega) yj ?_);refine R2 ?_;refine θ ?_;replace hh:=bF hR1 hh;obtain rfl:=so hh;exact rz
  refine R6 ?_;exact nx hR1 hh () (ζ 1 z)
 refine R1 ?_;replace hh:=bF hR1 hh;refine R6 ?_;refine θ ?_;obtain rfl:=so hh;exact rz
theorem L5_{σ:ak}{a:Option Addr}{c:Nat}{l:List Arc}(hl:RS σ 8 dG (.slice a l.length c) l)(hsz:l.length * 72<=140737488355328):
  Con prog 161 #[.slice a l.length c] σ [] (RowP 49 8 dG l σ):=by
 have hb:=hl.rv.big;refine cM 8 Tryz.func161 (λw0=> ?_);refine R3 ?_;refine TL.nilS 49 8 dG (R5 ?_);refine TL.w z (b3_ z Ih z z) (R1 ?_);refine TC.cond z (λh2=> ?_) (λh2=> ?_)
 ·refine R3 ?_;refine TL.nilS 49 8 dG (R1 ?_);refine θ ?_;cases a with
  |some _=>simp at h2
  |none=>
   obtain rfl:=hl.bz_;exact Zq z z
 refine R3 ?_;refine κ z (Vy (enc:=dG) z z Ih Io z z (λa4 c5=> ?_));refine TL.s z z (κ z (Z_ z z Ih Io by49 wg_ z z (by decide) z z z (.inl hl) (by simpa using hsz) (by decide) (λa7 c8=> ?_)));refine R2 ?_;exact θ (Zq z z)
def Ir_(bP:Nat)(yX:List Arc)(jK:Nat):Option (((List Arc)×Nat×Nat)⊕((Nat)⊕((List Arc)))):=
 nxt (yX,jK,(bP+1))
def Kw_(x0:List Arc)(aZ:Nat)(bG:List Arc)(aU:Nat)(bP:Nat):Option (((List Arc)×Nat×Nat)⊕((Nat)⊕((List Arc)))):=
 aI (decide ((bP:Int)<(((x0.length - aZ):Nat):Int))) (grd (bP<(x0.length - aZ)) (grd (0<=(IntKind.i64.wrap ((bP:Int) - 1))/\(IntKind.i64.wrap ((bP:Int) - 1))<((x0.length - aZ):Nat)) (aI (decide (¬ ((nth bG (aZ+bP) aO)=(nth bG (aZ+(IntKind.i64.wrap ((bP:Int) - 1)).toNat) aO)))) (grd (bP<(x0.length - aZ)) (grd (aU<bG.length) (Ir_ bP (bG.set aU (nth bG (aZ+bP) aO)) (aU+1)))) (Ir_ bP bG aU)))) (fin (grd (aU<=x0.length) (grd (aU<=(bG.take aU++replicate (bG.length - aU) aO).length) (fin (some ((bG.take aU++replicate (bG.length - aU) aO).take aU))))))
def Kz_(x0:List Arc)(aZ:Nat):Option ((Nat)⊕((List Arc))):=
 aI (decide ((aZ:Int)<(x0.length:Int))) (grd (0<=(IntKind.i64.wrap ((aZ:Int) - 1))/\(IntKind.i64.wrap ((aZ:Int) - 1))<(x0.length:Int)) (aI (decide ((nth x0 aZ aO)=(nth x0 ((IntKind.i64.wrap ((aZ:Int) - 1)).toNat) aO))) (grd (aZ<=x0.length) (aV (λq:(List Arc)×Nat×Nat=>Kw_ x0 aZ q.1 q.2.1 q.2.2) (x0,aZ,1))) (nxt (aZ+1)))) (fin (some x0))
def ni_(x0:List Arc):Option ((List Arc)):=
 aI (decide ((x0.length:Int)<2)) (some x0) (aV (λq:Nat=>Kz_ x0 q) 1)
theorem Ls_{σ:ak}{x0:List Arc}{r:(List Arc)}(hh:ni_ x0=some r):
  Con prog 163 #[.slice aC x0.length aF] σ [ε 49 8 dG (.slice aC x0.length aF) x0] (λv σ' H'=> ∃a1 c1,v= .slice a1 r.length c1/\σ=σ'/\H'=[ε 49 8 dG (.slice a1 r.length c1) r]):=by
 dsimp only [ni_]at hh;refine cM 61 Tryz.func163 (λw0=> ?_);refine R11 ?_;refine ι z hh (λAA hh=> ?_) (λAA hh=> ?_)
 ·refine R5 ?_;refine θ ?_;obtain rfl:=so hh;exact rz
 refine R7 ?_;refine TC.lp hh () (rgs [(2,4),(10,50)]) (λaZ _=>([(3,.int .i64 (aZ:Int))],[ε 49 8 dG (.slice aC x0.length aF) x0])) (ζ 1 z) ?_;rintro aZ _ _ z1 hh hR1;dsimp only [Kz_]at hh ⊢;refine ξ 0 z (λTP=> ?_);refine R8 ?_;refine ι z hh (λfB hh=> ?_) (λfB hh=> ?_)
 ·refine R4 ?_;obtain ⟨DY,hh⟩:=gd hh;refine TC.draw [] (by kernel_rfl) (ν 0 z mS z (ν 1 z mI z (TA.isSl (i:=0) z (λRq _ _=> ?_))));refine Δ 2 z iN z (Δ 3 z oT z (ν 4 z mS z (ν 5 z mI z (ν 6 z (subW z z z) z (TA.isSl (i:=0) z (λRo _ _=> ?_))))));refine Δ 7 z iX z (Δ 8 z oT z (ν 9 z (da_ (p:=(nth x0 aZ aO)=(nth x0 ((IntKind.i64.wrap ((aZ:Int) - 1)).toNat) aO)) z z z OY (OV (nth x0 aZ aO) (nth x0 ((IntKind.i64.wrap ((aZ:Int) - 1)).toNat) aO)) z) z (R1 ?_)));refine ι z hh (λh112 hh=> ?_) (λh112 hh=> ?_)
  ·refine R4 ?_;obtain ⟨u24,hh⟩:=gd hh;refine TL.iS 0 z (λBX=> ?_);obtain ⟨dD,yA,hv113,CJ⟩:=Zp (k:=aZ) (size:=8) BX (by omega);refine TL.w z (CJ z Ih Io z z) (R8 ?_);refine TC.lk hh () (rgs [(3,1),(5,1),(29,25)]) (λ⟨bG,aU,bP⟩ _=>([(3,.int .i64 (aU:Int)),(5,.int .i64 (bP:Int))],[ε 49 8 dG (.slice aC x0.length aF) bG])) (λ⟨bG,_,_⟩ _=>bG.length=x0.length) z (ζ 1 z) ?_;rintro ⟨bG,aU,bP⟩ _ _ z2 hh hR2 jG;dsimp only [Kw_]at hh jG ⊢;refine ξ 0 z (λGt=> ?_);refine R8 ?_;refine ι z hh (λh127 hh=> ?_) (λh127 hh=> ?_)
   ·refine R1 ?_;refine TC.cutG (α:=((List Arc)×Nat)×(Unit)) (rgs [(3,1),(35,19)]) (λg=>[(3,.int .i64 (g.1.2:Int))]) (λg=>[ε 49 8 dG (.slice aC x0.length aF) g.1.1]) (λg=>σ) (λg=>Ir_ bP g.1.1 g.1.2=some z2/\g.1.1.length=x0.length) ?_ (λg j hg=> ?_)
    ·refine R2 ?_;obtain ⟨u33,hh⟩:=gd hh;obtain ⟨u38,hh⟩:=gd hh;refine TC.draw [] (by kernel_rfl) (ν 0 z mS z (ν 1 z mI z (Δ 2 z (elVw hv113 (by omega) (zk z Ih Io z z hv113.sl (by omega))) z (Δ 3 z oT z (ν 4 z mS z (ν 5 z mI z (ν 6 z (subW z z z) z (Δ 7 z (elVw hv113 (by omega) (OpVal.index z Ih Io z z hv113.sl u38.1 u38.2)) z (Δ 8 z oT z (ν 9 z (c2_ (p:=(nth bG (aZ+bP) aO)=(nth bG (aZ+(IntKind.i64.wrap ((bP:Int) - 1)).toNat) aO)) z z z OY (OV (nth bG (aZ+bP) aO) (nth bG (aZ+(IntKind.i64.wrap ((bP:Int) - 1)).toNat) aO)) z) z (R1 ?_)))))))))));refine ι z hh (λmG hh=> ?_) (λmG hh=> ?_)
     ·refine R6 ?_;obtain ⟨u45,hh⟩:=gd hh;refine TL.w z (elVw hv113 (by omega) (zk z Ih Io z z hv113.sl (by omega))) (TL.w z oT ?_);obtain ⟨DX,hh⟩:=gd hh;refine TL.iS 0 z (λJy=> ?_);refine TL.w z iN ?_;have CX:(bG.set aU (nth bG (aZ+bP) aO)).length=x0.length:=by rw [eX];exact jG
      refine κ z (qp (nth bG (aZ+bP) aO) z Io z z z z EM jt_ (by omega) (by omega) ?_);refine R6 ?_;exact cf (((bG.set aU (nth bG (aZ+bP) aO)),(aU+1)),()) ⟨hh,CX⟩ (ζ 1 z)
     refine R1 ?_;exact cf ((bG,aU),()) ⟨hh,jG⟩ (ζ 1 z)
    obtain ⟨⟨yX,jK⟩,_⟩:=g;obtain ⟨hh,vK⟩:=hg
    try dsimp only at vK ⊢
    dsimp only [Ir_]at hh;refine ξ 0 z (λKZ=> ?_);refine R5 ?_;exact nk hR2 hh () (ζ 1 z) vK
   refine R1 ?_;replace hh:=bF hR2 hh;refine R5 ?_;obtain ⟨NM,hh⟩:=gd hh;refine TL.iS 0 z (λvw=> ?_);rw [jG]at vw;obtain ⟨H_,rZ,BR,CG⟩:=Zp (k:=aU) (size:=8) vw (by omega);refine TL.w z (CG z Ih Io z z) ?_;have vI:(bG.take aU++replicate (bG.length - aU) aO).length=x0.length:=by simp only [gu,List.length_take,lq];(try simp only [lq]at *);omega
   refine κ z (cy_ (k:=aU) aO z Ih wg_ z z BR (by omega) (by omega) EM (by decide) z jt_ ?_);refine R5 ?_;rw [<-vI];obtain ⟨u61,hh⟩:=gd hh;refine κ z (cutS z Ih Io z z z z z (by omega) EM ?_);refine R2 ?_;refine θ ?_;replace hh:=bF hR1 hh;obtain rfl:=so hh;exact rz
  refine R6 ?_;exact nx hR1 hh () (ζ 1 z)
 refine R1 ?_;replace hh:=bF hR1 hh;refine R6 ?_;refine θ ?_;obtain rfl:=so hh;exact rz
def yf_(x0:aj):Option (aj):=
 grd (x0.length * 8<=140737488355328) (bnd (ZH (uh mO x0)) (λv9=>some v9))
theorem Mb_{σ:ak}{x0:aj}(aA:dV σ aB ay au x0){r:aj}(hh:yf_ x0=some r):
  Con prog 142 #[.slice ay x0.length au,.func (.func 143) #[] #[]] σ [] (TV σ r):=by
 dsimp only [yf_]at hh;refine cM 13 Tryz.func142 (λw0=> ?_);refine R7 ?_;obtain ⟨u3,hh⟩:=gd hh;refine κ z (OpOk.call (Ij_ aA u3) z z Jk z z z z ?_);rintro _ _ _ _ ⟨⟨lg,kZ,rfl⟩,rfl,rfl⟩;refine R5 ?_;refine TL.w z (b6_ (.inl z) z) ?_;have xJ:(uh mO x0).length=x0.length:=List.length_mergeSort _;refine κ z (OpOk.call (Mf_ (l:=x0)) z z pf188 z z z z ?_);rintro _ _ _ _ ⟨rfl,rfl,rfl⟩;refine R4 ?_;rw [<-xJ];obtain ⟨v9,u9,hh⟩:=bQ hh;refine κ z (OpOk.call (Ko_ u9) z z Qx z z z z ?_);rintro _ _ _ qh ⟨a105_1,c105_2,rfl,rfl,rfl⟩;refine R2 ?_;refine θ ?_;obtain rfl:=so hh;exact rz
def Zm(x0:List Tip):Option ((List Tip)):=
 grd (x0.length * 24<=140737488355328) (bnd (ne_ (uh G_ x0)) (λv9=>some v9))
def K8_(σ:ak)(r:(List Tip)):Value->ak->List Res->Prop:=λv σ' H'=>
 ∃a1 c1,v= .slice a1 r.length c1/\σ=σ'/\H'=[ε 79 2 bg (.slice a1 r.length c1) r]
theorem Li_{σ:ak}{x0:List Tip}(aA:RS σ 2 bg (.slice ay x0.length au) x0){r:(List Tip)}(hh:Zm x0=some r):
  Con prog 99 #[.slice ay x0.length au,.func (.func 100) #[] #[]] σ [] (K8_ σ r):=by
 dsimp only [Zm]at hh;refine cM 13 Tryz.func99 (λw0=> ?_);refine R7 ?_;obtain ⟨u3,hh⟩:=gd hh;refine κ z (OpOk.call (L6_ aA u3) z z pf132 z z z z ?_);rintro _ _ _ _ ⟨⟨lg,kZ,rfl⟩,rfl,rfl⟩;refine R5 ?_;refine TL.w z (b6_ (.inl z) z) ?_;have xJ:(uh G_ x0).length=x0.length:=List.length_mergeSort _;refine κ z (OpOk.call (Me_ (l:=x0)) z z pf157 z z z z ?_);rintro _ _ _ _ ⟨rfl,rfl,rfl⟩;refine R4 ?_;rw [<-xJ];obtain ⟨v9,u9,hh⟩:=bQ hh;refine κ z (OpOk.call (Ly_ u9) z z pf158 z z z z ?_);rintro _ _ _ qh ⟨a105_1,c105_2,rfl,rfl,rfl⟩;refine R2 ?_;refine θ ?_;obtain rfl:=so hh;exact rz
def wv_(x0:List Arc):Option ((List Arc)):=
 grd (x0.length * 72<=140737488355328) (bnd (ni_ (uh He x0)) (λv9=>some v9))
def Lb_(σ:ak)(r:(List Arc)):Value->ak->List Res->Prop:=λv σ' H'=>
 ∃a1 c1,v= .slice a1 r.length c1/\σ=σ'/\H'=[ε 49 8 dG (.slice a1 r.length c1) r]
theorem Ma_{σ:ak}{x0:List Arc}(aA:RS σ 8 dG (.slice ay x0.length au) x0){r:(List Arc)}(hh:wv_ x0=some r):
  Con prog 101 #[.slice ay x0.length au,.func (.func 102) #[] #[]] σ [] (Lb_ σ r):=by
 dsimp only [wv_]at hh;refine cM 13 Tryz.func101 (λw0=> ?_);refine R7 ?_;obtain ⟨u3,hh⟩:=gd hh;refine κ z (OpOk.call (L5_ aA u3) z z pf161 z z z z ?_);rintro _ _ _ _ ⟨⟨lg,kZ,rfl⟩,rfl,rfl⟩;refine R5 ?_;refine TL.w z (b6_ (.inl z) z) ?_;have xJ:(uh He x0).length=x0.length:=List.length_mergeSort _;refine κ z (OpOk.call (Md_ (l:=x0)) z z pf162 z z z z ?_);rintro _ _ _ _ ⟨rfl,rfl,rfl⟩;refine R4 ?_;rw [<-xJ];obtain ⟨v9,u9,hh⟩:=bQ hh;refine κ z (OpOk.call (Ls_ u9) z z pf163 z z z z ?_);rintro _ _ _ qh ⟨a105_1,c105_2,rfl,rfl,rfl⟩;refine R2 ?_;refine θ ?_;obtain rfl:=so hh;exact rz
def G6_(x0:List Tip)(bf:aj)(aP:Nat):Option ((aj×Nat)⊕(aj)):=
 aI (decide ((aP:Int)<(x0.length:Int))) (grd ((bf.length+[(nth x0 aP bD).state].length) * 8<=140737488355328) (nxt ((bf++[(nth x0 aP bD).state]),(aP+1)))) (fin (bnd (yf_ bf) (λv20=>some v20)))
def Hq_(x0:List Tip):Option (aj):=
 aV (λq:aj×Nat=>G6_ x0 q.1 q.2) (([]:aj),0)
theorem Gs_{σ:ak}{x0:List Tip}(aA:RS σ 2 bg (.slice ay x0.length au) x0){r:aj}(hh:Hq_ x0=some r):
  Con prog 81 #[.slice ay x0.length au] σ [] (TV σ r):=by
 dsimp only [Hq_]at hh;have f0_0b:=aA.rv.big;refine cM 20 Tryz.func81 (λw0=> ?_);refine R16 ?_;refine TC.nilS 3 1 aB (TC.lp hh (nO,oO) (rgs [(3,1),(5,1),(8,10)]) (λ⟨bf,aP⟩ ⟨dD,dM⟩=>([(3,.slice dD bf.length dM),(8,.int .i64 (aP:Int))],[dW 3 aB dD dM bf])) (ζ 1 z) ?_);rintro ⟨bf,aP⟩ ⟨dD,dM⟩ _ z1 hh hR1;dsimp only [G6_]at hh ⊢;refine ξ 0 z (λzM=> ?_);refine R5 ?_;refine ι z hh (λiG hh=> ?_) (λiG hh=> ?_)
 ·refine R7 ?_;refine TL.al (λb119=> ?_);refine R6 ?_;refine κ z (gX (enc:=aB) [(nth x0 aP bD).state] (λE_ ER=> ?_));refine φ 2 z z ?_;obtain ⟨u15,hh⟩:=gd hh;refine κ z (apF (.inr ⟨_,0,z⟩) u15 (λa124 iq=> ?_));refine R6 ?_;exact nx hR1 hh (a124,iq) (ζ 1 z)
 refine R1 ?_;replace hh:=bF hR1 hh;refine R4 ?_;refine TL.iw aW (λτ129 qc RN=> ?_);have hr127b:=RN.rv.big;obtain ⟨v20,u20,hh⟩:=bQ hh;refine κ z (OpOk.call (Mb_ RN u20) z z pf142 z z z z ?_);rintro _ _ _ mF ⟨a130_1,c130_1,rfl,rfl,rfl⟩;refine R2 ?_;refine TC.back (θ ?_);obtain rfl:=so hh;exact rz
def Iu_(x0:Fst)(G7:aj)(ni:aj)(BL:List Arrow)(sW:Nat):Option (((List Arrow)×Nat)⊕(Nfa×Int)):=
 aI (decide ((sW:Int)<(x0.arcs.length:Int))) (grd ((BL.length+[(⟨(nth x0.arcs sW aO).frm,(nth x0.arcs sW aO).to,(nth x0.arcs sW aO).set⟩:Arrow)].length) * 48<=140737488355328) (nxt ((BL++[(⟨(nth x0.arcs sW aO).frm,(nth x0.arcs sW aO).to,(nth x0.arcs sW aO).set⟩:Arrow)]),(sW+1)))) (fin (some ((⟨x0.states,G7,ni,BL⟩:Nfa),0)))
def Jl_(x0:Fst)(G7:aj)(ni:aj):Option (Nfa×Int):=
 aV (λq:(List Arrow)×Nat=>Iu_ x0 G7 ni q.1 q.2) (([]:List Arrow),0)
def Km_(x0:Fst):Option (Nfa×Int):=
 bnd (IE x0) (λv5=>aI (decide (v5≠0)) (some ((⟨0,([]:aj),([]:aj),([]:List Arrow)⟩:Nfa),1)) (bnd (Hq_ x0.starts) (λv14=>bnd (Hq_ x0.ends) (λv17=>Jl_ x0 v14 v17))))
def Lr_(σ:ak)(r:Nfa×Int):Value->ak->List Res->Prop:=λv σ' H'=>
 ∃a1 c1 a2 c2 a3 c3,v= .tuple #[.agg #[.int .i64 r.1.states,.slice a1 r.1.starts.length c1,.slice a2 r.1.ends.length c2,.slice a3 r.1.edges.length c3],.int .i64 r.2]/\dV σ' aB a1 c1 r.1.starts/\dV σ' aB a2 c2 r.1.ends/\RS σ' 6 vW (.slice a3 r.1.edges.length c3) r.1.edges/\H'=[]
theorem L9_{σ:ak}{x0:Fst}(aA:RS σ 2 bg (.slice ay x0.starts.length au) x0.starts)(aG:RS σ 2 bg (.slice aC x0.ends.length aJ) x0.ends)(aH:RS σ 8 dG (.slice aK x0.arcs.length aF) x0.arcs){r:Nfa×Int}(hh:Km_ x0=some r):
  Con prog 29 #[.agg (eP x0 ay au aC aJ aK aF)] σ [] (Lr_ σ r):=by
 dsimp only [Km_]at hh;have f0_2b:=aH.rv.big;refine cM 41 Tryz.func29 (λw0=> ?_);refine R2 ?_;refine TL.bx (λaS=> ?_);refine TL.al (λbn=> ?_);refine R6 ?_;obtain ⟨v5,u5,hh⟩:=bQ hh;refine κ z (eG (Ut (x0:=x0) aA aG aH u5) z z Qn z z z ?_);refine R2 ?_;refine ι z hh (λbM hh=> ?_) (λbM hh=> ?_)
 ·refine R6 ?_;refine TC.rt 1 ?_;obtain rfl:=so hh;exact rz
 refine R1 ?_;refine TC.cutG (α:=(aj×aj)×(Nat×(Option Addr)×Nat×(Option Addr)×Nat)) (rgs [(4,1),(11,9)]) (λg=>[(4,loc g.2.1 0)]) (λg=>[ω aS (eP x0 ay au aC aJ aK aF) 25,ω bn #[.int .i64 0,aT,aT,aT] 65,ω g.2.1 #[.int .i64 x0.states,.slice g.2.2.1 g.1.1.length g.2.2.2.1,.slice g.2.2.2.2.1 g.1.2.length g.2.2.2.2.2,aT] 65,ε 3 1 aB (.slice g.2.2.1 g.1.1.length g.2.2.2.1) g.1.1,ε 3 1 aB (.slice g.2.2.2.2.1 g.1.2.length g.2.2.2.2.2) g.1.2]) (λg=>σ) (λg=>Jl_ x0 g.1.1 g.1.2=some r) ?_ (λg j hg=> ?_)
 ·obtain ⟨v14,u14,hh⟩:=bQ hh;obtain ⟨v17,vV,hh⟩:=bQ hh;refine TC.draw [10] (by kernel_rfl) (ν 0 z fL z (Δ 1 z lL z (ν 2 z fL z (Δ 3 z lL z (ν 5 z fL z (Δ 6 z lL z (TA.actN [4,9] (by kernel_rfl) (an z z (OpOk.call (Gs_ aA u14) z z Jj z z z z ?_) (an z z (OpOk.alloc z U7 z z (λPo=>(k1 ?_))) (True.intro))))))))))
  ·rintro _ _ _ eF ⟨a122_1,c122_1,rfl,rfl,rfl⟩;refine k1 (TA.actN [7,9] (by kernel_rfl) (an z z (OpOk.call (Gs_ aG vV) z z Jj z z z z ?_) (an z z (OpOk.alloc z U7 z z (λXL=>(k2 ?_))) (True.intro))))
   ·rintro _ _ _ WI ⟨a126_1,c126_1,rfl,rfl,rfl⟩;refine k2 (ν 8 z bL z (Φ 9 z (OpOk.alloc z U7 z z (λb130=>(k3 ?_)))));refine TA.last 10 (by kernel_rfl) z z z (storeAll z Va z z z z z z ?_);refine R1 ?_;exact cf ((v14,v17),(b130,a122_1,c122_1,a126_1,c126_1)) hh (ψ [1,2,2,3,4] 5)
   refine Φ 7 z (OpOk.call (Gs_ aG vV) z z Jj z z z z ?_);rintro _ _ _ EG ⟨a132_1,c132_1,rfl,rfl,rfl⟩;refine k3 (ν 8 z bL z (Θ 1 z z (TA.last 10 (by kernel_rfl) z z z (storeAll z Va z z z z z z ?_))));refine R1 ?_;exact cf ((v14,v17),(XL,a122_1,c122_1,a132_1,c132_1)) hh (ψ [1,2,2,3,4] 5)
  refine Φ 4 z (OpOk.call (Gs_ aA u14) z z Jj z z z z ?_);rintro _ _ _ hle134 ⟨a134_1,c134_1,rfl,rfl,rfl⟩;refine k2 (Φ 7 z (OpOk.call (Gs_ aG vV) z z Jj z z z z ?_));rintro _ _ _ WH ⟨a136_1,c136_1,rfl,rfl,rfl⟩;refine k3 (ν 8 z bL z (Θ 2 z z (TA.last 10 (by kernel_rfl) z z z (storeAll z Va z z z z z z ?_))));refine R1 ?_;exact cf ((v14,v17),(Po,a134_1,c134_1,a136_1,c136_1)) hh (ψ [1,2,2,3,4] 5)
 obtain ⟨⟨G7,ni⟩,⟨o8,Ia,Hy,qO,qK⟩⟩:=g;have hh:=hg;clear hg
 try dsimp only
 dsimp only [Jl_]at hh;refine ξ 3 z (λhb138=> ?_);refine ξ 4 z (λhb139=> ?_);refine R9 ?_;refine TC.nilS 129 6 vW (TC.lp hh (nO,oO) (rgs [(6,1),(23,17)]) (λ⟨BL,sW⟩ ⟨a152,O8⟩=>([(23,.int .i64 (sW:Int))],[ω bn #[.int .i64 0,aT,aT,aT] 65,ω o8 #[.int .i64 x0.states,.slice Ia G7.length Hy,.slice qO ni.length qK,.slice a152 BL.length O8] 65,dW 3 aB Ia Hy G7,dW 3 aB qO qK ni,ε 129 6 vW (.slice a152 BL.length O8) BL])) (ψ [5,5,5,5] 5) ?_);rintro ⟨BL,sW⟩ ⟨a152,O8⟩ _ z1 hh hR1;dsimp only [Iu_]at hh ⊢;refine ξ 2 z (λKU=> ?_);refine ξ 3 z (λKR=> ?_);refine ξ 4 z (λTF=> ?_);refine R5 ?_;refine ι z hh (λXd hh=> ?_) (λXd hh=> ?_)
 ·refine R7 ?_;refine TL.al (λb160=> ?_);refine R12 ?_;refine κ z (gX (enc:=vW) [(⟨(nth x0.arcs sW aO).frm,(nth x0.arcs sW aO).to,(nth x0.arcs sW aO).set⟩:Arrow)] (λa162 AQ=> ?_));refine φ 6 z z ?_;obtain ⟨u40,hh⟩:=gd hh;refine κ z (apF (.inr ⟨_,0,z⟩) u40 (λa165 c166=> ?_));refine TL.w z fL (φ 4 z z (R6 ?_));exact nx hR1 hh (a165,c166) (ψ [1,6,6,3,6] 5)
 refine R1 ?_;replace hh:=bF hR1 hh;refine R7 ?_;refine TC.front 2 z z (TC.iw aW (λτ170 hle169 FQ=> ?_));refine TC.front 2 z z (TC.iw aW (λτ173 Kw Ce=> ?_));replace FQ:=FQ.mono Kw;refine TC.front 2 z z (TC.iw ZI (λτ176 mD hr174=> ?_));replace FQ:=FQ.mono mD;replace Ce:=Ce.mono mD;have hr174b:=hr174.rv.big;refine TC.rt 1 ?_;obtain rfl:=so hh;exact rz
def MH(x0:Fst):Option (Fst×Int):=
 bnd (IE x0) (λv5=>aI (decide (v5≠0)) (some ((⟨0,([]:List Tip),([]:List Tip),([]:List Arc)⟩:Fst),1)) (bnd (Zm x0.starts) (λv14=>bnd (Zm x0.ends) (λv17=>bnd (wv_ x0.arcs) (λv20=>some ((⟨x0.states,v14,v17,v20⟩:Fst),0))))))
def MK(σ:ak)(r:Fst×Int):Value->ak->List Res->Prop:=λv σ' H'=>
 ∃a1 c1 a2 c2 a3 c3,v= .tuple #[.agg (eP r.1 a1 c1 a2 c2 a3 c3),.int .i64 r.2]/\RS σ' 2 bg (.slice a1 r.1.starts.length c1) r.1.starts/\RS σ' 2 bg (.slice a2 r.1.ends.length c2) r.1.ends/\RS σ' 8 dG (.slice a3 r.1.arcs.length c3) r.1.arcs/\H'=[]
theorem Lt_{σ:ak}{x0:Fst}(aA:RS σ 2 bg (.slice ay x0.starts.length au) x0.starts)(aG:RS σ 2 bg (.slice aC x0.ends.length aJ) x0.ends)(aH:RS σ 8 dG (.slice aK x0.arcs.length aF) x0.arcs){r:Fst×Int}(hh:MH x0=some r):
  Con prog 40 #[.agg (eP x0 ay au aC aJ aK aF)] σ [] (MK σ r):=by
 dsimp only [MH]at hh;refine cM 20 Tryz.func40 (λw0=> ?_);refine R2 ?_;refine TL.bx (λaS=> ?_);refine TL.al (λbn=> ?_);refine R6 ?_;obtain ⟨v5,u5,hh⟩:=bQ hh;refine κ z (eG (Ut (x0:=x0) aA aG aH u5) z z Qn z z z ?_);refine R2 ?_;refine ι z hh (λbM hh=> ?_) (λbM hh=> ?_)
 ·refine R6 ?_;refine TC.rt 1 ?_;obtain rfl:=so hh;exact rz
 refine R2 ?_;obtain ⟨v14,u14,hh⟩:=bQ hh;obtain ⟨v17,vV,hh⟩:=bQ hh;obtain ⟨v20,u20,hh⟩:=bQ hh;refine TC.draw [12,13] (by kernel_rfl) (ν 0 z fL z (Δ 1 z lL z (ν 2 z fL z (Δ 3 z lL z (ν 5 z fL z (Δ 6 z lL z (ν 8 z fL z (Δ 9 z lL z (Φ 4 z (OpOk.call (Li_ aA u14) z z pf99 z z z z ?_))))))))));rintro _ _ _ WJ ⟨a112_1,c112_1,rfl,rfl,rfl⟩;refine k1 (Φ 7 z (OpOk.call (Li_ aG vV) z z pf99 z z z z ?_));rintro _ _ _ EH ⟨a114_1,c114_1,rfl,rfl,rfl⟩;refine k2 (Φ 10 z (OpOk.call (Ma_ aH u20) z z pf101 z z z z ?_));rintro _ _ _ dw ⟨a116_1,c116_1,rfl,rfl,rfl⟩;refine k3 (ν 11 z bL z (Θ 3 z z (TA.last 12 (by kernel_rfl) z z z (storeAll z Vq z z z z z z ?_))));refine TZ.v 13 (by kernel_rfl) z z z mI z z (R1 ?_);refine TC.front 3 z z (TC.iw yj (λτ120 dJ lW=> ?_));refine TC.front 2 z z (TC.iw yj (λτ123 eF pU=> ?_));replace lW:=lW.mono eF;refine TC.front 1 z z (TC.iw EM (λτ126 uJ CB=> ?_));replace lW:=lW.mono uJ;replace pU:=pU.mono uJ;refine TC.rt 1 ?_;obtain rfl:=so hh;exact rz
theorem pf52:plainF Tryz.prog 52=true:=by kernel_rfl
def Ea_(x0:List Tip)(x1:List Tip)(gB:Nat):Option ((Nat)⊕(Bool)):=
 aI (decide ((gB:Int)<(x0.length:Int))) (grd (gB<x1.length) (aI (decide (¬ ((nth x0 gB bD)=(nth x1 gB bD)))) (fin (some false)) (nxt (gB+1)))) (fin (some true))
def Ct_(x0:List Tip)(x1:List Tip):Option (Bool):=
 aI (decide ((x0.length:Int)≠(x1.length:Int))) (some false) (aV (λq:Nat=>Ea_ x0 x1 q) 0)
theorem He_{σ:ak}{x0:List Tip}{x1:List Tip}(aA:RS σ 2 bg (.slice ay x0.length au) x0)(bU:RS σ 2 bg (.slice bW x1.length bV) x1){r:Bool}(hh:Ct_ x0 x1=some r):
  Con prog 52 #[.slice ay x0.length au,.slice bW x1.length bV] σ [] (iU (.bool r) σ):=by
 dsimp only [Ct_]at hh;have f1_0b:=bU.rv.big;refine cM 26 Tryz.func52 (λw0=> ?_);refine R13 ?_;refine ι z hh (λiR hh=> ?_) (λiR hh=> ?_)
 ·refine R4 ?_;refine θ ?_;obtain rfl:=so hh;exact rq [4] ⟨z,z,z⟩
 refine R7 ?_;refine TC.lp hh () (rgs [(4,2),(11,15)]) (λgB _=>([(5,.int .i64 (gB:Int))],[])) (ζ 0 z) ?_;rintro gB _ _ z1 hh hR1;dsimp only [Ea_]at hh ⊢;refine R8 ?_;refine ι z hh (λbM hh=> ?_) (λbM hh=> ?_)
 ·refine R4 ?_;obtain ⟨DY,hh⟩:=gd hh;refine TC.draw [] (by kernel_rfl) (ν 0 z mS z (ν 1 z mI z (Δ 2 z iN z (Δ 3 z lT z (ν 4 z mS z (ν 5 z mI z (Δ 6 z iN z (Δ 7 z lT z (ν 8 z (c2_ (p:=(nth x0 gB bD)=(nth x1 gB bD)) z z z OX (OU (nth x0 gB bD) (nth x1 gB bD)) z) z (R1 ?_))))))))));refine ι z hh (λdH hh=> ?_) (λdH hh=> ?_)
  ·refine R4 ?_;refine θ ?_;replace hh:=bF hR1 hh;obtain rfl:=so hh;exact rq [4] ⟨z,z,z⟩
  refine R6 ?_;exact nx hR1 hh () (ζ 0 z)
 refine R1 ?_;replace hh:=bF hR1 hh;refine R5 ?_;refine θ ?_;obtain rfl:=so hh;exact rq [4] ⟨z,z,z⟩
def Fv_(x0:Fst)(x1:Fst)(jq:Nat):Option ((Nat)⊕(Bool)):=
 aI (decide ((jq:Int)<(x0.arcs.length:Int))) (grd (jq<x1.arcs.length) (aI (decide (¬ ((nth x0.arcs jq aO)=(nth x1.arcs jq aO)))) (fin (some false)) (nxt (jq+1)))) (fin (some true))
def Ee_(x0:Fst)(x1:Fst):Option (Bool):=
 aI (decide (x0.states≠x1.states)) (some false) (bnd (Ct_ x0.starts x1.starts) (λv14=>aI (!v14) (some false) (bnd (Ct_ x0.ends x1.ends) (λv22=>aI (!v22) (some false) (aI (decide ((x0.arcs.length:Int)≠(x1.arcs.length:Int))) (some false) (aV (λq:Nat=>Fv_ x0 x1 q) 0))))))
theorem H6_{σ:ak}{x0:Fst}{x1:Fst}(aA:RS σ 2 bg (.slice ay x0.starts.length au) x0.starts)(aG:RS σ 2 bg (.slice aC x0.ends.length aJ) x0.ends)(aH:RS σ 8 dG (.slice aK x0.arcs.length aF) x0.arcs)(bU:RS σ 2 bg (.slice bW x1.starts.length bV) x1.starts)(dO:RS σ 2 bg (.slice cu x1.ends.length dZ) x1.ends)(dK:RS σ 8 dG (.slice d_ x1.arcs.length b_) x1.arcs){r:Bool}(hh:Ee_ x0 x1=some r):
  Con prog 17 #[.agg (eP x0 ay au aC aJ aK aF),.agg (eP x1 bW bV cu dZ d_ b_)] σ [] (iU (.bool r) σ):=by
 dsimp only [Ee_]at hh;have f1_2b:=dK.rv.big;refine cM 54 Tryz.func17 (λw0=> ?_);refine R2 ?_;refine TL.bx (λaS=> ?_);refine TL.bx (λbn=> ?_);refine R11 ?_;refine Γ 11 z (λbM=> ?_) (λbM=> ?_)
 ·obtain ⟨bM,hh⟩:=iT bM hh;refine R30 ?_;refine TC.rt 0 ?_;obtain rfl:=so hh;exact rq [4] ⟨z,z,z⟩
 obtain ⟨bM,hh⟩:=iF bM hh;refine R4 ?_;obtain ⟨v14,u14,hh⟩:=bQ hh;refine TL.gon z z z z z (eG (He_ aA bU u14) z z pf52 z z z ?_);refine R3 ?_;refine Γ 19 z (λdH=> ?_) (λdH=> ?_)
 ·replace hh:=nT dH hh;refine R22 ?_;refine TC.rt 0 ?_;obtain rfl:=so hh;exact rq [4] ⟨z,z,z⟩
 replace hh:=nS dH hh;refine R4 ?_;obtain ⟨v22,u22,hh⟩:=bQ hh;refine TL.gon z z z z z (eG (He_ aG dO u22) z z pf52 z z z ?_);refine R3 ?_;refine Γ 27 z (λfB=> ?_) (λfB=> ?_)
 ·replace hh:=nT fB hh;refine R14 ?_;refine TC.rt 0 ?_;obtain rfl:=so hh;exact rq [4] ⟨z,z,z⟩
 replace hh:=nS fB hh;refine R9 ?_;refine ι z hh (λkX hh=> ?_) (λkX hh=> ?_)
 ·refine R4 ?_;refine TC.rt 0 ?_;obtain rfl:=so hh;exact rq [4] ⟨z,z,z⟩
 refine R7 ?_;refine TC.lp hh () (rgs [(4,2),(36,18)]) (λjq _=>([(5,.int .i64 (jq:Int))],[ω aS (eP x0 ay au aC aJ aK aF) 25,ω bn (eP x1 bW bV cu dZ d_ b_) 25])) (ψ [1] 2) ?_;rintro jq _ _ z1 hh hR1;dsimp only [Fv_]at hh ⊢;refine R9 ?_;refine ι z hh (λh112 hh=> ?_) (λh112 hh=> ?_)
 ·refine R4 ?_;obtain ⟨u49,hh⟩:=gd hh;refine TC.draw [] (by kernel_rfl) (ν 0 z fL z (Δ 1 z lL z (ν 2 z mI z (Δ 3 z iN z (Δ 4 z lT z (ν 5 z fL z (Δ 6 z lL z (ν 7 z mI z (Δ 8 z iN z (Δ 9 z lT z (ν 10 z (c2_ (p:=(nth x0.arcs jq aO)=(nth x1.arcs jq aO)) z z z OY (OV (nth x0.arcs jq aO) (nth x1.arcs jq aO)) z) z (R1 ?_))))))))))));refine ι z hh (λuP hh=> ?_) (λuP hh=> ?_)
  ·refine R4 ?_;refine TC.rt 0 ?_;replace hh:=bF hR1 hh;obtain rfl:=so hh;exact rq [4] ⟨z,z,z⟩
  refine R6 ?_;exact nx hR1 hh () (ψ [1,1] 2)
 refine R1 ?_;replace hh:=bF hR1 hh;refine R5 ?_;refine TC.rt 0 ?_;obtain rfl:=so hh;exact rq [4] ⟨z,z,z⟩
def UG(x0:Fst)(i123:Int):Option (Bool):=
 aI (decide (i123<=60)) (aI (decide (x0.states<=20)) (some true) (some (decide (1024<x0.states)))) (some false)
def Gy(x0:Fst)(Ah:Int)(eH:Nat):Option ((Int×Nat)⊕(Bool)):=
 aI (decide ((eH:Int)<(x0.arcs.length:Int))) (aI (decide (Ah<=60)) (nxt ((IntKind.i64.wrap (Ah+(IntKind.i64.wrap (Int.tdiv (((nth x0.arcs eH aO).out).length:Int) 40)))),(eH+1))) (fin (UG x0 Ah))) (fin (UG x0 Ah))
def UM(x0:Fst)(i113:Int):Option (Bool):=
 aV (λq:Int×Nat=>Gy x0 q.1 q.2) (i113,0)
def Gx(x0:Fst)(Ai:Int)(oU:Nat):Option ((Int×Nat)⊕(Bool)):=
 aI (decide ((oU:Int)<(x0.ends.length:Int))) (aI (decide (Ai<=60)) (nxt ((IntKind.i64.wrap (Ai+(IntKind.i64.wrap (Int.tdiv (((nth x0.ends oU bD).out).length:Int) 40)))),(oU+1))) (fin (UM x0 Ai))) (fin (UM x0 Ai))
def UH(x0:Fst)(i103:Int):Option (Bool):=
 aV (λq:Int×Nat=>Gx x0 q.1 q.2) (i103,0)
def Gz(x0:Fst)(Aj:Int)(nG:Nat):Option ((Int×Nat)⊕(Bool)):=
 aI (decide ((nG:Int)<(x0.starts.length:Int))) (aI (decide (Aj<=60)) (nxt ((IntKind.i64.wrap (Aj+(IntKind.i64.wrap (Int.tdiv (((nth x0.starts nG bD).out).length:Int) 40)))),(nG+1))) (fin (UH x0 Aj))) (fin (UH x0 Aj))
def PY(x0:Fst):Option (Bool):=
 aV (λq:Int×Nat=>Gz x0 q.1 q.2) ((IntKind.i64.wrap ((IntKind.i64.wrap ((x0.starts.length:Int)+(x0.ends.length:Int)))+(x0.arcs.length:Int))),0)
theorem Kd_{σ:ak}{x0:Fst}(aA:RS σ 2 bg (.slice ay x0.starts.length au) x0.starts)(aG:RS σ 2 bg (.slice aC x0.ends.length aJ) x0.ends)(aH:RS σ 8 dG (.slice aK x0.arcs.length aF) x0.arcs){r:Bool}(hh:PY x0=some r):
  Con prog 38 #[.agg (eP x0 ay au aC aJ aK aF)] σ [] (iU (.bool r) σ):=by
 dsimp only [PY]at hh;have f0_0b:=aA.rv.big;have f0_1b:=aG.rv.big;have f0_2b:=aH.rv.big;refine cM 93 Tryz.func38 (λw0=> ?_);refine R2 ?_;refine TL.bx (λaS=> ?_);refine R17 ?_;refine TC.cutG (α:=(Int)×(Unit)) (rgs [(3,2),(18,21)]) (λg=>[(3,.int .i64 g.1)]) (λg=>[ω aS (eP x0 ay au aC aJ aK aF) 25]) (λg=>σ) (λg=>UH x0 g.1=some r) ?_ (λg j hg=> ?_)
 ·refine R5 ?_;refine TC.lp hh () (rgs [(3,2),(18,21)]) (λ⟨Aj,nG⟩ _=>([(3,.int .i64 Aj),(4,.int .i64 (nG:Int))],[ω aS (eP x0 ay au aC aJ aK aF) 25])) (ζ 1 z) ?_;rintro ⟨Aj,nG⟩ _ _ z1 hh hR1;dsimp only [Gz]at hh ⊢;refine R9 ?_;refine Γ 23 z (λjA=> ?_) (λjA=> ?_)
  ·obtain ⟨jA,hh⟩:=iT jA hh;refine R4 ?_;refine ι z hh (λgI hh=> ?_) (λgI hh=> ?_)
   ·refine R11 ?_;refine TL.w z (LM z vU z) (TL.w z (quoW z z z (by decide)) (R8 ?_));exact nx hR1 hh () (ζ 1 z)
   refine R1 ?_;replace hh:=bF hR1 hh;refine R1 ?_;exact cf (Aj,()) hh (ζ 1 z)
  obtain ⟨jA,hh⟩:=iF jA hh;refine R6 ?_;replace hh:=bF hR1 hh;refine R1 ?_;exact cf (Aj,()) hh (ζ 1 z)
 obtain ⟨i103,_⟩:=g;have hh:=hg;clear hg
 try dsimp only
 dsimp only [UH]at hh;refine TC.cutG (α:=(Int)×(Unit)) (rgs [(3,1),(5,1),(39,21)]) (λg=>[(3,.int .i64 g.1)]) (λg=>[ω aS (eP x0 ay au aC aJ aK aF) 25]) (λg=>σ) (λg=>UM x0 g.1=some r) ?_ (λg j hg=> ?_)
 ·refine R5 ?_;refine TC.lp hh () (rgs [(3,1),(5,1),(39,21)]) (λ⟨Ai,oU⟩ _=>([(3,.int .i64 Ai),(5,.int .i64 (oU:Int))],[ω aS (eP x0 ay au aC aJ aK aF) 25])) (ζ 1 z) ?_;rintro ⟨Ai,oU⟩ _ _ z1 hh hR1;dsimp only [Gx]at hh ⊢;refine R9 ?_;refine Γ 44 z (λqj=> ?_) (λqj=> ?_)
  ·obtain ⟨qj,hh⟩:=iT qj hh;refine R4 ?_;refine ι z hh (λyg hh=> ?_) (λyg hh=> ?_)
   ·refine R11 ?_;refine TL.w z (LM z vU z) (TL.w z (quoW z z z (by decide)) (R8 ?_));exact nx hR1 hh () (ζ 1 z)
   refine R1 ?_;replace hh:=bF hR1 hh;refine R1 ?_;exact cf (Ai,()) hh (ζ 1 z)
  obtain ⟨qj,hh⟩:=iF qj hh;refine R6 ?_;replace hh:=bF hR1 hh;refine R1 ?_;exact cf (Ai,()) hh (ζ 1 z)
 obtain ⟨i113,_⟩:=g;have hh:=hg;clear hg
 try dsimp only
 dsimp only [UM]at hh;refine TC.cutG (α:=(Int)×(Unit)) (rgs [(3,1),(6,1),(60,21)]) (λg=>[(3,.int .i64 g.1)]) (λg=>[ω aS (eP x0 ay au aC aJ aK aF) 25]) (λg=>σ) (λg=>UG x0 g.1=some r) ?_ (λg j hg=> ?_)
 ·refine R5 ?_;refine TC.lp hh () (rgs [(3,1),(6,1),(60,21)]) (λ⟨Ah,eH⟩ _=>([(3,.int .i64 Ah),(6,.int .i64 (eH:Int))],[ω aS (eP x0 ay au aC aJ aK aF) 25])) (ζ 1 z) ?_;rintro ⟨Ah,eH⟩ _ _ z1 hh hR1;dsimp only [Gy]at hh ⊢;refine R9 ?_;refine Γ 65 z (λiQ=> ?_) (λiQ=> ?_)
  ·obtain ⟨iQ,hh⟩:=iT iQ hh;refine R4 ?_;refine ι z hh (λmG hh=> ?_) (λmG hh=> ?_)
   ·refine R11 ?_;refine TL.w z (LM z vU z) (TL.w z (quoW z z z (by decide)) (R8 ?_));exact nx hR1 hh () (ζ 1 z)
   refine R1 ?_;replace hh:=bF hR1 hh;refine R1 ?_;exact cf (Ah,()) hh (ζ 1 z)
  obtain ⟨iQ,hh⟩:=iF iQ hh;refine R6 ?_;replace hh:=bF hR1 hh;refine R1 ?_;exact cf (Ah,()) hh (ζ 1 z)
 obtain ⟨i123,_⟩:=g;have hh:=hg;clear hg
 try dsimp only
 dsimp only [UG]at hh;refine R5 ?_;refine Γ 83 z (λrV=> ?_) (λrV=> ?_)
 ·obtain ⟨rV,hh⟩:=iT rV hh;refine R4 ?_;refine Γ 87 z (λuN=> ?_) (λuN=> ?_)
  ·obtain ⟨uN,hh⟩:=iT uN hh;refine R7 ?_;refine TC.rt 0 ?_;obtain rfl:=so hh;exact rq [2] ⟨z,z,z⟩
  obtain ⟨uN,hh⟩:=iF uN hh;refine R7 ?_;refine TC.rt 0 ?_;obtain rfl:=so hh;exact rq [2] ⟨z,z,z⟩
 obtain ⟨rV,hh⟩:=iF rV hh;refine R11 ?_;refine TC.rt 0 ?_;obtain rfl:=so hh;exact rq [2] ⟨z,z,z⟩
theorem by4:byOf Tryz.prog 4=some 1:=by kernel_rfl
theorem QT:plainF Tryz.prog 117=true:=by kernel_rfl
theorem QA:plainF Tryz.prog 170=true:=by kernel_rfl
theorem NJ:plainF Tryz.prog 41=true:=by kernel_rfl
theorem ze4:zeroOf Tryz.prog 4=some (.bool false):=by kernel_rfl
theorem wy_(σ:ak)(a:Option Addr)(c:Nat)(l:B_1)(h256:l.length=256):
  Con prog 117 #[.slice a l.length c] σ [dW 4 dL a c l] (iU (sK (BSet.make λi=>nth l i false)) σ):=by
 have h:=aai_ σ a c l h256;rw [<-h256]at h;exact h
theorem sk_{σ:ak}{a:Option Addr}{c N:Nat}{l:B_1}(hn:l.length=N)(h256:N=256):
  Con prog 117 #[.slice a N c] σ [ε 4 1 dL (.slice a N c) l] (iU (sK (BSet.make λi=>nth l i false)) σ):=by
 subst hn;exact wy_ σ a c l h256
def UO(x0:aj)(dI:Nat)(dQ:List BSet)(xu:B_1)(wF:Nat):Option ((B_1×Nat)⊕(((List BSet)×Nat)⊕((List BSet)×Int))):=
 aI (decide ((wF:Int)<256)) (grd (wF<x0.length) (grd (wF<xu.length) (nxt ((xu.set wF (decide ((nth x0 wF 0)=(dI:Int)))),(wF+1))))) (fin (grd ((replicate 256 false).length=256) (grd ((dQ.length+[(BSet.make λi=>nth xu i false)].length) * 32<=140737488355328) (grd (dI+1<=9223372036854775807) (nxt ((dQ++[(BSet.make λi=>nth xu i false)]),(dI+1)))))))
def UQ(BP:Int)(x0:aj)(dQ:List BSet)(dI:Nat):Option (((List BSet)×Nat)⊕((List BSet)×Int)):=
 aI (decide ((dI:Int)<=BP)) (aV (λq:B_1×Nat=>UO x0 dI dQ q.1 q.2) ((replicate 256 false),0)) (fin (some (dQ,0)))
def Eb_(x0:aj)(BP:Int)(xA:Nat):Option ((Int×Nat)⊕((List BSet)×Int)):=
 aI (decide ((xA:Int)<256)) (grd (xA<x0.length) (aI (decide ((nth x0 xA 0)<0)) (fin (some (([]:List BSet),1))) (grd (xA<x0.length) (aI (decide ((IntKind.i64.wrap (BP+1))<(nth x0 xA 0))) (fin (some (([]:List BSet),1))) (grd (xA<x0.length) (nxt ((max BP (nth x0 xA 0)),(xA+1)))))))) (fin (aV (λq:(List BSet)×Nat=>UQ BP x0 q.1 q.2) (([]:List BSet),0)))
def UF(x0:aj):Option ((List BSet)×Int):=
 aI (decide ((x0.length:Int)≠256)) (some (([]:List BSet),1)) (aV (λq:Int×Nat=>Eb_ x0 q.1 q.2) ((-1),0))
theorem Ib_{σ:ak}{x0:aj}(aA:dV σ aB ay au x0){r:(List BSet)×Int}(hh:UF x0=some r):
  Con prog 170 #[.slice ay x0.length au] σ [] (Ii_ σ r):=by
 dsimp only [UF]at hh;refine cM 62 Tryz.func170 (λw0=> ?_);refine R12 ?_;refine ι z hh (λiR hh=> ?_) (λiR hh=> ?_)
 ·refine R5 ?_;refine θ ?_;obtain rfl:=so hh;exact rq [2,3] ⟨none,0,z,(RS.nilF _ lD EN),z⟩
 refine R11 ?_;refine TC.lp hh () (rgs [(2,4),(13,24)]) (λ⟨BP,xA⟩ _=>([(4,.int .i64 BP),(5,.int .i64 (xA:Int))],[])) (ζ 0 z) ?_;rintro ⟨BP,xA⟩ _ _ z1 hh hR1;dsimp only [Eb_]at hh ⊢;refine R6 ?_;refine ι z hh (λkX hh=> ?_) (λkX hh=> ?_)
 ·refine R8 ?_;obtain ⟨u14,hh⟩:=gd hh;refine R4 ?_;refine Γ 22 z (λrW=> ?_) (λrW=> ?_)
  ·obtain ⟨rW,hh⟩:=iT rW hh;refine R15 ?_;refine θ ?_;replace hh:=bF hR1 hh;obtain rfl:=so hh;exact rq [2,3] ⟨none,0,z,(RS.nilF _ lD EN),z⟩
  obtain ⟨rW,hh⟩:=iF rW hh;refine R2 ?_;obtain ⟨u20,hh⟩:=gd hh;refine R7 ?_;refine ι z hh (λjA hh=> ?_) (λjA hh=> ?_)
  ·refine R5 ?_;refine θ ?_;replace hh:=bF hR1 hh;obtain rfl:=so hh;exact rq [2,3] ⟨none,0,z,(RS.nilF _ lD EN),z⟩
  refine R5 ?_;obtain ⟨u31,hh⟩:=gd hh;refine R2 ?_;refine TL.w z (maxI z z z) (R7 ?_);exact nx hR1 hh () (ζ 0 z)
 refine R1 ?_;replace hh:=bF hR1 hh;refine R11 ?_;refine TC.nilS 47 4 lD (TC.lp hh (nO,oO) (rgs [(6,4),(37,24)]) (λ⟨dQ,dI⟩ ⟨a124,iq⟩=>([(6,.slice a124 dQ.length iq),(7,.int .i64 (dI:Int))],[ε 47 4 lD (.slice a124 dQ.length iq) dQ])) (ζ 1 z) ?_);rintro ⟨dQ,dI⟩ ⟨a124,iq⟩ _ z1 hh hR1;dsimp only [UQ]at hh ⊢;refine ξ 0 z (λGs=> ?_);refine R7 ?_;refine ι z hh (λuO hh=> ?_) (λuO hh=> ?_)
 ·refine R5 ?_;refine κ z (IC (m:=256) (enc:=dL) false z underlying33 AZ by4 ze4 z z z z (by omega) (by decide) wJ (by decide) z EL (λa130 c131=> ?_));refine R8 ?_;refine TC.lk hh () (rgs [(9,1),(43,13)]) (λ⟨xu,wF⟩ _=>([(9,.int .i64 (wF:Int))],[ε 47 4 lD (.slice a124 dQ.length iq) dQ,ε 4 1 dL (.slice a130 (replicate 256 false).length c131) xu])) (λ⟨xu,_⟩ _=>xu.length=(replicate 256 false).length) z (ψ [1] 2) ?_;rintro ⟨xu,wF⟩ _ _ z2 hh hR2 JZ;dsimp only [UO]at hh JZ ⊢;refine ξ 0 z (λhb142=> ?_);refine ξ 1 z (λhb143=> ?_);refine R6 ?_;refine ι z hh (λh144 hh=> ?_) (λh144 hh=> ?_)
  ·refine R8 ?_;obtain ⟨u52,hh⟩:=gd hh;refine R4 ?_;obtain ⟨u56,hh⟩:=gd hh;refine TL.iS 1 z (λRl=> ?_);refine TL.w z iN (φ 1 z z ?_);have hn146:(xu.set wF (decide ((nth x0 wF 0)=(dI:Int)))).length=(replicate 256 false).length:=by rw [eX];exact JZ
   refine κ z (qp (decide ((nth x0 wF 0)=(dI:Int))) z AZ z z z z wJ EL (by omega) (by omega) ?_);refine R6 ?_;exact nk hR2 hh () (ψ [1] 2) hn146
  refine R1 ?_;replace hh:=bF hR2 hh;refine R4 ?_;refine φ 1 z z ?_;obtain ⟨u63,hh⟩:=gd hh;refine κ z (Nj (sk_ JZ u63) z z QT z z z z ?_);refine κ z (gX (enc:=lD) [(BSet.make λi=>nth xu i false)] (λa148 c149=> ?_));refine φ 1 z z ?_;obtain ⟨u65,hh⟩:=gd hh;refine κ z (apF (.inr ⟨_,0,z⟩) u65 (λE8 c152=> ?_));refine R4 ?_;obtain ⟨u68,hh⟩:=gd hh;refine R3 ?_;exact nx hR1 hh (E8,c152) (ζ 1 z)
 refine R1 ?_;replace hh:=bF hR1 hh;refine R7 ?_;refine TC.iw EN (λτ156 hle155 hr154=> ?_);refine θ ?_;obtain rfl:=so hh;exact rq [2,3] ⟨a124,iq,z,hr154,z⟩
def Cw_(v5:(List BSet)×Int)(x0:Dfa)(bZ:Nat)(cZ:Nat):Option ((Nat)⊕((Nat)⊕(Bool))):=
 aI (decide ((cZ:Int)<(v5.1.length:Int))) (grd (cZ<(nth x0.next bZ []).length) (aI (decide ((nth (nth x0.next bZ []) cZ 0)<0)) (fin (fin (some false))) (grd (cZ<(nth x0.next bZ []).length) (aI (decide ((x0.next.length:Int)<=(nth (nth x0.next bZ []) cZ 0))) (fin (fin (some false))) (nxt (cZ+1)))))) (fin (nxt (bZ+1)))
def Cp_(x0:Dfa)(v5:(List BSet)×Int)(bZ:Nat):Option ((Nat)⊕(Bool)):=
 aI (decide ((bZ:Int)<(x0.next.length:Int))) (aI (decide (((nth x0.next bZ []).length:Int)≠(v5.1.length:Int))) (fin (some false)) (aV (λq:Nat=>Cw_ v5 x0 bZ q) 0)) (fin (some true))
def YU(x0:Dfa):Option (Bool):=
 bnd (UF x0.cls) (λv5=>aI (decide (v5.2≠0)) (some false) (aI (decide ((x0.next.length:Int)<1)) (some false) (aI (decide (1024<(x0.next.length:Int))) (some false) (aI (decide ((x0.fin.length:Int)≠(x0.next.length:Int))) (some false) (aV (λq:Nat=>Cp_ x0 v5 q) 0)))))
theorem Gj_{σ:ak}{x0:Dfa}(aA:dV σ aB ay au x0.cls)(aG:RZ σ (bH 1 aB aW) (.slice aC x0.next.length aJ) x0.next)(aH:dV σ dL aK aF x0.fin){r:Bool}(hh:YU x0=some r):
  Con prog 114 #[.agg #[.slice ay x0.cls.length au,.slice aC x0.next.length aJ,.slice aK x0.fin.length aF]] σ [] (iU (.bool r) σ):=by
 dsimp only [YU]at hh;refine cM 75 Tryz.func114 (λw0=> ?_);refine R2 ?_;refine TL.bx (λaS=> ?_);refine R6 ?_;obtain ⟨v5,u5,hh⟩:=bQ hh;refine κ z (OpOk.call (Ib_ aA u5) z z QA z z z z ?_);rintro _ τ103 _ EI ⟨a103_1,c103_1,rfl,hr103_0,rfl⟩;replace aG:=aG.mono EI;refine X_ ?_;refine Γ 19 z (λdS=> ?_) (λdS=> ?_)
 ·obtain ⟨dS,hh⟩:=iT dS hh;refine R20 ?_;refine TC.iH (ζ 0 z) (TC.back (θ ?_));obtain rfl:=so hh;exact rq [2] ⟨z,z,z⟩
 obtain ⟨dS,hh⟩:=iF dS hh;refine R4 ?_;refine Γ 23 z (λbM=> ?_) (λbM=> ?_)
 ·obtain ⟨bM,hh⟩:=iT bM hh;refine R16 ?_;refine TC.iH (ζ 0 z) (TC.back (θ ?_));obtain rfl:=so hh;exact rq [2] ⟨z,z,z⟩
 obtain ⟨bM,hh⟩:=iF bM hh;refine R4 ?_;refine Γ 27 z (λdH=> ?_) (λdH=> ?_)
 ·obtain ⟨dH,hh⟩:=iT dH hh;refine R12 ?_;refine TC.iH (ζ 0 z) (TC.back (θ ?_));obtain rfl:=so hh;exact rq [2] ⟨z,z,z⟩
 obtain ⟨dH,hh⟩:=iF dH hh;refine R7 ?_;refine ι z hh (λfB hh=> ?_) (λfB hh=> ?_)
 ·refine R4 ?_;refine TC.iH (ζ 0 z) (TC.back (θ ?_));obtain rfl:=so hh;exact rq [2] ⟨z,z,z⟩
 refine R7 ?_;refine TC.lp hh () (rgs [(2,1),(6,2),(34,41)]) (λbZ _=>([(6,.int .i64 (bZ:Int))],[ω aS #[.slice ay x0.cls.length au,.slice aC x0.next.length aJ,.slice aK x0.fin.length aF] 35])) (ζ 1 z) ?_;rintro bZ _ _ z1 hh hR1;dsimp only [Cp_]at hh ⊢;refine R7 ?_;refine ι z hh (λgI hh=> ?_) (λgI hh=> ?_)
 ·refine R10 ?_;obtain ⟨zY,zL,KQ⟩:=RZ.seg aG bZ (by omega);replace zL:dV _ aB zY.1 zY.2 (nth x0.next bZ []):=zL;refine TL.w z (OpVal.of (wP z oV z KQ z) (v':= .slice zY.1 ((nth x0.next bZ []).length) zY.2) z) (R5 ?_);refine ι z hh (λuP hh=> ?_) (λuP hh=> ?_)
  ·refine R4 ?_;refine TC.iH (ζ 0 z) (TC.back (θ ?_));replace hh:=bF hR1 hh;obtain rfl:=so hh;exact rq [2] ⟨z,z,z⟩
  refine R6 ?_;refine TC.lp hh () (rgs [(2,1),(7,1),(48,27)]) (λcZ _=>([(7,.int .i64 (cZ:Int))],[ω aS #[.slice ay x0.cls.length au,.slice aC x0.next.length aJ,.slice aK x0.fin.length aF] 35])) (ζ 1 z) ?_;rintro cZ _ _ z2 hh hR2;dsimp only [Cw_]at hh ⊢;refine R8 ?_;refine ι z hh (λoG hh=> ?_) (λoG hh=> ?_)
  ·refine R9 ?_;obtain ⟨Ou,Tj,hg118⟩:=RZ.seg aG bZ (by omega);replace Tj:dV _ aB Ou.1 Ou.2 (nth x0.next bZ []):=Tj;refine TL.w z (OpVal.of (wP z oV z hg118 z) (v':= .slice Ou.1 ((nth x0.next bZ []).length) Ou.2) z) (TL.i z z ?_);obtain ⟨u58,hh⟩:=gd hh;refine R4 ?_;refine Γ 63 z (λh119=> ?_) (λh119=> ?_)
   ·obtain ⟨h119,hh⟩:=iT h119 hh;refine R17 ?_;refine TC.iH (ζ 0 z) (TC.back (θ ?_));replace hh:=bF hR2 hh;replace hh:=bF hR1 hh;obtain rfl:=so hh;exact rq [2] ⟨z,z,z⟩
   obtain ⟨h119,hh⟩:=iF h119 hh;refine R4 ?_;obtain ⟨Ot,KI,hg120⟩:=RZ.seg aG bZ (by omega);replace KI:dV _ aB Ot.1 Ot.2 (nth x0.next bZ []):=KI;have hk120b:=KI.rv.big;refine TL.g z (OpVal.of (wP z oV z hg120 z) (v':= .slice Ot.1 ((nth x0.next bZ []).length) Ot.2) z) (TL.g z mI ?_);obtain ⟨u68,hh⟩:=gd hh;refine R6 ?_;refine ι z hh (λyg hh=> ?_) (λyg hh=> ?_)
   ·refine R4 ?_;refine TC.iH (ζ 0 z) (TC.back (θ ?_));replace hh:=bF hR2 hh;replace hh:=bF hR1 hh;obtain rfl:=so hh;exact rq [2] ⟨z,z,z⟩
   refine R6 ?_;exact nx hR2 hh () (ζ 1 z)
  refine R1 ?_;replace hh:=bF hR2 hh;refine R6 ?_;exact nx hR1 hh () (ζ 1 z)
 refine R1 ?_;replace hh:=bF hR1 hh;refine R5 ?_;refine TC.iH (ζ 0 z) (TC.back (θ ?_));obtain rfl:=so hh;exact rq [2] ⟨z,z,z⟩
def Ns(x0:Fst):Option (Fst×Int):=
 bnd (Ib x0) (λv5=>aI (!v5) (some ((⟨0,([]:List Tip),([]:List Tip),([]:List Arc)⟩:Fst),2)) (some (x0,0)))
theorem Il_{σ:ak}{x0:Fst}(aA:RS σ 2 bg (.slice ay x0.starts.length au) x0.starts)(aG:RS σ 2 bg (.slice aC x0.ends.length aJ) x0.ends)(aH:RS σ 8 dG (.slice aK x0.arcs.length aF) x0.arcs){r:Fst×Int}(hh:Ns x0=some r):
  Con prog 118 #[.agg (eP x0 ay au aC aJ aK aF)] σ [] (MK σ r):=by
 dsimp only [Ns]at hh;refine cM 9 Tryz.func118 (λw0=> ?_);refine R2 ?_;refine TL.bx (λaS=> ?_);refine TL.al (λbn=> ?_);refine R6 ?_;obtain ⟨v5,u5,hh⟩:=bQ hh;refine κ z (eG (P8 (x0:=x0) aA aG aH u5) z z NJ z z z ?_);refine R2 ?_;refine TC.cB z hh (λbM hh=> ?_) (λbM hh=> ?_)
 ·refine R6 ?_;refine TC.rt 1 ?_;obtain rfl:=so hh;exact rz
 refine R7 ?_;refine TC.rt 1 ?_;obtain rfl:=so hh;exact rz
theorem QV:plainF Tryz.prog 104=true:=by kernel_rfl
theorem pf105:plainF Tryz.prog 105=true:=by kernel_rfl
theorem yy_:plainF Tryz.prog 106=true:=by kernel_rfl
theorem pf166:plainF Tryz.prog 166=true:=by kernel_rfl
theorem pf167:plainF Tryz.prog 167=true:=by kernel_rfl
theorem QC:plainF Tryz.prog 168=true:=by kernel_rfl
def Dh_(x0:List Tip)(bf:aj)(aP:Nat):Option ((aj×Nat)⊕(aj)):=
 aI (decide ((aP:Int)<(x0.length:Int))) (grd ((bf.length+[(nth x0 aP bD).state].length) * 8<=140737488355328) (nxt ((bf++[(nth x0 aP bD).state]),(aP+1)))) (fin (bnd (UE bf) (λv21=>some v21)))
def Dg_(x0:List Tip):Option (aj):=
 aV (λq:aj×Nat=>Dh_ x0 q.1 q.2) (([]:aj),0)
theorem Da_{σ:ak}{x0:List Tip}(aA:RS σ 2 bg (.slice ay x0.length au) x0){r:aj}(hh:Dg_ x0=some r):
  Con prog 106 #[.slice ay x0.length au] σ [] (G9_ σ r):=by
 dsimp only [Dg_]at hh;have f0_0b:=aA.rv.big;refine cM 21 Tryz.func106 (λw0=> ?_);refine R14 ?_;refine TC.nilS 3 1 aB (TC.lp hh (nO,oO) (rgs [(3,16)]) (λ⟨bf,aP⟩ ⟨dD,dM⟩=>([(3,.slice dD bf.length dM),(4,.int .i64 (aP:Int))],[dW 3 aB dD dM bf])) (ζ 1 z) ?_);rintro ⟨bf,aP⟩ ⟨dD,dM⟩ _ z1 hh hR1;dsimp only [Dh_]at hh ⊢;refine ξ 0 z (λzM=> ?_);refine R8 ?_;refine ι z hh (λiG hh=> ?_) (λiG hh=> ?_)
 ·refine R10 ?_;refine κ z (gX (enc:=aB) [(nth x0 aP bD).state] (λa119 iV=> ?_));refine φ 1 z z ?_;obtain ⟨u15,hh⟩:=gd hh;refine κ z (apF (.inr ⟨_,0,z⟩) u15 (λtZ tN=> ?_));refine R7 ?_;exact nx hR1 hh (tZ,tN) (ζ 1 z)
 refine R1 ?_;replace hh:=bF hR1 hh;refine R4 ?_;refine TL.iw aW (λτ127 WI hr125=> ?_);obtain ⟨v21,u21,hh⟩:=bQ hh;refine κ z (OpOk.call (H8_ hr125 u21) z z QC z z z z ?_);rintro _ τ128 _ qc ⟨a128_1,c128_1,rfl,hr128_0,rfl⟩;have hr128_0b:=hr128_0.rv.big;refine R2 ?_;refine θ ?_;obtain rfl:=so hh;exact rq [2] ⟨a128_1,c128_1,z,hr128_0,z⟩
def E1_(x0:Fst)(Js:aj)(bf:aj)(eu:List Arrow)(sZ:Nat):Option (((List Arrow)×Nat)⊕(Nfa×Int)):=
 aI (decide ((sZ:Int)<(x0.arcs.length:Int))) (grd ((eu.length+[(⟨(nth x0.arcs sZ aO).frm,(nth x0.arcs sZ aO).to,(nth x0.arcs sZ aO).set⟩:Arrow)].length) * 48<=140737488355328) (nxt ((eu++[(⟨(nth x0.arcs sZ aO).frm,(nth x0.arcs sZ aO).to,(nth x0.arcs sZ aO).set⟩:Arrow)]),(sZ+1)))) (fin (some ((⟨x0.states,Js,bf,eu⟩:Nfa),0)))
def Gi_(x0:Fst)(Js:aj)(bf:aj):Option (Nfa×Int):=
 aV (λq:(List Arrow)×Nat=>E1_ x0 Js bf q.1 q.2) (([]:List Arrow),0)
def Gd_(x0:Fst):Option (Nfa×Int):=
 bnd (Ib x0) (λv5=>aI (!v5) (some ((⟨0,([]:aj),([]:aj),([]:List Arrow)⟩:Nfa),1)) (bnd (Dg_ x0.starts) (λv14=>bnd (Dg_ x0.ends) (λv17=>Gi_ x0 v14 v17))))
theorem Kj_{σ:ak}{x0:Fst}(aA:RS σ 2 bg (.slice ay x0.starts.length au) x0.starts)(aG:RS σ 2 bg (.slice aC x0.ends.length aJ) x0.ends)(aH:RS σ 8 dG (.slice aK x0.arcs.length aF) x0.arcs){r:Nfa×Int}(hh:Gd_ x0=some r):
  Con prog 44 #[.agg (eP x0 ay au aC aJ aK aF)] σ [] (Lr_ σ r):=by
 dsimp only [Gd_]at hh;have f0_2b:=aH.rv.big;refine cM 51 Tryz.func44 (λw0=> ?_);refine R2 ?_;refine TL.bx (λaS=> ?_);refine TL.al (λbn=> ?_);refine R6 ?_;obtain ⟨v5,u5,hh⟩:=bQ hh;refine κ z (eG (P8 (x0:=x0) aA aG aH u5) z z NJ z z z ?_);refine R2 ?_;refine TC.cB z hh (λbM hh=> ?_) (λbM hh=> ?_)
 ·refine R6 ?_;refine TC.rt 1 ?_;obtain rfl:=so hh;exact rz
 refine R1 ?_;refine TC.cutG (α:=(aj×aj)×(Nat×(Option Addr)×Nat×(Option Addr)×Nat×ak)) (rgs [(4,1),(10,9)]) (λg=>[(4,loc g.2.1 0)]) (λg=>[ω aS (eP x0 ay au aC aJ aK aF) 25,ω bn #[.int .i64 0,aT,aT,aT] 65,ω g.2.1 #[.int .i64 x0.states,.slice g.2.2.1 g.1.1.length g.2.2.2.1,.slice g.2.2.2.2.1 g.1.2.length g.2.2.2.2.2.1,aT] 65]) (λg=>g.2.2.2.2.2.2) (λg=>Gi_ x0 g.1.1 g.1.2=some r/\RS g.2.2.2.2.2.2 1 aB (.slice g.2.2.1 g.1.1.length g.2.2.2.1) g.1.1/\RS g.2.2.2.2.2.2 1 aB (.slice g.2.2.2.2.1 g.1.2.length g.2.2.2.2.2.1) g.1.2/\ak.le σ g.2.2.2.2.2.2) ?_ (λg j hg=> ?_)
 ·obtain ⟨v14,u14,hh⟩:=bQ hh;obtain ⟨v17,vV,hh⟩:=bQ hh;refine TC.draw [10] (by kernel_rfl) (ν 0 z fL z (Δ 1 z lL z (ν 2 z fL z (Δ 3 z lL z (ν 5 z fL z (Δ 6 z lL z (TA.actN [4,9] (by kernel_rfl) (an z z (OpOk.call (Da_ aA u14) z z yy_ z z z z ?_) (an z z (OpOk.alloc z U7 z z (λb121=>(k1 ?_))) (True.intro))))))))))
  ·rintro _ τ120 _ jL ⟨a120_1,c120_1,rfl,hr120_0,rfl⟩;replace aA:=aA.mono jL;replace aG:=aG.mono jL;replace aH:=aH.mono jL;refine kl 0 jL (TA.actN [7,9] (by kernel_rfl) (an z z (OpOk.call (Da_ aG vV) z z yy_ z z z z ?_) (an z z (OpOk.alloc z U7 z z (λPo=>(kl 1 jL ?_))) (True.intro))))
   ·rintro _ τ123 _ qg ⟨a123_1,c123_1,rfl,hr123_0,rfl⟩;replace aA:=aA.mono qg;replace aG:=aG.mono qg;replace aH:=aH.mono qg;replace hr120_0:=hr120_0.mono qg;have hr123_0b:=hr123_0.rv.big;refine kl 0 (jL.trans qg) (ν 8 z bL z (Φ 9 z (OpOk.alloc z U7 z z (λb126=>(kl 1 (jL.trans qg) ?_)))));refine TA.last 10 (by kernel_rfl) z z z (storeAll z Va z z z z z z ?_);refine R1 ?_;exact cf ((v14,v17),(b126,a120_1,c120_1,a123_1,c123_1,τ123)) ⟨hh,hr120_0,hr123_0,(jL.trans qg)⟩ (ψ [1,2] 3)
   refine Φ 7 z (OpOk.call (Da_ aG vV) z z yy_ z z z z ?_);rintro _ τ128 _ qc ⟨a128_1,c128_1,rfl,hr128_0,rfl⟩;replace aA:=aA.mono qc;replace aG:=aG.mono qc;replace aH:=aH.mono qc;replace hr120_0:=hr120_0.mono qc;refine kl 1 (jL.trans qc) (ν 8 z bL z (TA.last 10 (by kernel_rfl) z z z (storeAll z Va z z z z z z ?_)));refine R1 ?_;exact cf ((v14,v17),(Po,a120_1,c120_1,a128_1,c128_1,τ128)) ⟨hh,hr120_0,hr128_0,(jL.trans qc)⟩ (ψ [1,2] 3)
  refine Φ 4 z (OpOk.call (Da_ aA u14) z z yy_ z z z z ?_);rintro _ τ129 _ uI ⟨a129_1,c129_1,rfl,hr129_0,rfl⟩;replace aG:=aG.mono uI;replace aH:=aH.mono uI;refine kl 1 uI (Φ 7 z (OpOk.call (Da_ aG vV) z z yy_ z z z z ?_));rintro _ τ130 _ mF ⟨a130_1,c130_1,rfl,hr130_0,rfl⟩;replace aH:=aH.mono mF;replace hr129_0:=hr129_0.mono mF;refine kl 1 (uI.trans mF) (ν 8 z bL z (TA.last 10 (by kernel_rfl) z z z (storeAll z Va z z z z z z ?_)));refine R1 ?_;exact cf ((v14,v17),(b121,a129_1,c129_1,a130_1,c130_1,τ130)) ⟨hh,hr129_0,hr130_0,(uI.trans mF)⟩ (ψ [1,2] 3)
 obtain ⟨⟨Js,bf⟩,⟨o8,a109,c110,dD,dM,τ131⟩⟩:=g;obtain ⟨hh,JG,vG,EG⟩:=hg
 try dsimp only at JG
 try dsimp only at vG
 dsimp only at EG;replace aH:=aH.mono EG
 try dsimp only
 dsimp only [Gi_]at hh;refine R6 ?_;refine TC.nilS 129 6 vW (TC.lp hh (nO,oO) (rgs [(5,1),(19,31)]) (λ⟨eu,sZ⟩ ⟨a145,c146⟩=>([(5,.int .i64 (sZ:Int))],[ω aS (eP x0 ay au aC aJ aK aF) 25,ω bn #[.int .i64 0,aT,aT,aT] 65,ω o8 #[.int .i64 x0.states,.slice a109 Js.length c110,.slice dD bf.length dM,.slice a145 eu.length c146] 65,ε 129 6 vW (.slice a145 eu.length c146) eu])) (ψ [3,3,3] 4) ?_);rintro ⟨eu,sZ⟩ ⟨a145,c146⟩ _ z1 hh hR1;dsimp only [E1_]at hh ⊢;refine ξ 3 z (λhb149=> ?_);refine R9 ?_;refine ι z hh (λh150 hh=> ?_) (λh150 hh=> ?_)
 ·refine R3 ?_;obtain ⟨u49,hh⟩:=gd hh;refine TC.draw [22,23,24] (by kernel_rfl) (ν 0 z fL z (Δ 1 z lL z (ν 2 z fL z (Δ 3 z lL z (ν 4 z mI z (Δ 5 z iN z (ν 6 z fE z (Δ 7 z lS z (ν 8 z fL z (Δ 9 z lL z (ν 10 z mI z (Δ 11 z iN z (ν 12 z fE z (Δ 13 z lS z (ν 14 z fL z ?_)))))))))))))));refine Δ 15 z lL z (ν 16 z mI z (Δ 17 z iN z (ν 18 z fE z (Δ 19 z (ch_ aO z MQ D6 z aH (by omega) (by omega) (by omega) z z) z (ν 20 z bL z (Φ 21 z (gX (enc:=vW) [(⟨(nth x0.arcs sZ aO).frm,(nth x0.arcs sZ aO).to,(nth x0.arcs sZ aO).set⟩:Arrow)] (λa156 c157=>(k1 ?_)))))))));refine Θ 4 z z (TA.last 22 (by kernel_rfl) z z z (apF (.inr ⟨_,0,z⟩) u49 (λa159 c160=> ?_)));refine TZ.v 23 (by kernel_rfl) z z z fL z z (TZ.front 4 z z (TZ.last 24 (by kernel_rfl) z z z (gJ z Ji z z z z z ?_)));refine R6 ?_;exact nx hR1 hh (a159,c160) (ψ [1,1,4,4] 4)
 refine R1 ?_;replace hh:=bF hR1 hh;refine R4 ?_;refine φ 1 z z (R3 ?_);refine TC.front 3 z z (TC.iw ZI (λτ164 Ky hr162=> ?_));replace JG:=JG.mono Ky;replace vG:=vG.mono Ky;have hr162b:=hr162.rv.big;refine TC.rt 1 ?_;obtain rfl:=so hh;exact rz
def D7_(x0:Tip)(x1:Tip):Option (Bool):=
 aI (decide (x0.state<x1.state)) (some true) (aI (decide (x0.state=x1.state)) (some (decide (Lib.compareBytes x0.out x1.out<0))) (some false))
theorem Jd_{σ:ak}{x0:Tip}{x1:Tip}{r:Bool}(hh:D7_ x0 x1=some r):
  Con prog 166 #[.agg #[.int .i64 x0.state,.string (bs x0.out)],.agg #[.int .i64 x1.state,.string (bs x1.out)]] σ [] (iU (.bool r) σ):=by
 dsimp only [D7_]at hh;refine cM 24 Tryz.func166 (λw0=> ?_);refine R2 ?_;refine TL.bx (λaS=> ?_);refine TL.bx (λbn=> ?_);refine R10 ?_;refine Γ 10 z (λbM=> ?_) (λbM=> ?_)
 ·obtain ⟨bM,hh⟩:=iT bM hh;refine R15 ?_;refine TC.rt 0 ?_;obtain rfl:=so hh;exact rq [4] ⟨z,z,z⟩
 obtain ⟨bM,hh⟩:=iF bM hh;refine R6 ?_;refine Γ 16 z (λdH=> ?_) (λdH=> ?_)
 ·obtain ⟨dH,hh⟩:=iT dH hh;refine R4 ?_;refine TL.g z (lssBs z z z) (R4 ?_);refine TC.rt 0 ?_;obtain rfl:=so hh;exact rq [4] ⟨z,z,z⟩
 obtain ⟨dH,hh⟩:=iF dH hh;refine R9 ?_;refine TC.rt 0 ?_;obtain rfl:=so hh;exact rq [4] ⟨z,z,z⟩
def UW(x0:Arc)(x1:Arc)(nG:Nat):Option ((Nat)⊕(Bool)):=
 aI (decide ((nG:Int)<4)) (grd (nG<4) (grd (nG<4) (aI (decide ((BSet.word x0.set nG)≠(BSet.word x1.set nG))) (grd (nG<4) (grd (nG<4) (fin (some (decide ((BSet.word x0.set nG)<(BSet.word x1.set nG))))))) (nxt (nG+1))))) (fin (aI (decide (x0.out≠x1.out)) (some (decide (Lib.compareBytes x0.out x1.out<0))) (aI (!x0.copy) (some x1.copy) (some false))))
def D8_(x0:Arc)(x1:Arc):Option (Bool):=
 aI (decide (x0.frm≠x1.frm)) (some (decide (x0.frm<x1.frm))) (aI (decide (x0.to≠x1.to)) (some (decide (x0.to<x1.to))) (aV (λq:Nat=>UW x0 x1 q) 0))
theorem Jb_{σ:ak}{x0:Arc}{x1:Arc}{r:Bool}(hh:D8_ x0 x1=some r):
  Con prog 167 #[.agg #[.int .i64 x0.frm,.int .i64 x0.to,.int .u64 (x0.set.a:Int),.int .u64 (x0.set.b:Int),.int .u64 (x0.set.c:Int),.int .u64 (x0.set.d:Int),.string (bs x0.out),.bool x0.copy],.agg #[.int .i64 x1.frm,.int .i64 x1.to,.int .u64 (x1.set.a:Int),.int .u64 (x1.set.b:Int),.int .u64 (x1.set.c:Int),.int .u64 (x1.set.d:Int),.string (bs x1.out),.bool x1.copy]] σ [] (iU (.bool r) σ):=by
 dsimp only [D8_]at hh;refine cM 65 Tryz.func167 (λw0=> ?_);refine R2 ?_;refine TL.bx (λaS=> ?_);refine TL.bx (λbn=> ?_);refine R11 ?_;refine ι z hh (λbM hh=> ?_) (λbM hh=> ?_)
 ·refine R9 ?_;refine TC.rt 0 ?_;obtain rfl:=so hh;exact rq [4] ⟨z,z,z⟩
 refine R10 ?_;refine ι z hh (λdH hh=> ?_) (λdH hh=> ?_)
 ·refine R9 ?_;refine TC.rt 0 ?_;obtain rfl:=so hh;exact rq [4] ⟨z,z,z⟩
 refine R7 ?_;refine TC.lp hh () (rgs [(4,2),(26,22)]) (λnG _=>([(5,.int .i64 (nG:Int))],[ω aS #[.int .i64 x0.frm,.int .i64 x0.to,.int .u64 (x0.set.a:Int),.int .u64 (x0.set.b:Int),.int .u64 (x0.set.c:Int),.int .u64 (x0.set.d:Int),.string (bs x0.out),.bool x0.copy] 49,ω bn #[.int .i64 x1.frm,.int .i64 x1.to,.int .u64 (x1.set.a:Int),.int .u64 (x1.set.b:Int),.int .u64 (x1.set.c:Int),.int .u64 (x1.set.d:Int),.string (bs x1.out),.bool x1.copy] 49])) (ψ [1] 2) ?_;rintro nG _ _ z1 hh hR1;dsimp only [UW]at hh ⊢;refine R6 ?_;refine ι z hh (λjA hh=> ?_) (λjA hh=> ?_)
 ·refine R4 ?_;obtain ⟨u31,hh⟩:=gd hh;obtain ⟨u35,hh⟩:=gd hh;refine TC.draw [] (by kernel_rfl) (ν 0 z mI z (ν 1 z fL z (Δ 2 z iA z (Δ 3 z (a3_ x0.set z zF z (j:=0) z (by omega) z) z (ν 4 z mI z (ν 5 z fL z (Δ 6 z iA z (Δ 7 z (a3_ x1.set z zF z (j:=1) z (by omega) z) z (ν 8 z (neqU z z z) z (R1 ?_))))))))));refine ι z hh (λgI hh=> ?_) (λgI hh=> ?_)
  ·refine Ψ ?_;obtain ⟨u40,hh⟩:=gd hh;obtain ⟨u44,hh⟩:=gd hh;refine TC.draw [] (by kernel_rfl) (ν 0 z mI z (ν 1 z fL z (Δ 2 z iA z (Δ 3 z (a3_ x0.set z zF z (j:=0) z (by omega) z) z (ν 4 z mI z (ν 5 z fL z (Δ 6 z iA z (Δ 7 z (a3_ x1.set z zF z (j:=1) z (by omega) z) z (ν 8 z (lssU z z z) z (ν 9 z mB z (R1 ?_)))))))))));refine TC.rt 0 ?_;replace hh:=bF hR1 hh;obtain rfl:=so hh;exact rq [4] ⟨z,z,z⟩
  refine R6 ?_;exact nx hR1 hh () (ψ [1,1] 2)
 refine R1 ?_;replace hh:=bF hR1 hh;refine R8 ?_;refine TL.w z (neqBs z z z) (R1 ?_);refine ι z hh (λuP hh=> ?_) (λuP hh=> ?_)
 ·refine R6 ?_;refine TL.w z (lssBs z z z) (R2 ?_);refine TC.rt 0 ?_;obtain rfl:=so hh;exact rq [4] ⟨z,z,z⟩
 refine R7 ?_;refine Γ 61 z (λmJ=> ?_) (λmJ=> ?_)
 ·replace hh:=nT mJ hh;refine R5 ?_;refine TC.rt 0 ?_;obtain rfl:=so hh;exact rq [4] ⟨z,z,z⟩
 replace hh:=nS mJ hh;refine R5 ?_;refine TC.rt 0 ?_;obtain rfl:=so hh;exact rq [4] ⟨z,z,z⟩
def Cz_(aP:Nat)(kQ:List Tip):Option (((List Tip)×Nat)⊕((List Tip))):=
 nxt (kQ,(aP+1))
def B2_(bC:Nat)(bI:List Tip)(x0:List Tip)(aP:Nat):Option (((List Tip)×Nat)⊕((List Tip))):=
 grd (0<=bC/\bC<=bI.length) (grd ((([]:List Tip).length+(bI.take bC).length) * 24<=140737488355328) (grd (((([]:List Tip)++(bI.take bC)).length+[(nth x0 aP bD)].length) * 24<=140737488355328) (grd (bC<=bI.length/\bI.length<=bI.length) (grd ((((([]:List Tip)++(bI.take bC))++[(nth x0 aP bD)]).length+(bI.drop bC).length) * 24<=140737488355328) (Cz_ aP (((([]:List Tip)++(bI.take bC))++[(nth x0 aP bD)])++(bI.drop bC)))))))
def Ze(bI:List Tip)(x0:List Tip)(aP:Nat)(bC:Nat):Option (((List Tip)×Nat)⊕((List Tip))):=
 aI (decide ((bC:Int)<(bI.length:Int))) (aI (decide ((nth bI bC bD)=(nth x0 aP bD))) (Cz_ aP bI) (B2_ bC bI x0 aP)) (B2_ bC bI x0 aP)
def Zh(bI:List Tip)(x0:List Tip)(aP:Nat)(dI:Nat):Option ((Nat)⊕(((List Tip)×Nat)⊕((List Tip)))):=
 aI (decide ((dI:Int)<(bI.length:Int))) (bnd (D7_ (nth bI dI bD) (nth x0 aP bD)) (λv22=>aI v22 (nxt (dI+1)) (fin (Ze bI x0 aP dI)))) (fin (Ze bI x0 aP dI))
def Zg(x0:List Tip)(bI:List Tip)(aP:Nat):Option (((List Tip)×Nat)⊕((List Tip))):=
 aI (decide ((aP:Int)<(x0.length:Int))) (aV (λq:Nat=>Zh bI x0 aP q) 0) (fin (some bI))
def Cs_(x0:List Tip):Option ((List Tip)):=
 aV (λq:(List Tip)×Nat=>Zg x0 q.1 q.2) (([]:List Tip),0)
def Jg_(σ:ak)(r:(List Tip)):Value->ak->List Res->Prop:=λv σ' H'=>
 ∃a1 c1,v= .slice a1 r.length c1/\RS σ' 2 bg (.slice a1 r.length c1) r/\H'=[]
theorem Hd_{σ:ak}{x0:List Tip}(aA:RS σ 2 bg (.slice ay x0.length au) x0){r:(List Tip)}(hh:Cs_ x0=some r):
  Con prog 104 #[.slice ay x0.length au] σ [] (Jg_ σ r):=by
 dsimp only [Cs_]at hh;have f0_0b:=aA.rv.big;refine cM 64 Tryz.func104 (λw0=> ?_);refine R14 ?_;refine TC.zl (α:=((List Tip)×Nat)×((Option Addr)×Nat×ak)) (rgs [(3,60)]) (λg=>[(3,.slice g.2.1 g.1.1.length g.2.2.1),(4,.int .i64 (g.1.2:Int))]) (λg=>[]) (λg=>g.2.2.2) (λg=>aV (λq:(List Tip)×Nat=>Zg x0 q.1 q.2) g.1=some r/\RS g.2.2.2 2 bg (.slice g.2.1 g.1.1.length g.2.2.1) g.1.1/\ak.le σ g.2.2.2) (λg=>qI (λq:(List Tip)×Nat=>Zg x0 q.1 q.2) g.1) ((([]:List Tip),0),(none,0,σ)) (ζ 0 z) z (by repeat (first|exact trivial|refine ⟨z,?_⟩)) ⟨hh,(RS.nilF _ bg yj),(ak.le.refl _)⟩ (λg1 j1 hg1=> ?_);obtain ⟨⟨bI,aP⟩,⟨Dz,yA,τ116⟩⟩:=g1;obtain ⟨hh,dF,dR⟩:=hg1
 try dsimp only at dF
 dsimp only at dR;replace aA:=aA.mono dR
 try dsimp only
 obtain ⟨z1,hh,hR1⟩:=yO hh;dsimp only [Zg]at hh;have hr114b:=dF.rv.big;refine R8 ?_;refine ι z hh (λiG hh=> ?_) (λiG hh=> ?_)
 ·refine R1 ?_;refine TC.cutG (α:=((List Tip))×((Option Addr)×Nat×ak)) (rgs [(3,1),(5,2),(13,50)]) (λg=>[(3,.slice g.2.1 g.1.length g.2.2.1)]) (λg=>[]) (λg=>g.2.2.2) (λg=>Cz_ aP g.1=some z1/\RS g.2.2.2 2 bg (.slice g.2.1 g.1.length g.2.2.1) g.1/\ak.le τ116 g.2.2.2) ?_ (λg j hg=> ?_)
  ·refine R5 ?_;refine TC.cutG (α:=(Nat)×(Unit)) (rgs [(5,1),(13,17)]) (λg=>[(5,.int .i64 (g.1:Int))]) (λg=>[]) (λg=>τ116) (λg=>Ze bI x0 aP g.1=some z1) ?_ (λg j hg=> ?_)
   ·refine TC.block (TC.lp hh () (rgs [(5,1),(13,17)]) (λdI _=>([(5,.int .i64 (dI:Int))],[])) (ζ 0 z) ?_);rintro dI _ _ z2 hh hR2;dsimp only [Zh]at hh ⊢;refine R2 ?_;refine TC.draw [] (by kernel_rfl) (ν 0 z mI z (ν 1 z mS z (Δ 2 z lC z (ν 3 z (OpVal.lss z z z) z (ν 4 z mB z (TA.split 17 z (λh127=> ?_) (λh127=> ?_)))))))
    ·obtain ⟨h127,hh⟩:=iT h127 hh;refine TA.oN 5 z z mS (TA.oN 6 z z mI (TA.oN 7 z z iN (TA.oN 8 z z lT (TA.oN 9 z z mS (TA.oN 10 z z mI (TA.oN 11 z z iN (TA.oN 12 z z lT ?_)))))));obtain ⟨v22,u22,hh⟩:=bQ hh;refine TA.dv_ 13 (by kernel_rfl) z z z z z z (eG (Jd_ u22) z z pf166 z z z (k0 ?_));refine ν 14 z (lF z z z) z (R1 ?_);refine TC.cB z hh (λh128 hh=> ?_) (λh128 hh=> ?_)
     ·refine R7 ?_;exact nx hR2 hh () (ζ 0 z)
     refine R1 ?_;replace hh:=bF hR2 hh;refine R1 ?_;exact cf (dI,()) hh (ζ 0 z)
    obtain ⟨h127,hh⟩:=iF h127 hh;refine TA.of 5 z z (TA.of 6 z z (TA.of 7 z z (TA.of 8 z z (TA.of 9 z z (TA.of 10 z z (TA.of 11 z z (TA.of 12 z z (TA.of 13 z z (ν 14 z (qN z z z) z (R3 ?_))))))))));replace hh:=bF hR2 hh;refine R1 ?_;exact cf (dI,()) hh (ζ 0 z)
   obtain ⟨bC,_⟩:=g;have hh:=hg;clear hg
   try dsimp only
   dsimp only [Ze]at hh;refine TC.cutG (α:=(Unit)×(Unit)) (rgs [(30,15)]) (λg=>[]) (λg=>[]) (λg=>τ116) (λg=>B2_ bC bI x0 aP=some z1) ?_ (λg j hg=> ?_)
   ·refine Ψ (TC.draw [] (by kernel_rfl) (ν 0 z mI z (ν 1 z mS z (Δ 2 z lC z (ν 3 z (OpVal.lss z z z) z (ν 4 z mB z (TA.split 34 z (λiQ=> ?_) (λiQ=> ?_))))))))
    ·obtain ⟨iQ,hh⟩:=iT iQ hh;refine TA.oN 5 z z mS (TA.oN 6 z z mI (TA.oN 7 z z iN (TA.oN 8 z z lT (TA.oN 9 z z mS (TA.oN 10 z z mI (TA.oN 11 z z iN (TA.oN 12 z z lT (TA.oN 13 z z (da_ (p:=(nth bI bC bD)=(nth x0 aP bD)) z z z OX (OU (nth bI bC bD) (nth x0 aP bD)) z) (ν 14 z (lF z z z) z (R1 ?_))))))))));refine ι z hh (λmG hh=> ?_) (λmG hh=> ?_)
     ·refine R2 ?_;exact cf (bI,(Dz,yA,τ116)) ⟨hh,dF,(ak.le.refl _)⟩ (ζ 0 z)
     refine R1 ?_;exact cf ((),()) hh (ζ 0 z)
    obtain ⟨iQ,hh⟩:=iF iQ hh;refine TA.of 5 z z (TA.of 6 z z (TA.of 7 z z (TA.of 8 z z (TA.of 9 z z (TA.of 10 z z (TA.of 11 z z (TA.of 12 z z (TA.of 13 z z (ν 14 z (qN z z z) z (R3 ?_))))))))));exact cf ((),()) hh (ζ 0 z)
   obtain ⟨_,_⟩:=g;have hh:=hg;clear hg
   try dsimp only
   dsimp only [B2_]at hh;refine R9 ?_;obtain ⟨u46,hh⟩:=gd hh;obtain ⟨X7,uT,vC,BU⟩:=dF.subH bC (by omega);have hr132b:=vC.rv.big;refine TL.w z (BU z Ic Il z z) (TL.nilS 79 2 bg ?_);obtain ⟨DX,hh⟩:=gd hh;refine κ z (apF (.inl vC) DX (λDy Dk=> ?_));refine R9 ?_;refine κ z (gX (enc:=bg) [(nth x0 aP bD)] (λH_ XB=> ?_));refine φ 1 z z ?_;obtain ⟨u55,hh⟩:=gd hh;refine κ z (apF (.inr ⟨_,0,z⟩) u55 (λa139 nM=> ?_));refine R7 ?_;obtain ⟨u60,hh⟩:=gd hh;obtain ⟨a141,c141,Cm,BQ⟩:=dF.subL bC (by omega);refine TL.w z (BQ z Ic Il z z) ?_;obtain ⟨u61,hh⟩:=gd hh;refine κ z (apF (.inl Cm) u61 (λDx c143=> ?_));refine R5 ?_;refine TL.iw yj (λτ146 oz Cj=> ?_);replace dF:=dF.mono oz;refine R1 ?_;exact cf ((((([]:List Tip)++(bI.take bC))++[(nth x0 aP bD)])++(bI.drop bC)),(Dx,c143,τ146)) ⟨hh,Cj,oz⟩ (ζ 0 z)
  obtain ⟨kQ,⟨o_,o7,τ147⟩⟩:=g;obtain ⟨hh,pR,iE⟩:=hg
  try dsimp only at pR
  dsimp only at iE;replace dF:=dF.mono iE
  try dsimp only
  dsimp only [Cz_]at hh;have hr122b:=pR.rv.big;refine R5 ?_;obtain ⟨hh,xK⟩:=wG hR1 hh;exact lf ((kQ,(aP+1)),(o_,o7,τ147)) xK ⟨hh,pR,(dR.trans iE)⟩ (ζ 0 z)
 refine R1 ?_;replace hh:=bF hR1 hh;refine R6 ?_;refine θ ?_;obtain rfl:=so hh;exact rq [2] ⟨Dz,yA,z,dF,z⟩
def C2_(aP:Nat)(kQ:List Arc):Option (((List Arc)×Nat)⊕((List Arc))):=
 nxt (kQ,(aP+1))
def B0_(bC:Nat)(bI:List Arc)(x0:List Arc)(aP:Nat):Option (((List Arc)×Nat)⊕((List Arc))):=
 grd (0<=bC/\bC<=bI.length) (grd ((([]:List Arc).length+(bI.take bC).length) * 72<=140737488355328) (grd (((([]:List Arc)++(bI.take bC)).length+[(nth x0 aP aO)].length) * 72<=140737488355328) (grd (bC<=bI.length/\bI.length<=bI.length) (grd ((((([]:List Arc)++(bI.take bC))++[(nth x0 aP aO)]).length+(bI.drop bC).length) * 72<=140737488355328) (C2_ aP (((([]:List Arc)++(bI.take bC))++[(nth x0 aP aO)])++(bI.drop bC)))))))
def Zd(bI:List Arc)(x0:List Arc)(aP:Nat)(bC:Nat):Option (((List Arc)×Nat)⊕((List Arc))):=
 aI (decide ((bC:Int)<(bI.length:Int))) (aI (decide ((nth bI bC aO)=(nth x0 aP aO))) (C2_ aP bI) (B0_ bC bI x0 aP)) (B0_ bC bI x0 aP)
def Zj(bI:List Arc)(x0:List Arc)(aP:Nat)(dI:Nat):Option ((Nat)⊕(((List Arc)×Nat)⊕((List Arc)))):=
 aI (decide ((dI:Int)<(bI.length:Int))) (bnd (D8_ (nth bI dI aO) (nth x0 aP aO)) (λv22=>aI v22 (nxt (dI+1)) (fin (Zd bI x0 aP dI)))) (fin (Zd bI x0 aP dI))
def Zf(x0:List Arc)(bI:List Arc)(aP:Nat):Option (((List Arc)×Nat)⊕((List Arc))):=
 aI (decide ((aP:Int)<(x0.length:Int))) (aV (λq:Nat=>Zj bI x0 aP q) 0) (fin (some bI))
def Dz_(x0:List Arc):Option ((List Arc)):=
 aV (λq:(List Arc)×Nat=>Zf x0 q.1 q.2) (([]:List Arc),0)
def Ji_(σ:ak)(r:(List Arc)):Value->ak->List Res->Prop:=λv σ' H'=>
 ∃a1 c1,v= .slice a1 r.length c1/\RS σ' 8 dG (.slice a1 r.length c1) r/\H'=[]
theorem I6_{σ:ak}{x0:List Arc}(aA:RS σ 8 dG (.slice ay x0.length au) x0){r:(List Arc)}(hh:Dz_ x0=some r):
  Con prog 105 #[.slice ay x0.length au] σ [] (Ji_ σ r):=by
 dsimp only [Dz_]at hh;have f0_0b:=aA.rv.big;refine cM 64 Tryz.func105 (λw0=> ?_);refine R14 ?_;refine TC.zl (α:=((List Arc)×Nat)×((Option Addr)×Nat×ak)) (rgs [(3,60)]) (λg=>[(3,.slice g.2.1 g.1.1.length g.2.2.1),(4,.int .i64 (g.1.2:Int))]) (λg=>[]) (λg=>g.2.2.2) (λg=>aV (λq:(List Arc)×Nat=>Zf x0 q.1 q.2) g.1=some r/\RS g.2.2.2 8 dG (.slice g.2.1 g.1.1.length g.2.2.1) g.1.1/\ak.le σ g.2.2.2) (λg=>qI (λq:(List Arc)×Nat=>Zf x0 q.1 q.2) g.1) ((([]:List Arc),0),(none,0,σ)) (ζ 0 z) z (by repeat (first|exact trivial|refine ⟨z,?_⟩)) ⟨hh,(RS.nilF _ dG EM),(ak.le.refl _)⟩ (λg1 j1 hg1=> ?_);obtain ⟨⟨bI,aP⟩,⟨Dz,yA,τ116⟩⟩:=g1;obtain ⟨hh,dF,dR⟩:=hg1
 try dsimp only at dF
 dsimp only at dR;replace aA:=aA.mono dR
 try dsimp only
 obtain ⟨z1,hh,hR1⟩:=yO hh;dsimp only [Zf]at hh;have hr114b:=dF.rv.big;refine R8 ?_;refine ι z hh (λiG hh=> ?_) (λiG hh=> ?_)
 ·refine R1 ?_;refine TC.cutG (α:=((List Arc))×((Option Addr)×Nat×ak)) (rgs [(3,1),(5,2),(13,50)]) (λg=>[(3,.slice g.2.1 g.1.length g.2.2.1)]) (λg=>[]) (λg=>g.2.2.2) (λg=>C2_ aP g.1=some z1/\RS g.2.2.2 8 dG (.slice g.2.1 g.1.length g.2.2.1) g.1/\ak.le τ116 g.2.2.2) ?_ (λg j hg=> ?_)
  ·refine R5 ?_;refine TC.cutG (α:=(Nat)×(Unit)) (rgs [(5,1),(13,17)]) (λg=>[(5,.int .i64 (g.1:Int))]) (λg=>[]) (λg=>τ116) (λg=>Zd bI x0 aP g.1=some z1) ?_ (λg j hg=> ?_)
   ·refine TC.block (TC.lp hh () (rgs [(5,1),(13,17)]) (λdI _=>([(5,.int .i64 (dI:Int))],[])) (ζ 0 z) ?_);rintro dI _ _ z2 hh hR2;dsimp only [Zj]at hh ⊢;refine R2 ?_;refine TC.draw [] (by kernel_rfl) (ν 0 z mI z (ν 1 z mS z (Δ 2 z lC z (ν 3 z (OpVal.lss z z z) z (ν 4 z mB z (TA.split 17 z (λh127=> ?_) (λh127=> ?_)))))))
    ·obtain ⟨h127,hh⟩:=iT h127 hh;refine TA.oN 5 z z mS (TA.oN 6 z z mI (TA.oN 7 z z iN (TA.oN 8 z z lT (TA.oN 9 z z mS (TA.oN 10 z z mI (TA.oN 11 z z iN (TA.oN 12 z z lT ?_)))))));obtain ⟨v22,u22,hh⟩:=bQ hh;refine TA.dv_ 13 (by kernel_rfl) z z z z z z (eG (Jb_ u22) z z pf167 z z z (k0 ?_));refine ν 14 z (lF z z z) z (R1 ?_);refine TC.cB z hh (λh128 hh=> ?_) (λh128 hh=> ?_)
     ·refine R7 ?_;exact nx hR2 hh () (ζ 0 z)
     refine R1 ?_;replace hh:=bF hR2 hh;refine R1 ?_;exact cf (dI,()) hh (ζ 0 z)
    obtain ⟨h127,hh⟩:=iF h127 hh;refine TA.of 5 z z (TA.of 6 z z (TA.of 7 z z (TA.of 8 z z (TA.of 9 z z (TA.of 10 z z (TA.of 11 z z (TA.of 12 z z (TA.of 13 z z (ν 14 z (qN z z z) z (R3 ?_))))))))));replace hh:=bF hR2 hh;refine R1 ?_;exact cf (dI,()) hh (ζ 0 z)
   obtain ⟨bC,_⟩:=g;have hh:=hg;clear hg
   try dsimp only
   dsimp only [Zd]at hh;refine TC.cutG (α:=(Unit)×(Unit)) (rgs [(30,15)]) (λg=>[]) (λg=>[]) (λg=>τ116) (λg=>B0_ bC bI x0 aP=some z1) ?_ (λg j hg=> ?_)
   ·refine Ψ (TC.draw [] (by kernel_rfl) (ν 0 z mI z (ν 1 z mS z (Δ 2 z lC z (ν 3 z (OpVal.lss z z z) z (ν 4 z mB z (TA.split 34 z (λiQ=> ?_) (λiQ=> ?_))))))))
    ·obtain ⟨iQ,hh⟩:=iT iQ hh;refine TA.oN 5 z z mS (TA.oN 6 z z mI (TA.oN 7 z z iN (TA.oN 8 z z lT (TA.oN 9 z z mS (TA.oN 10 z z mI (TA.oN 11 z z iN (TA.oN 12 z z lT (TA.oN 13 z z (da_ (p:=(nth bI bC aO)=(nth x0 aP aO)) z z z OY (OV (nth bI bC aO) (nth x0 aP aO)) z) (ν 14 z (lF z z z) z (R1 ?_))))))))));refine ι z hh (λmG hh=> ?_) (λmG hh=> ?_)
     ·refine R2 ?_;exact cf (bI,(Dz,yA,τ116)) ⟨hh,dF,(ak.le.refl _)⟩ (ζ 0 z)
     refine R1 ?_;exact cf ((),()) hh (ζ 0 z)
    obtain ⟨iQ,hh⟩:=iF iQ hh;refine TA.of 5 z z (TA.of 6 z z (TA.of 7 z z (TA.of 8 z z (TA.of 9 z z (TA.of 10 z z (TA.of 11 z z (TA.of 12 z z (TA.of 13 z z (ν 14 z (qN z z z) z (R3 ?_))))))))));exact cf ((),()) hh (ζ 0 z)
   obtain ⟨_,_⟩:=g;have hh:=hg;clear hg
   try dsimp only
   dsimp only [B0_]at hh;refine R9 ?_;obtain ⟨u46,hh⟩:=gd hh;obtain ⟨X7,uT,vC,BU⟩:=dF.subH bC (by omega);have hr132b:=vC.rv.big;refine TL.w z (BU z Ih Io z z) (TL.nilS 49 8 dG ?_);obtain ⟨DX,hh⟩:=gd hh;refine κ z (apF (.inl vC) DX (λDy Dk=> ?_));refine R9 ?_;refine κ z (gX (enc:=dG) [(nth x0 aP aO)] (λH_ XB=> ?_));refine φ 1 z z ?_;obtain ⟨u55,hh⟩:=gd hh;refine κ z (apF (.inr ⟨_,0,z⟩) u55 (λa139 nM=> ?_));refine R7 ?_;obtain ⟨u60,hh⟩:=gd hh;obtain ⟨a141,c141,Cm,BQ⟩:=dF.subL bC (by omega);refine TL.w z (BQ z Ih Io z z) ?_;obtain ⟨u61,hh⟩:=gd hh;refine κ z (apF (.inl Cm) u61 (λDx c143=> ?_));refine R5 ?_;refine TL.iw EM (λτ146 oz Cj=> ?_);replace dF:=dF.mono oz;refine R1 ?_;exact cf ((((([]:List Arc)++(bI.take bC))++[(nth x0 aP aO)])++(bI.drop bC)),(Dx,c143,τ146)) ⟨hh,Cj,oz⟩ (ζ 0 z)
  obtain ⟨kQ,⟨o_,o7,τ147⟩⟩:=g;obtain ⟨hh,pR,iE⟩:=hg
  try dsimp only at pR
  dsimp only at iE;replace dF:=dF.mono iE
  try dsimp only
  dsimp only [C2_]at hh;have hr122b:=pR.rv.big;refine R5 ?_;obtain ⟨hh,xK⟩:=wG hR1 hh;exact lf ((kQ,(aP+1)),(o_,o7,τ147)) xK ⟨hh,pR,(dR.trans iE)⟩ (ζ 0 z)
 refine R1 ?_;replace hh:=bF hR1 hh;refine R6 ?_;refine θ ?_;obtain rfl:=so hh;exact rq [2] ⟨Dz,yA,z,dF,z⟩
def MO(x0:Fst):Option (Fst×Int):=
 bnd (Ib x0) (λv5=>aI (!v5) (some ((⟨0,([]:List Tip),([]:List Tip),([]:List Arc)⟩:Fst),1)) (bnd (Cs_ x0.starts) (λv14=>bnd (Cs_ x0.ends) (λv17=>bnd (Dz_ x0.arcs) (λv20=>some ((⟨x0.states,v14,v17,v20⟩:Fst),0))))))
theorem Jy_{σ:ak}{x0:Fst}(aA:RS σ 2 bg (.slice ay x0.starts.length au) x0.starts)(aG:RS σ 2 bg (.slice aC x0.ends.length aJ) x0.ends)(aH:RS σ 8 dG (.slice aK x0.arcs.length aF) x0.arcs){r:Fst×Int}(hh:MO x0=some r):
  Con prog 43 #[.agg (eP x0 ay au aC aJ aK aF)] σ [] (MK σ r):=by
 dsimp only [MO]at hh;refine cM 20 Tryz.func43 (λw0=> ?_);refine R2 ?_;refine TL.bx (λaS=> ?_);refine TL.al (λbn=> ?_);refine R6 ?_;obtain ⟨v5,u5,hh⟩:=bQ hh;refine κ z (eG (P8 (x0:=x0) aA aG aH u5) z z NJ z z z ?_);refine R2 ?_;refine TC.cB z hh (λbM hh=> ?_) (λbM hh=> ?_)
 ·refine R6 ?_;refine TC.rt 1 ?_;obtain rfl:=so hh;exact rz
 refine R2 ?_;obtain ⟨v14,u14,hh⟩:=bQ hh;obtain ⟨v17,vV,hh⟩:=bQ hh;obtain ⟨v20,u20,hh⟩:=bQ hh;refine TC.draw [12,13] (by kernel_rfl) (ν 0 z fL z (Δ 1 z lL z (ν 2 z fL z (Δ 3 z lL z (ν 5 z fL z (Δ 6 z lL z (ν 8 z fL z (Δ 9 z lL z (Φ 4 z (OpOk.call (Hd_ aA u14) z z QV z z z z ?_))))))))));rintro _ τ109 _ dh ⟨a109_1,c109_1,rfl,hr109_0,rfl⟩;replace aG:=aG.mono dh;replace aH:=aH.mono dh;refine kl 0 dh (Φ 7 z (OpOk.call (Hd_ aG vV) z z QV z z z z ?_));rintro _ τ110 _ g_ ⟨a110_1,c110_1,rfl,hr110_0,rfl⟩;replace aH:=aH.mono g_;replace hr109_0:=hr109_0.mono g_;refine kl 0 (dh.trans g_) (Φ 10 z (OpOk.call (I6_ aH u20) z z pf105 z z z z ?_));rintro _ τ111 _ jw ⟨a111_1,c111_1,rfl,hr111_0,rfl⟩;replace hr109_0:=hr109_0.mono jw;replace hr110_0:=hr110_0.mono jw;refine kl 0 ((dh.trans g_).trans jw) (ν 11 z bL z (TA.last 12 (by kernel_rfl) z z z (storeAll z Vq z z z z z z ?_)));refine TZ.v 13 (by kernel_rfl) z z z mI z z (R1 ?_);refine TC.rt 1 ?_;obtain rfl:=so hh;exact rz
end Go.Proofs.YtcfgkcfcddfccaaGreatDoor
end

noncomputable section
namespace Go.E
open Go
section
variable {β:Type} {E' E size:Nat} {enc:β->List Value} {v:Value}
theorem Zn.one(l:List β)(p:Option Addr×Nat):Zn [(l,p)] [l]:=rfl
theorem Zn.app{z y:List (NP β)}{l k:List (List β)}(h:Zn z l)(h2:Zn y k):Zn (z++y) (l++k):=by
  unfold Zn at *;rw [List.map_append,h,h2]
theorem Reach.dr_{w0:World}{C:List Nat}{σ0 σ:ak}{w:World}{F:List Res}(E' E size:Nat)(enc:β->List Value)(h:Reach w0 C σ0 σ w F):Reach w0 C σ0 σ w (Res.nest E' E size enc (.slice none 0 0) []::F):=
  Reach.star (G:=[_]) (h.nilRow E' 1)
variable {X:Ctx} {e:Env} {σ:ak} {H F:List Res} {o:Oper} {x y:Operand} {K:Env->ak->List Res->Prop} {z u:List (NP β)} {l k:List (List β)}
theorem OpOk.buildN{T d:Nat}{parts:Array (Nat×Operand)}{zv:Value}{a:Option Addr}{m c:Nat}{l':List β}(hm:l'.length=m)(ho:o.op= .buildSlice T 1 parts)(ht:X.P.underlying T=some (.slice E'))(hs:szOf X.P E'=some 1)(hz:zeroOf X.P E'=some zv)(hd:o.dst=some d)(hn:Nat.blt d X.n=true)
    (hz0:zv.cells.toList=[.slice none 0 0]) (hf:Iu (λi=>some (i * 1,1)) [.slice none 0 0] (parts.toList.map λx=>(x.1,ev e x.2))=some [.slice a m c])
    (kk: ∀a1 c1,Zn [(l',(a,c))] [l']->K (upd e d (.slice a1 ([l']:List (List β)).length c1)) σ (Res.nest E' E size enc (.slice a1 ([l']:List (List β)).length c1) [(l',(a,c))]::F)):OpOk X o e σ (ε E size enc (.slice a m c) l'::F) K:=by
  subst hm;refine OpOk.then (OpOk.lit (enc:=(pz:NP β->List Value)) (K:=λe' σ' G=> ∃a1 c1,e'=upd e d (.slice a1 1 c1)/\σ'=σ/\G=ε E' 1 pz (.slice a1 1 c1) [(l',(a,c))]::ε E size enc (.slice a l'.length c) l'::F) [(l',(a,c))] ho ht hs hz hd hn rfl ks_ (by decide) (by decide) sD hz0 (by decide) hf (by decide) q1_ λa1 c1=>⟨a1,c1,rfl,rfl,rfl⟩) ?_;rintro e' σ' G ⟨a1,c1,rfl,rfl,rfl⟩;exact ⟨_,λw h=>Reach.star (G:=[ε E' 1 pz (.slice a1 1 c1) [(l',(a,c))],OC E size enc (l',(a,c))]) h,kk a1 c1 (Zn.one l' (a,c))⟩
theorem OpOk.dh_{T d jT:Nat}{zv w:Value}{ty:TypeId}(ho:o.op= .call {callee:= .builtin .append,args:= #[x,y],argTypes:= #[T,ty]})(hty:ty=T)(ht:X.P.underlying T=some (.slice E'))(hs:szOf X.P E'=some 1)(hby:byOf X.P E'=some jT)(hz:zeroOf X.P E'=some zv)
    (hd:o.dst=some d) (hn:Nat.blt d X.n=true) (hzs:zv.cells.size=1) (hx:ev e x=v) (hy:ev e y=w) (hZ:Zn z l) (hU:Zn u k) (hb0:(l.length+k.length) * jT<=140737488355328) (kW:0<jT)
    (kk: ∀a c,Zn (z++u) (l++k)->K (upd e d (.slice a (l++k).length c)) σ (Res.nest E' E size enc (.slice a (l++k).length c) (z++u)::F)):OpOk X o e σ (Res.nest E' E size enc v z::Res.nest E' E size enc w u::F) K:=by
  refine OpOk.by (H':=ε E' 1 pz v z::ε E' 1 pz w u::(qH E size enc z++(qH E size enc u++F))) (λw' h=> ?_) ?_
  · have h1:=h.Ub
    have h2:Reach _ _ _ _ _ (Res.nest E' E size enc w u::(ε E' 1 pz v z::qH E size enc z++F)):=h1.perm (by
      simp only [List.cons_append];exact (List.perm_middle (l₁:=ε E' 1 pz v z::qH E size enc z)).symm)
    have h3:=h2.Ub;refine h3.perm ?_;simp only [List.cons_append];refine List.Perm.trans (List.Perm.swap _ _ _) (List.Perm.cons _ ?_);refine List.Perm.symm ((List.perm_middle (l₁:=qH E size enc u)).trans (List.Perm.cons _ ?_));rw [<-zQ,<-zQ];exact (List.perm_append_comm).append_right F
  refine OpOk.then (OpOk.Z_ (enc:=(pz:NP β->List Value)) (K:=λe' σ' G=> ∃a c,e'=upd e d (.slice a (z++u).length c)/\σ'=σ/\G=ε E' 1 pz (.slice a (z++u).length c) (z++u)::ε E' 1 pz w u::(qH E size enc z++(qH E size enc u++F))) ho hty ht hs hby hz hd hn (by decide) hzs hx hy (.inr ⟨_,0,rfl⟩) (by rw [hZ.len,hU.len];exact hb0) kW λa c=>⟨a,c,rfl,rfl,rfl⟩) ?_;rintro e' σ' G ⟨a,c,rfl,rfl,rfl⟩;have hl:(z++u).length=(l++k).length:=by rw [gu,gu,hZ.len,hU.len]
  rw [hl];refine ⟨_,λw' h=>Reach.star ?_,kk a c (hZ.app hU)⟩;have h1:=h.sub (H':=ε E' 1 pz (.slice a (l++k).length c) (z++u)::(qH E size enc z++(qH E size enc u++F))) (List.Sublist.cons_cons _ (List.sublist_cons_self _ _));have e1:qH E size enc (z++u)=qH E size enc z++qH E size enc u:=List.map_append;rw [e1];simpa only [List.cons_append,zQ]using h1
end
end Go.E
end

noncomputable section
namespace Go.Proofs.YtcfgkcfcddfccaaGreatDoor
open Go Go.E Go.E.OpVal Go.E.OpOk Go.Proofs.Tryz
open List (replicate)
theorem ag35:aggOf Tryz.prog 35=some true:=by kernel_rfl
theorem by33:byOf Tryz.prog 33=some 24:=by kernel_rfl
theorem pf107:plainF Tryz.prog 107=true:=by kernel_rfl
theorem pf108:plainF Tryz.prog 108=true:=by kernel_rfl
theorem pf109:plainF Tryz.prog 109=true:=by kernel_rfl
theorem pf110:plainF Tryz.prog 110=true:=by kernel_rfl
theorem pf111:plainF Tryz.prog 111=true:=by kernel_rfl
theorem pf112:plainF Tryz.prog 112=true:=by kernel_rfl
theorem QU:plainF Tryz.prog 113=true:=by kernel_rfl
theorem aaj_:plainF Tryz.prog 114=true:=by kernel_rfl
theorem pf115:plainF Tryz.prog 115=true:=by kernel_rfl
theorem vm_:plainF Tryz.prog 116=true:=by kernel_rfl
theorem Qz:plainF Tryz.prog 171=true:=by kernel_rfl
theorem pf172:plainF Tryz.prog 172=true:=by kernel_rfl
theorem pf196:plainF Tryz.prog 196=true:=by kernel_rfl
theorem Vs:plainF Tryz.prog 53=true:=by kernel_rfl
theorem pf54:plainF Tryz.prog 54=true:=by kernel_rfl
theorem pl35:plOf Tryz.prog 35=some #[(0,1),(1,1),(2,1)]:=by kernel_rfl
theorem wf_:szOf Tryz.prog 33=some 1:=by kernel_rfl
theorem NR:szOf Tryz.prog 35=some 3:=by kernel_rfl
theorem U8:zeroOf Tryz.prog 33=some (aT):=by kernel_rfl
theorem ze35:zeroOf Tryz.prog 35=some (.agg #[aT,aT,aT]):=by kernel_rfl
theorem ob_{σ:ak}(s:BSet){b:Int}(hb:0<=b/\b<256):Con prog 116 #[sK s,.int .i64 b] σ [] (iU (.bool (s.has b.toNat)) σ):=by
 have h:=qg_ σ s b.toNat (BSet.isOk _) (by omega)
 rwa [Int.toNat_of_nonneg hb.1]at h
def U2(x0:List BSet)(x1:Int)(x2:Int)(gW:Nat):Option ((Nat)⊕(Bool)):=
 aI (decide ((gW:Int)<(x0.length:Int))) (grd (0<=x1/\x1<256) (grd (0<=x2/\x2<256) (aI (((nth x0 gW BSet.zero).has x1.toNat) != ((nth x0 gW BSet.zero).has x2.toNat)) (fin (some false)) (nxt (gW+1))))) (fin (some true))
def E5_(x0:List BSet)(x1:Int)(x2:Int):Option (Bool):=
 aV (λq:Nat=>U2 x0 x1 x2 q) 0
theorem Ju_{σ:ak}{x0:List BSet}{x1:Int}{x2:Int}(aA:RS σ 4 lD (.slice ay x0.length au) x0){r:Bool}(hh:E5_ x0 x1 x2=some r):
  Con prog 196 #[.slice ay x0.length au,.int .i64 x1,.int .i64 x2] σ [] (iU (.bool r) σ):=by
 dsimp only [E5_]at hh;have f0_0b:=aA.rv.big;refine cM 27 Tryz.func196 (λw0=> ?_);refine R10 ?_;refine TC.lp hh () (rgs [(6,21)]) (λgW _=>([(7,.int .i64 (gW:Int))],[])) (ζ 0 z) ?_;rintro gW _ _ z1 hh hR1;dsimp only [U2]at hh ⊢;refine R8 ?_;refine ι z hh (λdS hh=> ?_) (λdS hh=> ?_)
 ·refine R4 ?_;obtain ⟨u12,hh⟩:=gd hh;obtain ⟨Jb,hh⟩:=gd hh;refine TC.draw [] (by kernel_rfl) (ν 0 z mS z (ν 1 z mI z (Δ 2 z iN z (Δ 3 z lT z (ν 4 z mI z (ν 6 z mS z (ν 7 z mI z (Δ 8 z iN z (Δ 9 z lT z (ν 10 z mI z (Φ 5 z (eG (ob_ (nth x0 gW BSet.zero) u12) z z vm_ z z z (k0 ?_)))))))))))));refine Φ 11 z (eG (ob_ (nth x0 gW BSet.zero) Jb) z z vm_ z z z (k0 ?_));refine ν 12 z (neqB z z z underlying4) z (R1 ?_);refine TC.cB z hh (λbM hh=> ?_) (λbM hh=> ?_)
  ·refine R4 ?_;refine θ ?_;replace hh:=bF hR1 hh;obtain rfl:=so hh;exact rq [6] ⟨z,z,z⟩
  refine R6 ?_;exact nx hR1 hh () (ζ 0 z)
 refine R1 ?_;replace hh:=bF hR1 hh;refine R5 ?_;refine θ ?_;obtain rfl:=so hh;exact rq [6] ⟨z,z,z⟩
def Db_(i138:Int)(i143:Int):Option ((Int×Int)⊕((aj×aj×Nat)⊕(aj))):=
 nxt (i143,(IntKind.i64.wrap (i138 - 1)))
def Dc_(aU:Nat)(aX:aj)(uF:Int)(jY:aj):Option ((aj×aj×Nat)⊕(aj)):=
 grd (aU<aX.length) (nxt ((aX.set aU uF),jY,(aU+1)))
def Zi(bT:aj)(x0:List BSet)(aU:Nat)(aX:aj)(uF:Int)(i138:Int):Option ((Int×Int)⊕((aj×aj×Nat)⊕(aj))):=
 aI (decide (0<=i138)) (grd (0<=i138/\i138<(bT.length:Int)) (bnd (E5_ x0 (nth bT i138.toNat 0) (aU:Int)) (λv23=>aI v23 (Db_ i138 i138) (Db_ i138 uF)))) (fin (aI (decide (uF=(bT.length:Int))) (grd ((bT.length+[(aU:Int)].length) * 8<=140737488355328) (Dc_ aU aX uF (bT++[(aU:Int)]))) (Dc_ aU aX uF bT)))
def Y6(x0:List BSet)(aX:aj)(bT:aj)(aU:Nat):Option ((aj×aj×Nat)⊕(aj)):=
 aI (decide ((aU:Int)<256)) (aV (λq:Int×Int=>Zi bT x0 aU aX q.1 q.2) ((bT.length:Int),(IntKind.i64.wrap ((bT.length:Int) - 1)))) (fin (some aX))
def C6_(x0:List BSet):Option (aj):=
 aV (λq:aj×aj×Nat=>Y6 x0 q.1 q.2.1 q.2.2) ((replicate 256 (0:Int)),([]:aj),0)
theorem Hm_{σ:ak}{x0:List BSet}(aA:RS σ 4 lD (.slice ay x0.length au) x0){r:aj}(hh:C6_ x0=some r):
  Con prog 171 #[.slice ay x0.length au] σ [] (TV σ r):=by
 dsimp only [C6_]at hh;refine cM 43 Tryz.func171 (λw0=> ?_);refine R6 ?_;refine κ z (IC (m:=256) (enc:=aB) (0:Int) z yT lG T_ Fh z z z z (by omega) (by decide) aW (by decide) z vX (λlg kZ=> ?_));refine R12 ?_;refine TC.nilS 3 1 aB (TC.lk hh (nO,oO) (rgs [(4,4),(9,33)]) (λ⟨aX,bT,aU⟩ ⟨tZ,tN⟩=>([(4,.slice tZ bT.length tN),(5,.int .i64 (aU:Int))],[ε 3 1 aB (.slice lg (replicate 256 (0:Int)).length kZ) aX,dW 3 aB tZ tN bT])) (λ⟨aX,_,_⟩ ⟨_,_⟩=>aX.length=(replicate 256 (0:Int)).length) z (ψ [1] 2) ?_);rintro ⟨aX,bT,aU⟩ ⟨tZ,tN⟩ _ z1 hh hR1 J5;dsimp only [Y6]at hh J5 ⊢;refine ξ 0 z (λGt=> ?_);refine ξ 1 z (λhb127=> ?_);refine R6 ?_;refine ι z hh (λh128 hh=> ?_) (λh128 hh=> ?_)
 ·refine R18 ?_;refine TC.lk hh () (rgs [(6,2),(18,12)]) (λ⟨uF,i138⟩ _=>([(6,.int .i64 uF),(7,.int .i64 i138)],[ε 3 1 aB (.slice lg (replicate 256 (0:Int)).length kZ) aX,dW 3 aB tZ tN bT])) (λ⟨_,_⟩ _=>aX.length=(replicate 256 (0:Int)).length) J5 (ψ [1,1] 2) ?_;rintro ⟨uF,i138⟩ _ _ z2 hh hR2 CW;dsimp only [Zi]at hh CW ⊢;refine ξ 0 z (λhb139=> ?_);refine ξ 1 z (λhb140=> ?_);refine R6 ?_;refine ι z hh (λXf hh=> ?_) (λXf hh=> ?_)
  ·refine R1 ?_;refine TC.cutG (α:=(Int)×(Unit)) (rgs [(6,1),(22,8)]) (λg=>[(6,.int .i64 g.1)]) (λg=>[ε 3 1 aB (.slice lg (replicate 256 (0:Int)).length kZ) aX,dW 3 aB tZ tN bT]) (λg=>σ) (λg=>Db_ i138 g.1=some z2/\aX.length=(replicate 256 (0:Int)).length) ?_ (λg j hg=> ?_)
   ·refine R6 ?_;obtain ⟨u20,hh⟩:=gd hh;refine TL.iS 1 z (λhs144=> ?_);refine R3 ?_;obtain ⟨v23,u23,hh⟩:=bQ hh;refine κ z (eG (Ju_ aA u23) z z pf196 z z z ?_);refine R1 ?_;refine TC.cB z hh (λh145 hh=> ?_) (λh145 hh=> ?_)
    ·refine R4 ?_;exact cf (i138,()) ⟨hh,CW⟩ (ψ [1,1] 2)
    refine R1 ?_;exact cf (uF,()) ⟨hh,CW⟩ (ψ [1,1] 2)
   obtain ⟨i143,_⟩:=g;obtain ⟨hh,pW⟩:=hg
   try dsimp only at pW ⊢
   dsimp only [Db_]at hh;refine ξ 0 z (λhb146=> ?_);refine ξ 1 z (λTI=> ?_);refine R5 ?_;exact nk hR2 hh () (ψ [1,1] 2) pW
  refine R1 ?_;replace hh:=bF hR2 hh;refine R1 ?_;refine TC.cutG (α:=(aj)×((Option Addr)×Nat)) (rgs [(4,1),(30,8)]) (λg=>[(4,.slice g.2.1 g.1.length g.2.2)]) (λg=>[ε 3 1 aB (.slice lg (replicate 256 (0:Int)).length kZ) aX,ε 3 1 aB (.slice g.2.1 g.1.length g.2.2) g.1]) (λg=>σ) (λg=>Dc_ aU aX uF g.1=some z1/\aX.length=(replicate 256 (0:Int)).length) ?_ (λg j hg=> ?_)
  ·refine R7 ?_;refine ι z hh (λLd hh=> ?_) (λLd hh=> ?_)
   ·refine R3 ?_;refine κ z (gX (enc:=aB) [(aU:Int)] (λa154 oZ=> ?_));refine φ 2 z z ?_;obtain ⟨u36,hh⟩:=gd hh;refine κ z (apF (.inr ⟨_,0,z⟩) u36 (λa157 zi=> ?_));refine R2 ?_;exact cf ((bT++[(aU:Int)]),(a157,zi)) ⟨hh,CW⟩ (ψ [2] 2)
   refine R1 ?_;exact cf (bT,(tZ,tN)) ⟨hh,CW⟩ (ψ [1,1] 2)
  obtain ⟨jY,⟨E8,c152⟩⟩:=g;obtain ⟨hh,SG⟩:=hg
  try dsimp only at SG ⊢
  dsimp only [Dc_]at hh;refine ξ 0 z (λhb159=> ?_);refine ξ 1 z (λhb160=> ?_);refine R4 ?_;obtain ⟨u41,hh⟩:=gd hh;refine TL.iS 0 z (λhs161=> ?_);refine TL.w z iN ?_;have hn162:(aX.set aU uF).length=(replicate 256 (0:Int)).length:=by rw [eX];exact SG
  refine κ z (qp uF z lG z z z z aW vX (by omega) (by omega) ?_);refine R6 ?_;exact nk hR1 hh (E8,c152) (ψ [1,1] 2) hn162
 refine R1 ?_;replace hh:=bF hR1 hh;refine R6 ?_;rw [<-J5];refine TC.rt 1 ?_;obtain rfl:=so hh;exact rz
def Et_(x0:List BSet):Option ((List BSet)×Int):=
 aI (decide (1024<(x0.length:Int))) (some (([]:List BSet),2)) (bnd (C6_ x0) (λv9=>bnd (UF v9) (λv10=>some (v10.1,v10.2))))
theorem Jn_{σ:ak}{x0:List BSet}(aA:RS σ 4 lD (.slice ay x0.length au) x0){r:(List BSet)×Int}(hh:Et_ x0=some r):
  Con prog 108 #[.slice ay x0.length au] σ [] (Ii_ σ r):=by
 dsimp only [Et_]at hh;refine cM 12 Tryz.func108 (λw0=> ?_);refine R12 ?_;refine ι z hh (λiR hh=> ?_) (λiR hh=> ?_)
 ·refine R5 ?_;refine θ ?_;obtain rfl:=so hh;exact rq [2,3] ⟨none,0,z,(RS.nilF _ lD EN),z⟩
 refine R4 ?_;obtain ⟨v9,u9,hh⟩:=bQ hh;refine κ z (OpOk.call (Hm_ aA u9) z z Qz z z z z ?_);rintro _ _ _ WL ⟨a102_1,c102_1,rfl,rfl,rfl⟩;refine TL.iw aW (λτ106 qh JI=> ?_);obtain ⟨v10,u10,hh⟩:=bQ hh;refine κ z (OpOk.call (Ib_ JI u10) z z QA z z z z ?_);rintro _ τ107 _ jy ⟨a107_1,c107_1,rfl,hr107_0,rfl⟩;refine R5 ?_;refine θ ?_;obtain rfl:=so hh;exact rq [2,3] ⟨a107_1,c107_1,z,hr107_0,z⟩
def Cv_(cZ:Nat)(k118:Nat)(oU:Nat):Option ((Nat×Nat×Nat)⊕((Nat×Nat)⊕(Bool))):=
 nxt (k118,oU,(cZ+1))
def Y2(x0:List BSet)(yZ:Nat)(fO:Nat)(aP:Nat)(cZ:Nat):Option ((Nat×Nat×Nat)⊕((Nat×Nat)⊕(Bool))):=
 aI (decide ((cZ:Int)<(x0.length:Int))) (grd (yZ<256) (aI ((nth x0 cZ BSet.zero).has yZ) (grd (aP+1<=9223372036854775807) (aI (decide ((fO:Int)<(cZ:Int))) (fin (fin (some false))) (aI (decide ((cZ:Int)=(fO:Int))) (grd (fO+1<=9223372036854775807) (Cv_ cZ (fO+1) (aP+1))) (Cv_ cZ fO (aP+1))))) (Cv_ cZ fO aP))) (fin (aI (decide ((aP:Int)≠1)) (fin (some false)) (nxt (fO,(yZ+1)))))
def YV(x0:List BSet)(aZ:Nat)(yZ:Nat):Option ((Nat×Nat)⊕(Bool)):=
 aI (decide ((yZ:Int)<256)) (aV (λq:Nat×Nat×Nat=>Y2 x0 yZ q.1 q.2.1 q.2.2) (aZ,0,0)) (fin (some (decide ((aZ:Int)=(x0.length:Int)))))
def E8_(x0:List BSet):Option (Bool):=
 aV (λq:Nat×Nat=>YV x0 q.1 q.2) (0,0)
theorem Jq_{σ:ak}{x0:List BSet}(aA:RS σ 4 lD (.slice ay x0.length au) x0){r:Bool}(hh:E8_ x0=some r):
  Con prog 172 #[.slice ay x0.length au] σ [] (iU (.bool r) σ):=by
 dsimp only [E8_]at hh;have f0_0b:=aA.rv.big;refine cM 39 Tryz.func172 (λw0=> ?_);refine R14 ?_;refine TC.lp hh () (rgs [(2,33)]) (λ⟨aZ,yZ⟩ _=>([(3,.int .i64 (aZ:Int)),(4,.int .i64 (yZ:Int))],[])) (ζ 0 z) ?_;rintro ⟨aZ,yZ⟩ _ _ z1 hh hR1;dsimp only [YV]at hh ⊢;refine R6 ?_;refine ι z hh (λfB hh=> ?_) (λfB hh=> ?_)
 ·refine R13 ?_;refine TC.lp hh () (rgs [(2,2),(5,2),(11,22)]) (λ⟨fO,aP,cZ⟩ _=>([(3,.int .i64 (fO:Int)),(5,.int .i64 (aP:Int)),(6,.int .i64 (cZ:Int))],[])) (ζ 0 z) ?_;rintro ⟨fO,aP,cZ⟩ _ _ z2 hh hR2;dsimp only [Y2]at hh ⊢;refine R8 ?_;refine ι z hh (λoG hh=> ?_) (λoG hh=> ?_)
  ·refine R1 ?_;refine TC.cutG (α:=(Nat×Nat)×(Unit)) (rgs [(2,2),(5,1),(17,16)]) (λg=>[(3,.int .i64 (g.1.1:Int)),(5,.int .i64 (g.1.2:Int))]) (λg=>[]) (λg=>σ) (λg=>Cv_ cZ g.1.1 g.1.2=some z2) ?_ (λg j hg=> ?_)
   ·refine R8 ?_;obtain ⟨vV,hh⟩:=gd hh;refine κ z (eG (qg_ _ (nth x0 cZ BSet.zero) yZ (BSet.isOk _) vV) z z vm_ z z z ?_);refine R1 ?_;refine TC.cB z hh (λqj hh=> ?_) (λqj hh=> ?_)
    ·refine R3 ?_;obtain ⟨DY,hh⟩:=gd hh;refine R10 ?_;refine ι z hh (λyg hh=> ?_) (λyg hh=> ?_)
     ·refine R4 ?_;refine θ ?_;replace hh:=bF hR2 hh;replace hh:=bF hR1 hh;obtain rfl:=so hh;exact rq [2] ⟨z,z,z⟩
     refine R7 ?_;refine ι z hh (λh122 hh=> ?_) (λh122 hh=> ?_)
     ·refine R2 ?_;obtain ⟨u29,hh⟩:=gd hh;refine R3 ?_;exact cf (((fO+1),(aP+1)),()) hh (ζ 0 z)
     refine R1 ?_;exact cf ((fO,(aP+1)),()) hh (ζ 0 z)
    refine R1 ?_;exact cf ((fO,aP),()) hh (ζ 0 z)
   obtain ⟨⟨k118,oU⟩,_⟩:=g;have hh:=hg;clear hg
   try dsimp only
   dsimp only [Cv_]at hh;refine R5 ?_;exact nx hR2 hh () (ζ 0 z)
  refine R1 ?_;replace hh:=bF hR2 hh;refine R6 ?_;refine ι z hh (λLj hh=> ?_) (λLj hh=> ?_)
  ·refine R4 ?_;refine θ ?_;replace hh:=bF hR1 hh;obtain rfl:=so hh;exact rq [2] ⟨z,z,z⟩
  refine R6 ?_;exact nx hR1 hh () (ζ 0 z)
 refine R1 ?_;replace hh:=bF hR1 hh;refine R9 ?_;refine θ ?_;obtain rfl:=so hh;exact rq [2] ⟨z,z,z⟩
def Ex_(x0:List BSet):Option (aj×Int):=
 bnd (E8_ x0) (λv4=>aI (!v4) (some (([]:aj),1)) (bnd (C6_ x0) (λv9=>some (v9,0))))
theorem Jp_{σ:ak}{x0:List BSet}(aA:RS σ 4 lD (.slice ay x0.length au) x0){r:aj×Int}(hh:Ex_ x0=some r):
  Con prog 110 #[.slice ay x0.length au] σ [] (Jc_ σ r):=by
 dsimp only [Ex_]at hh;refine cM 9 Tryz.func110 (λw0=> ?_);refine R9 ?_;obtain ⟨v4,u4,hh⟩:=bQ hh;refine κ z (eG (Jq_ aA u4) z z pf172 z z z ?_);refine R2 ?_;refine TC.cB z hh (λiR hh=> ?_) (λiR hh=> ?_)
 ·refine R5 ?_;refine θ ?_;obtain rfl:=so hh;exact rq [2,3] ⟨none,0,z,(RS.nilF _ aB aW),z⟩
 refine R4 ?_;obtain ⟨v9,u9,hh⟩:=bQ hh;refine κ z (OpOk.call (Hm_ aA u9) z z Qz z z z z ?_);rintro _ _ _ WL ⟨a102_1,c102_1,rfl,rfl,rfl⟩;refine R3 ?_;refine TC.iw aW (λτ106 qh JI=> ?_);refine θ ?_;obtain rfl:=so hh;exact rq [2,3] ⟨a102_1,c102_1,z,JI,z⟩
def Di_(nY:Nat)(t130:Bool):Option ((Bool×Nat)⊕(((List BSet)×Nat)⊕((List BSet)))):=
 nxt (t130,(nY+1))
def Dj_(aP:Nat)(kQ:List BSet):Option (((List BSet)×Nat)⊕((List BSet))):=
 nxt (kQ,(aP+1))
def Y3(bf:List BSet)(x0:List Arrow)(aP:Nat)(Jh:Bool)(nY:Nat):Option ((Bool×Nat)⊕(((List BSet)×Nat)⊕((List BSet)))):=
 aI (decide ((nY:Int)<(bf.length:Int))) (aI Jh (Di_ nY true) (Di_ nY (decide ((nth bf nY BSet.zero)=(nth x0 aP Arrow.zero).set)))) (fin (aI (!Jh) (grd ((bf.length+[(nth x0 aP Arrow.zero).set].length) * 32<=140737488355328) (Dj_ aP (bf++[(nth x0 aP Arrow.zero).set]))) (Dj_ aP bf)))
def Y5(x0:List Arrow)(bf:List BSet)(aP:Nat):Option (((List BSet)×Nat)⊕((List BSet))):=
 aI (decide ((aP:Int)<(x0.length:Int))) (aV (λq:Bool×Nat=>Y3 bf x0 aP q.1 q.2) (false,0)) (fin (some bf))
def Em_(x0:List Arrow):Option ((List BSet)):=
 aV (λq:(List BSet)×Nat=>Y5 x0 q.1 q.2) (([]:List BSet),0)
def Jw_(σ:ak)(r:(List BSet)):Value->ak->List Res->Prop:=λv σ' H'=>
 ∃a1 c1,v= .slice a1 r.length c1/\σ=σ'/\H'=[ε 47 4 lD (.slice a1 r.length c1) r]
theorem Jh_{σ:ak}{x0:List Arrow}(aA:RS σ 6 vW (.slice ay x0.length au) x0){r:(List BSet)}(hh:Em_ x0=some r):
  Con prog 109 #[.slice ay x0.length au] σ [] (Jw_ σ r):=by
 dsimp only [Em_]at hh;have f0_0b:=aA.rv.big;refine cM 43 Tryz.func109 (λw0=> ?_);refine R14 ?_;refine TC.nilS 47 4 lD (TC.lp hh (nO,oO) (rgs [(3,39)]) (λ⟨bf,aP⟩ ⟨dD,dM⟩=>([(3,.slice dD bf.length dM),(4,.int .i64 (aP:Int))],[ε 47 4 lD (.slice dD bf.length dM) bf])) (ζ 1 z) ?_);rintro ⟨bf,aP⟩ ⟨dD,dM⟩ _ z1 hh hR1;dsimp only [Y5]at hh ⊢;refine ξ 0 z (λzM=> ?_);refine R8 ?_;refine ι z hh (λiG hh=> ?_) (λiG hh=> ?_)
 ·refine R1 ?_;refine TC.cutG (α:=((List BSet))×((Option Addr)×Nat)) (rgs [(3,1),(5,2),(13,29)]) (λg=>[(3,.slice g.2.1 g.1.length g.2.2)]) (λg=>[ε 47 4 lD (.slice g.2.1 g.1.length g.2.2) g.1]) (λg=>σ) (λg=>Dj_ aP g.1=some z1) ?_ (λg j hg=> ?_)
  ·refine R11 ?_;refine TC.lp hh () (rgs [(5,2),(13,19)]) (λ⟨Jh,nY⟩ _=>([(5,.bool Jh),(6,.int .i64 (nY:Int))],[ε 47 4 lD (.slice dD bf.length dM) bf])) (ζ 1 z) ?_;rintro ⟨Jh,nY⟩ _ _ z2 hh hR2;dsimp only [Y3]at hh ⊢;refine ξ 0 z (λGs=> ?_);refine R8 ?_;refine ι z hh (λuO hh=> ?_) (λuO hh=> ?_)
   ·refine R1 ?_;refine TC.cutG (α:=(Bool)×(Unit)) (rgs [(5,1),(19,13)]) (λg=>[(5,.bool g.1)]) (λg=>[ε 47 4 lD (.slice dD bf.length dM) bf]) (λg=>σ) (λg=>Di_ nY g.1=some z2) ?_ (λg j hg=> ?_)
    ·refine TC.block (TC.draw [] (by kernel_rfl) (ν 0 z mB z (ν 1 z mB z (TA.split 20 z (λmG=> ?_) (λmG=> ?_)))))
     ·replace hh:=nT mG hh;refine TA.of 2 z z (TA.of 3 z z (TA.of 4 z z (TA.of 5 z z (TA.of 6 z z (TA.of 7 z z (TA.of 8 z z (TA.of 9 z z (TA.of 10 z z (TA.of 11 z z (ν 12 z (lF z z z) z (ν 13 z mB z (R1 ?_))))))))))));exact cf (true,()) hh (ζ 1 z)
     replace hh:=nS mG hh;refine TA.oN 2 z z mS (TA.oN 3 z z mI (TA.isSl (i:=0) z (λJy _ _=> ?_)));refine TA.oN 4 z z iN (TA.oN 5 z z oT (TA.oN 6 z z mS (TA.oN 7 z z mI (TA.oN 8 z z iN (TA.oN 9 z z fE (TA.oN 10 z z (ch_ Arrow.zero z MQ D6 z aA (by omega) (by omega) (by omega) z z) (TA.oN 11 z z (ct_ (s:=(nth bf nY BSet.zero)) (t:=(nth x0 aP Arrow.zero).set) z D8 NI zF ug Ht z z) (ν 12 z (qN z z z) z (ν 13 z mB z (R1 ?_))))))))));exact cf (decide ((nth bf nY BSet.zero)=(nth x0 aP Arrow.zero).set),()) hh (ζ 1 z)
    obtain ⟨t130,_⟩:=g;have hh:=hg;clear hg
    try dsimp only
    dsimp only [Di_]at hh;refine ξ 0 z (λTK=> ?_);refine R5 ?_;exact nx hR2 hh () (ζ 1 z)
   refine R1 ?_;replace hh:=bF hR2 hh;refine R6 ?_;refine TC.cB z hh (λuM hh=> ?_) (λuM hh=> ?_)
   ·refine R6 ?_;refine TL.w z (ch_ Arrow.zero z MQ D6 z aA (by omega) (by omega) (by omega) z z) (κ z (gX (enc:=lD) [(nth x0 aP Arrow.zero).set] (λH_ XB=> ?_)));refine φ 1 z z ?_;obtain ⟨u40,hh⟩:=gd hh;refine κ z (apF (.inr ⟨_,0,z⟩) u40 (λa139 nM=> ?_));refine R2 ?_;exact cf ((bf++[(nth x0 aP Arrow.zero).set]),(a139,nM)) hh (ζ 1 z)
   refine R1 ?_;exact cf (bf,(dD,dM)) hh (ζ 1 z)
  obtain ⟨kQ,⟨o_,o7⟩⟩:=g;have hh:=hg;clear hg
  try dsimp only
  dsimp only [Dj_]at hh;refine ξ 0 z (λhb141=> ?_);refine R5 ?_;exact nx hR1 hh (o_,o7) (ζ 1 z)
 refine R1 ?_;replace hh:=bF hR1 hh;refine R6 ?_;refine θ ?_;obtain rfl:=so hh;exact rz
def Dk_(aP:Nat)(kQ:aj):Option ((aj×Nat)⊕(aj)):=
 nxt (kQ,(aP+1))
def Y4(x0:aj)(bf:aj)(aP:Nat):Option ((aj×Nat)⊕(aj)):=
 aI (decide ((aP:Int)<(x0.length:Int))) (aI (decide ((nth x0 aP 0)=(bf.length:Int))) (grd ((bf.length+[(aP:Int)].length) * 8<=140737488355328) (Dk_ aP (bf++[(aP:Int)]))) (Dk_ aP bf)) (fin (some bf))
def En_(x0:aj):Option (aj):=
 aV (λq:aj×Nat=>Y4 x0 q.1 q.2) (([]:aj),0)
theorem Jj_{σ:ak}{x0:aj}(aA:dV σ aB ay au x0){r:aj}(hh:En_ x0=some r):
  Con prog 111 #[.slice ay x0.length au] σ [] (TV σ r):=by
 dsimp only [En_]at hh;have f0_0b:=aA.rv.big;refine cM 23 Tryz.func111 (λw0=> ?_);refine R14 ?_;refine TC.nilS 3 1 aB (TC.lp hh (nO,oO) (rgs [(3,19)]) (λ⟨bf,aP⟩ ⟨dD,dM⟩=>([(3,.slice dD bf.length dM),(4,.int .i64 (aP:Int))],[dW 3 aB dD dM bf])) (ζ 1 z) ?_);rintro ⟨bf,aP⟩ ⟨dD,dM⟩ _ z1 hh hR1;dsimp only [Y4]at hh ⊢;refine ξ 0 z (λzM=> ?_);refine R8 ?_;refine ι z hh (λiG hh=> ?_) (λiG hh=> ?_)
 ·refine R1 ?_;refine TC.cutG (α:=(aj)×((Option Addr)×Nat)) (rgs [(3,1),(11,11)]) (λg=>[(3,.slice g.2.1 g.1.length g.2.2)]) (λg=>[ε 3 1 aB (.slice g.2.1 g.1.length g.2.2) g.1]) (λg=>σ) (λg=>Dk_ aP g.1=some z1) ?_ (λg j hg=> ?_)
  ·refine R11 ?_;refine ι z hh (λh122 hh=> ?_) (λh122 hh=> ?_)
   ·refine R3 ?_;refine κ z (gX (enc:=aB) [(aP:Int)] (λa123 c124=> ?_));refine φ 1 z z ?_;obtain ⟨Jb,hh⟩:=gd hh;refine κ z (apF (.inr ⟨_,0,z⟩) Jb (λyG c127=> ?_));refine R2 ?_;exact cf ((bf++[(aP:Int)]),(yG,c127)) hh (ζ 1 z)
   refine R1 ?_;exact cf (bf,(dD,dM)) hh (ζ 1 z)
  obtain ⟨kQ,⟨o_,o7⟩⟩:=g;have hh:=hg;clear hg
  try dsimp only
  dsimp only [Dk_]at hh;refine ξ 0 z (λGs=> ?_);refine R5 ?_;exact nx hR1 hh (o_,o7) (ζ 1 z)
 refine R1 ?_;replace hh:=bF hR1 hh;refine R6 ?_;refine θ ?_;obtain rfl:=so hh;exact rz
def C7_(f_:Nat)(bT:aj):Option ((aj×Nat)⊕(aj)):=
 nxt (bT,(f_+1))
def YO(x0:Nfa)(x1:aj)(x2:Int)(iJ:aj)(f_:Nat):Option ((aj×Nat)⊕(aj)):=
 aI (decide ((f_:Int)<(x0.edges.length:Int))) (aI (x1.contains ((nth x0.edges f_ Arrow.zero).frm)) (grd (0<=x2/\x2<256) (aI (((nth x0.edges f_ Arrow.zero).set).has x2.toNat) (grd ((iJ.length+[(nth x0.edges f_ Arrow.zero).to].length) * 8<=140737488355328) (C7_ f_ (iJ++[(nth x0.edges f_ Arrow.zero).to]))) (C7_ f_ iJ))) (C7_ f_ iJ)) (fin (bnd (UE iJ) (λv37=>some v37)))
def Fu_(x0:Nfa)(x1:aj)(x2:Int):Option (aj):=
 aV (λq:aj×Nat=>YO x0 x1 x2 q.1 q.2) (([]:aj),0)
theorem J0_{σ:ak}{x0:Nfa}{x1:aj}{x2:Int}(aA:dV σ aB ay au x0.starts)(aG:dV σ aB aC aJ x0.ends)(aH:RS σ 6 vW (.slice aK x0.edges.length aF) x0.edges)(bU:dV σ aB bW bV x1){r:aj}(hh:Fu_ x0 x1 x2=some r):
  Con prog 112 #[.agg #[.int .i64 x0.states,.slice ay x0.starts.length au,.slice aC x0.ends.length aJ,.slice aK x0.edges.length aF],.slice bW x1.length bV,.int .i64 x2] σ [] (G9_ σ r):=by
 dsimp only [Fu_]at hh;have f0_1b:=aG.rv.big;have f0_2b:=aH.rv.big;refine cM 39 Tryz.func112 (λw0=> ?_);refine R2 ?_;refine TL.bx (λaS=> ?_);refine R12 ?_;refine TC.nilS 3 1 aB (TC.lp hh (nO,oO) (rgs [(7,30)]) (λ⟨iJ,f_⟩ ⟨zo,c116⟩=>([(7,.slice zo iJ.length c116),(8,.int .i64 (f_:Int))],[ω aS #[.int .i64 x0.states,.slice ay x0.starts.length au,.slice aC x0.ends.length aJ,.slice aK x0.edges.length aF] 65,dW 3 aB zo c116 iJ])) (ψ [1] 2) ?_);rintro ⟨iJ,f_⟩ ⟨zo,c116⟩ _ z1 hh hR1;dsimp only [YO]at hh ⊢;refine ξ 1 z (λhb119=> ?_);refine R9 ?_;refine ι z hh (λqj hh=> ?_) (λqj hh=> ?_)
 ·refine R1 ?_;refine TC.cutG (α:=(aj)×((Option Addr)×Nat)) (rgs [(7,1),(9,1),(17,20)]) (λg=>[(7,.slice g.2.1 g.1.length g.2.2)]) (λg=>[ω aS #[.int .i64 x0.states,.slice ay x0.starts.length au,.slice aC x0.ends.length aJ,.slice aK x0.edges.length aF] 65,ε 3 1 aB (.slice g.2.1 g.1.length g.2.2) g.1]) (λg=>σ) (λg=>C7_ f_ g.1=some z1) ?_ (λg j hg=> ?_)
  ·refine R8 ?_;refine TL.al (λPo=> ?_);refine R7 ?_;refine κ z (eG (in_con _ bW bV x1 ((nth x0.edges f_ Arrow.zero).frm) bU) z z QU z z z ?_);refine TL.j z z (Γ 26 z (λyc=> ?_) (λyc=> ?_))
   ·replace hh:=nT yc hh;refine R3 ?_;obtain ⟨u25,hh⟩:=gd hh;refine TL.gon z z z z z (eG (ob_ ((nth x0.edges f_ Arrow.zero).set) u25) z z vm_ z z z ?_);refine R2 ?_;refine TC.cB z hh (λh127 hh=> ?_) (λh127 hh=> ?_)
    ·refine R4 ?_;refine κ z (gX (enc:=aB) [(nth x0.edges f_ Arrow.zero).to] (λX8 XC=> ?_));refine φ 3 z z ?_;obtain ⟨u31,hh⟩:=gd hh;refine κ z (apF (.inr ⟨_,0,z⟩) u31 (λa131 uT=> ?_));refine R2 ?_;exact cf ((iJ++[(nth x0.edges f_ Arrow.zero).to]),(a131,uT)) hh (ψ [3] 2)
    refine R1 ?_;exact cf (iJ,(zo,c116)) hh (ψ [2,2] 2)
   replace hh:=nS yc hh;refine R8 ?_;exact cf (iJ,(zo,c116)) hh (ψ [2,2] 2)
  obtain ⟨bT,⟨tZ,tN⟩⟩:=g;have hh:=hg;clear hg
  try dsimp only
  dsimp only [C7_]at hh;refine ξ 1 z (λTK=> ?_);refine R5 ?_;exact nx hR1 hh (tZ,tN) (ψ [1,1] 2)
 refine R1 ?_;replace hh:=bF hR1 hh;refine R4 ?_;refine φ 1 z z (TL.iw aW (λτ137 WH hr135=> ?_));obtain ⟨v37,u37,hh⟩:=bQ hh;refine κ z (OpOk.call (H8_ hr135 u37) z z QC z z z z ?_);rintro _ τ138 _ EF ⟨a138_1,c138_1,rfl,hr138_0,rfl⟩;have hr138_0b:=hr138_0.rv.big;refine R2 ?_;refine TC.rt 0 ?_;obtain rfl:=so hh;exact rq [6] ⟨a138_1,c138_1,z,hr138_0,z⟩
def Ey_(iC:aj)(iM:Int)(uz:Nat)(VA:aY):Option ((aY×aj×Nat)⊕((aY×B_1×aY×Nat)⊕(Dfa×Int))):=
 grd ((iC.length+[iM].length) * 8<=140737488355328) (nxt (VA,(iC++[iM]),(uz+1)))
def UU(fD:aY)(v63:aj)(iC:aj)(uz:Nat)(iM:Int)(tq:Int):Option ((Int×Int)⊕((aY×aj×Nat)⊕((aY×B_1×aY×Nat)⊕(Dfa×Int)))):=
 aI (decide (0<=tq)) (grd (0<=tq/\tq<(fD.length:Int)) (bnd (YE (nth fD tq.toNat []) v63) (λv79=>aI v79 (nxt (tq,(IntKind.i64.wrap (tq - 1)))) (nxt (iM,(IntKind.i64.wrap (tq - 1))))))) (fin (aI (decide (iM=(fD.length:Int))) (aI (decide (1024<=iM)) (fin (fin (some ((⟨([]:aj),([]:aY),([]:B_1)⟩:Dfa),2)))) (grd ((fD.length+[v63].length) * 24<=140737488355328) (Ey_ iC iM uz (fD++[v63])))) (Ey_ iC iM uz fD)))
def MP(jo:Nat)(fD:aY)(x0:Nfa)(jX:aY)(iC:aj)(eY:B_1)(GU:Bool)(xw:Nat):Option ((Bool×Nat)⊕((aY×B_1×aY×Nat)⊕(Dfa×Int))):=
 grd (jo<fD.length) (aI (decide ((xw:Int)<((nth fD jo []).length:Int))) (aI GU (grd (xw+1<=9223372036854775807) (nxt (true,(xw+1)))) (grd (jo<fD.length) (grd (xw+1<=9223372036854775807) (nxt ((x0.ends.contains (nth (nth fD jo []) xw 0)),(xw+1)))))) (fin (grd ((jX.length+[iC].length) * 24<=140737488355328) (grd ((eY.length+[GU].length) * 1<=140737488355328) (nxt ((jX++[iC]),(eY++[GU]),fD,(jo+1)))))))
def Nv(v37:aj)(jo:Nat)(x0:Nfa)(jX:aY)(eY:B_1)(fD:aY)(iC:aj)(uz:Nat):Option ((aY×aj×Nat)⊕((aY×B_1×aY×Nat)⊕(Dfa×Int))):=
 aI (decide ((uz:Int)<(v37.length:Int))) (grd (jo<fD.length) (bnd (Fu_ x0 (nth fD jo []) (nth v37 uz 0)) (λv63=>aV (λq:Int×Int=>UU fD v63 iC uz q.1 q.2) ((fD.length:Int),(IntKind.i64.wrap ((fD.length:Int) - 1)))))) (fin (aV (λq:Bool×Nat=>MP jo fD x0 jX iC eY q.1 q.2) (false,0)))
def P5(v37:aj)(x0:Nfa)(v26:aj×Int)(jX:aY)(eY:B_1)(OE:aY)(jo:Nat):Option ((aY×B_1×aY×Nat)⊕(Dfa×Int)):=
 aI (decide ((jo:Int)<(OE.length:Int))) (aV (λq:aY×aj×Nat=>Nv v37 jo x0 jX eY q.1 q.2.1 q.2.2) (OE,([]:aj),0)) (fin (some ((⟨v26.1,jX,eY⟩:Dfa),0)))
def Gg_(x0:Nfa):Option (Dfa×Int):=
 aI (!(kJ x0)) (some ((⟨([]:aj),([]:aY),([]:B_1)⟩:Dfa),1)) (bnd (Em_ x0.edges) (λv12=>bnd (Et_ v12) (λv13=>aI (decide (v13.2≠0)) (some ((⟨([]:aj),([]:aY),([]:B_1)⟩:Dfa),v13.2)) (bnd (Ex_ v13.1) (λv26=>bnd (En_ v26.1) (λv37=>aV (λq:aY×B_1×aY×Nat=>P5 v37 x0 v26 q.1 q.2.1 q.2.2.1 q.2.2.2) (([]:aY),([]:B_1),[x0.starts],0)))))))
def UD(σ:ak)(r:Dfa×Int):Value->ak->List Res->Prop:=λv σ' H'=>
 ∃a1 c1 a2 c2 a3 c3,v= .tuple #[.agg #[.slice a1 r.1.cls.length c1,.slice a2 r.1.next.length c2,.slice a3 r.1.fin.length c3],.int .i64 r.2]/\dV σ' aB a1 c1 r.1.cls/\RZ σ' (bH 1 aB aW) (.slice a2 r.1.next.length c2) r.1.next/\dV σ' dL a3 c3 r.1.fin/\H'=[]
theorem Kk_{σ:ak}{x0:Nfa}(aA:dV σ aB ay au x0.starts)(aG:dV σ aB aC aJ x0.ends)(aH:RS σ 6 vW (.slice aK x0.edges.length aF) x0.edges){r:Dfa×Int}(hh:Gg_ x0=some r):
  Con prog 45 #[.agg #[.int .i64 x0.states,.slice ay x0.starts.length au,.slice aC x0.ends.length aJ,.slice aK x0.edges.length aF]] σ [] (UD σ r):=by
 dsimp only [Gg_]at hh;refine cM 134 Tryz.func45 (λw0=> ?_);refine R2 ?_;refine TL.bx (λaS=> ?_);refine TL.al (λbn=> ?_);refine R6 ?_;refine κ z (eG (w8_ _ x0 ⟨ay,au,aC,aJ,aK,aF⟩ ⟨aA,aG,aH,λx _=>x.set.isOk⟩) z z pf107 z z z ?_);refine R2 ?_;refine TC.cB z hh (λbM hh=> ?_) (λbM hh=> ?_)
 ·refine R6 ?_;refine TC.rt 1 ?_;obtain rfl:=so hh;exact rz
 refine R5 ?_;obtain ⟨v12,u12,hh⟩:=bQ hh;refine κ z (OpOk.call (Jh_ aH u12) z z pf109 z z z z ?_);rintro _ _ _ oD ⟨a106_1,c106_1,rfl,rfl,rfl⟩;refine TL.iw EN (λτ110 dh JH=> ?_);replace aA:=aA.mono dh;replace aG:=aG.mono dh;replace aH:=aH.mono dh;obtain ⟨v13,u13,hh⟩:=bQ hh;refine κ z (OpOk.call (Jn_ JH u13) z z pf108 z z z z ?_);rintro _ τ111 _ jw ⟨a111_1,c111_1,rfl,hr111_0,rfl⟩;replace aA:=aA.mono jw;replace aG:=aG.mono jw;replace aH:=aH.mono jw;refine R12 ?_;refine ι z hh (λh112 hh=> ?_) (λh112 hh=> ?_)
 ·refine R7 ?_;refine TC.rt 1 ?_;obtain rfl:=so hh;exact rz
 refine R4 ?_;obtain ⟨v26,u26,hh⟩:=bQ hh;refine κ z (OpOk.call (Jp_ hr111_0 u26) z z pf110 z z z z ?_);rintro _ τ113 _ cO ⟨a113_1,c113_1,rfl,hr113_0,rfl⟩;replace aA:=aA.mono cO;replace aG:=aG.mono cO;replace aH:=aH.mono cO;refine R10 ?_;refine TL.al (λEW=> ?_);refine R5 ?_;obtain ⟨v37,u37,hh⟩:=bQ hh;refine κ z (OpOk.call (Jj_ hr113_0 u37) z z pf111 z z z z ?_);rintro _ _ _ dw ⟨a116_1,c116_1,rfl,rfl,rfl⟩;refine R6 ?_;have Qm:ZOk _ (bH 1 aB aW) ([(x0.starts,(ay,au))]:List (aj×(bH 1 aB aW).P)) [x0.starts]:=ZOk.cons (aA) (ZOk.nil _ _);refine κ z (litZ Qm z jH ji z jI z z z (by decide) (by decide) z (by decide) z (by decide) (λwU c119=> ?_));refine R8 ?_;refine TC.nilS 31 1 (bH 1 aB aW).en ?_;have zf171:=ZOk.nil τ113 (bH 1 aB aW);refine TC.nilS 4 1 dL (TC.zl (α:=(aY×B_1×aY×Nat)×((Option Addr)×Nat×(List (aj×(bH 1 aB aW).P))×(Option Addr)×Nat×(Option Addr)×Nat×(List (aj×(bH 1 aB aW).P))×ak)) (rgs [(3,1),(10,9),(46,87)]) (λg=>[(10,.slice g.2.2.2.2.2.2.1 g.1.2.2.1.length g.2.2.2.2.2.2.2.1),(11,.int .i64 (g.1.2.2.2:Int))]) (λg=>[ω aS #[.int .i64 x0.states,.slice ay x0.starts.length au,.slice aC x0.ends.length aJ,.slice aK x0.edges.length aF] 65,ω bn #[aT,aT,aT] 35,ω EW #[.slice a113_1 v26.1.length c113_1,.slice g.2.1 g.1.1.length g.2.2.1,.slice g.2.2.2.2.1 g.1.2.1.length g.2.2.2.2.2.1] 35,ε 31 1 (bH 1 aB aW).en (.slice g.2.1 g.1.1.length g.2.2.1) g.2.2.2.1,ε 4 1 dL (.slice g.2.2.2.2.1 g.1.2.1.length g.2.2.2.2.2.1) g.1.2.1,dW 3 aB a116_1 c116_1 v37,ε 31 1 (bH 1 aB aW).en (.slice g.2.2.2.2.2.2.1 g.1.2.2.1.length g.2.2.2.2.2.2.2.1) g.2.2.2.2.2.2.2.2.1]) (λg=>g.2.2.2.2.2.2.2.2.2) (λg=>aV (λq:aY×B_1×aY×Nat=>P5 v37 x0 v26 q.1 q.2.1 q.2.2.1 q.2.2.2) g.1=some r/\ZOk g.2.2.2.2.2.2.2.2.2 (bH 1 aB aW) g.2.2.2.1 g.1.1/\ZOk g.2.2.2.2.2.2.2.2.2 (bH 1 aB aW) g.2.2.2.2.2.2.2.2.1 g.1.2.2.1/\ak.le τ113 g.2.2.2.2.2.2.2.2.2) (λg=>qI (λq:aY×B_1×aY×Nat=>P5 v37 x0 v26 q.1 q.2.1 q.2.2.1 q.2.2.2) g.1) ((([]:aY),([]:B_1),[x0.starts],0),(none,0,[],none,0,wU,c119,([(x0.starts,(ay,au))]:List (aj×(bH 1 aB aW).P)),τ113)) (ψ [2,3,2,3,4,5,6] 7) z (by repeat (first|exact trivial|refine ⟨z,?_⟩)) ⟨hh,zf171,Qm,(ak.le.refl _)⟩ (λg1 j1 hg1=> ?_));obtain ⟨⟨jX,eY,OE,jo⟩,⟨a157,zi,z159,tY,c164,a166,c167,z168,τ174⟩⟩:=g1;obtain ⟨hh,kD,IY,mD⟩:=hg1
 try dsimp only at kD
 try dsimp only at IY
 dsimp only at mD;replace aA:=aA.mono mD;replace aG:=aG.mono mD;replace aH:=aH.mono mD;replace hr113_0:=hr113_0.mono mD
 try dsimp only
 obtain ⟨z1,hh,hR1⟩:=yO hh;dsimp only [P5]at hh;have zf160b:=kD.length;have zf169b:=IY.length;refine ξ 3 z (λhb176=> ?_);refine ξ 4 z (λhb177=> ?_);refine ξ 5 z (λhb178=> ?_);refine ξ 6 z (λhb179=> ?_);refine R8 ?_;refine ι z hh (λh180 hh=> ?_) (λh180 hh=> ?_)
 ·refine R13 ?_;refine TC.nilS 3 1 aB (TC.zl (α:=(aY×aj×Nat)×((Option Addr)×Nat×(List (aj×(bH 1 aB aW).P))×(Option Addr)×Nat×ak)) (rgs [(3,1),(10,1),(12,5),(52,47)]) (λg=>[(10,.slice g.2.1 g.1.1.length g.2.2.1),(12,.slice g.2.2.2.2.1 g.1.2.1.length g.2.2.2.2.2.1),(13,.int .i64 (g.1.2.2:Int))]) (λg=>[ω aS #[.int .i64 x0.states,.slice ay x0.starts.length au,.slice aC x0.ends.length aJ,.slice aK x0.edges.length aF] 65,ω bn #[aT,aT,aT] 35,ω EW #[.slice a113_1 v26.1.length c113_1,.slice a157 jX.length zi,.slice tY eY.length c164] 35,ε 31 1 (bH 1 aB aW).en (.slice a157 jX.length zi) z159,dW 4 dL tY c164 eY,dW 3 aB a116_1 c116_1 v37,ε 31 1 (bH 1 aB aW).en (.slice g.2.1 g.1.1.length g.2.2.1) g.2.2.2.1,ε 3 1 aB (.slice g.2.2.2.2.1 g.1.2.1.length g.2.2.2.2.2.1) g.1.2.1]) (λg=>g.2.2.2.2.2.2) (λg=>aV (λq:aY×aj×Nat=>Nv v37 jo x0 jX eY q.1 q.2.1 q.2.2) g.1=some z1/\ZOk g.2.2.2.2.2.2 (bH 1 aB aW) z159 jX/\ZOk g.2.2.2.2.2.2 (bH 1 aB aW) g.2.2.2.1 g.1.1/\ak.le τ174 g.2.2.2.2.2.2) (λg=>qI (λq:aY×aj×Nat=>Nv v37 jo x0 jX eY q.1 q.2.1 q.2.2) g.1) ((OE,([]:aj),0),(a166,c167,z168,none,0,τ174)) (ψ [7,7,7,7,7,7,7] 8) z (by repeat (first|exact trivial|refine ⟨z,?_⟩)) ⟨hh,kD,IY,(ak.le.refl _)⟩ (λg2 j2 hg2=> ?_));obtain ⟨⟨fD,iC,uz⟩,⟨PI,c208,wX,a213,yu,τ217⟩⟩:=g2;obtain ⟨hh,iY,oJ,ou⟩:=hg2
  try dsimp only at iY
  try dsimp only at oJ
  dsimp only at ou;replace aA:=aA.mono ou;replace aG:=aG.mono ou;replace aH:=aH.mono ou;replace hr113_0:=hr113_0.mono ou;replace kD:=kD.mono ou
  try dsimp only
  obtain ⟨z2,hh,hR2⟩:=yO hh;dsimp only [Nv]at hh;have zf205b:=iY.length;have zf210b:=oJ.length;refine ξ 3 z (λhb219=> ?_);refine ξ 4 z (λhb220=> ?_);refine ξ 5 z (λhb221=> ?_);refine ξ 6 z (λhb222=> ?_);refine ξ 7 z (λhb223=> ?_);refine R8 ?_;refine ι z hh (λh224 hh=> ?_) (λh224 hh=> ?_)
  ·refine R4 ?_;obtain ⟨NM,hh⟩:=gd hh;obtain ⟨v63,u63,hh⟩:=bQ hh;refine TC.draw [] (by kernel_rfl) (Δ 0 z lA z (ν 1 z mS z (ν 2 z mI z (TA.isSl (i:=6) z (λhs229 _ _=> ?_)))));refine Δ 3 z iN z ?_;obtain ⟨Og,RX⟩: ∃p,p=(nth wX jo ((bH 1 aB aW).d,(bH 1 aB aW).dp)).2:=⟨_,rfl⟩;have hk230:dV τ217 aB Og.1 Og.2 (nth fD jo []):=by rw [RX];exact (oJ.at (by omega)).2
   refine Δ 4 z (OpVal.of (RX▸br_ oJ z oV z (q:=6) z (by omega) z) (v':= .slice Og.1 ((nth fD jo []).length) Og.2) z) z (ν 5 z mS z (ν 6 z mI z (TA.isSl (i:=5) z (λhs231 _ _=> ?_))));refine Δ 7 z iN z (Δ 8 z o1 z (Φ 9 z (OpOk.call (J0_ (x0:=x0) aA aG aH hk230 u63) z z pf112 z z z z ?_)));rintro _ τ232 _ rP ⟨a232_1,c232_1,rfl,hr232_0,rfl⟩;replace aG:=aG.mono rP;replace hr113_0:=hr113_0.mono rP;replace kD:=kD.mono rP;replace iY:=iY.mono rP;replace oJ:=oJ.mono rP;refine kl 0 rP (ν 10 z mS z (R16 ?_));refine TC.zl (α:=(Int×Int)×(ak)) (rgs [(15,2),(73,11)]) (λg=>[(15,.int .i64 g.1.1),(16,.int .i64 g.1.2)]) (λg=>[ω aS #[.int .i64 x0.states,.slice ay x0.starts.length au,.slice aC x0.ends.length aJ,.slice aK x0.edges.length aF] 65,ω bn #[aT,aT,aT] 35,ω EW #[.slice a113_1 v26.1.length c113_1,.slice a157 jX.length zi,.slice tY eY.length c164] 35,ε 31 1 (bH 1 aB aW).en (.slice a157 jX.length zi) z159,dW 4 dL tY c164 eY,dW 3 aB a116_1 c116_1 v37,ε 31 1 (bH 1 aB aW).en (.slice PI fD.length c208) wX,dW 3 aB a213 yu iC]) (λg=>g.2) (λg=>aV (λq:Int×Int=>UU fD v63 iC uz q.1 q.2) g.1=some z2/\ZOk g.2 (bH 1 aB aW) z159 jX/\ZOk g.2 (bH 1 aB aW) wX fD/\ak.le τ232 g.2) (λg=>qI (λq:Int×Int=>UU fD v63 iC uz q.1 q.2) g.1) (((fD.length:Int),(IntKind.i64.wrap ((fD.length:Int) - 1))),τ232) (ψ [7,7,7,7,7,7,7,7] 8) z (by repeat (first|exact trivial|refine ⟨z,?_⟩)) ⟨hh,iY,oJ,(ak.le.refl _)⟩ (λg3 j3 hg3=> ?_);obtain ⟨⟨iM,tq⟩,τ247⟩:=g3;obtain ⟨hh,zB,uY,mg⟩:=hg3
   try dsimp only at zB
   try dsimp only at uY
   dsimp only at mg;replace aG:=aG.mono mg;replace hr113_0:=hr113_0.mono mg;replace kD:=kD.mono mg;replace iY:=iY.mono mg;replace oJ:=oJ.mono mg;replace hr232_0:=hr232_0.mono mg
   try dsimp only
   obtain ⟨z3,hh,uK⟩:=yO hh;dsimp only [UU]at hh;have zf243b:=zB.length;have zf244b:=uY.length;refine ξ 3 z (λhb249=> ?_);refine ξ 4 z (λhb250=> ?_);refine ξ 5 z (λhb251=> ?_);refine ξ 6 z (λTv=> ?_);refine ξ 7 z (λTt=> ?_);refine R6 ?_;refine ι z hh (λWX hh=> ?_) (λWX hh=> ?_)
   ·refine R7 ?_;obtain ⟨u76,hh⟩:=gd hh;refine TL.iS 6 z (λhs255=> ?_);refine TL.w z iX ?_;obtain ⟨D_,RU⟩: ∃p,p=(nth wX tq.toNat ((bH 1 aB aW).d,(bH 1 aB aW).dp)).2:=⟨_,rfl⟩;have hk256:dV τ247 aB D_.1 D_.2 (nth fD tq.toNat []):=by rw [RU];exact (uY.at (by omega)).2
    refine TL.w z (OpVal.of (RU▸br_ uY z oV z (q:=6) z (by omega) z) (v':= .slice D_.1 ((nth fD tq.toNat []).length) D_.2) z) (TL.s z z ?_);obtain ⟨v79,u79,hh⟩:=bQ hh;refine κ z (eG (Gx_ hk256 hr232_0 u79) z z Vs z z z ?_);refine R1 ?_;refine TC.cB z hh (λh257 hh=> ?_) (λh257 hh=> ?_)
    ·refine R9 ?_;obtain ⟨hh,V3⟩:=wG uK hh;exact lf ((tq,(IntKind.i64.wrap (tq - 1))),τ247) V3 ⟨hh,zB,uY,mg⟩ (ψ [7,7,7,7,7,7,7,7] 8)
    refine R6 ?_;obtain ⟨hh,VZ⟩:=wG uK hh;exact lf ((iM,(IntKind.i64.wrap (tq - 1))),τ247) VZ ⟨hh,zB,uY,mg⟩ (ψ [7,7,7,7,7,7,7,7] 8)
   refine R1 ?_;replace hh:=bF uK hh;refine R1 ?_;refine TC.cutG (α:=(aY)×((Option Addr)×Nat×(List (aj×(bH 1 aB aW).P))×ak)) (rgs [(3,1),(10,1),(84,11)]) (λg=>[(10,.slice g.2.1 g.1.length g.2.2.1)]) (λg=>[ω aS #[.int .i64 x0.states,.slice ay x0.starts.length au,.slice aC x0.ends.length aJ,.slice aK x0.edges.length aF] 65,ω bn #[aT,aT,aT] 35,ω EW #[.slice a113_1 v26.1.length c113_1,.slice a157 jX.length zi,.slice tY eY.length c164] 35,ε 31 1 (bH 1 aB aW).en (.slice a157 jX.length zi) z159,dW 4 dL tY c164 eY,dW 3 aB a116_1 c116_1 v37,ε 31 1 (bH 1 aB aW).en (.slice g.2.1 g.1.length g.2.2.1) g.2.2.2.1,dW 3 aB a213 yu iC]) (λg=>g.2.2.2.2) (λg=>Ey_ iC iM uz g.1=some z2/\ZOk g.2.2.2.2 (bH 1 aB aW) z159 jX/\ZOk g.2.2.2.2 (bH 1 aB aW) g.2.2.2.1 g.1/\ak.le τ247 g.2.2.2.2) ?_ (λg j hg=> ?_)
   ·refine R7 ?_;refine ι z hh (λxZ hh=> ?_) (λxZ hh=> ?_)
    ·refine R6 ?_;refine ι z hh (λWW hh=> ?_) (λWW hh=> ?_)
     ·refine R3 ?_;refine φ 1 z z (R3 ?_);refine TC.rt 1 ?_;replace hh:=bF hR2 hh;replace hh:=bF hR1 hh;obtain rfl:=so hh;exact rz
     refine R4 ?_;have Qg:ZOk _ (bH 1 aB aW) ([(v63,(a232_1,c232_1))]:List (aj×(bH 1 aB aW).P)) [v63]:=ZOk.cons (hr232_0) (ZOk.nil _ _);refine κ z (litZ Qg z jH ji z jI z z z (by decide) (by decide) z (by decide) z (by decide) (λE5 EO=> ?_));refine φ 7 z z ?_;obtain ⟨u97,hh⟩:=gd hh;refine κ z (Ud (k:=(bH 1 aB aW)) uY Qg z z jH ji kY jI z z (by decide) z z z (.inr ⟨_,0,z⟩) (by simpa using u97) (by decide) (λAX AO zf274=> ?_));refine R2 ?_;exact cf ((fD++[v63]),(AX,AO,(wX++([(v63,(a232_1,c232_1))]:List (aj×(bH 1 aB aW).P))),τ247)) ⟨hh,zB,zf274,(ak.le.refl _)⟩ (ψ [8,1,8,8,8,8,8,8] 8)
    refine R1 ?_;exact cf (fD,(PI,c208,wX,τ247)) ⟨hh,zB,uY,(ak.le.refl _)⟩ (ψ [7,7,7,7,7,7,7,7] 8)
   obtain ⟨VA,⟨Dv,Di,z264,τ275⟩⟩:=g;obtain ⟨hh,IU,IQ,rM⟩:=hg
   try dsimp only at IU
   try dsimp only at IQ
   dsimp only at rM;replace aG:=aG.mono rM;replace hr113_0:=hr113_0.mono rM;replace kD:=kD.mono rM;replace iY:=iY.mono rM;replace oJ:=oJ.mono rM
   try dsimp only
   dsimp only [Ey_]at hh;have zf260b:=IU.length;have zf265b:=IQ.length;refine ξ 3 z (λGp=> ?_);refine ξ 4 z (λTn=> ?_);refine ξ 5 z (λhb279=> ?_);refine ξ 6 z (λhb280=> ?_);refine ξ 7 z (λhb281=> ?_);refine R3 ?_;refine κ z (gX (enc:=aB) [iM] (λa282 c283=> ?_));refine φ 8 z z ?_;obtain ⟨u102,hh⟩:=gd hh;refine κ z (apF (.inr ⟨_,0,z⟩) u102 (λXZ Xt=> ?_));refine R7 ?_;obtain ⟨hh,VY⟩:=wG hR2 hh;exact lf ((VA,(iC++[iM]),(uz+1)),(Dv,Di,z264,XZ,Xt,τ275)) VY ⟨hh,IU,IQ,(((ou.trans rP).trans mg).trans rM)⟩ (ψ [8,8,8,8,8,8,8] 8)
  refine R1 ?_;replace hh:=bF hR2 hh;refine R11 ?_;refine TC.zl (α:=(Bool×Nat)×(ak)) (rgs [(17,2),(99,22)]) (λg=>[(17,.bool g.1.1),(18,.int .i64 (g.1.2:Int))]) (λg=>[ω aS #[.int .i64 x0.states,.slice ay x0.starts.length au,.slice aC x0.ends.length aJ,.slice aK x0.edges.length aF] 65,ω bn #[aT,aT,aT] 35,ω EW #[.slice a113_1 v26.1.length c113_1,.slice a157 jX.length zi,.slice tY eY.length c164] 35,ε 31 1 (bH 1 aB aW).en (.slice a157 jX.length zi) z159,dW 4 dL tY c164 eY,dW 3 aB a116_1 c116_1 v37,ε 31 1 (bH 1 aB aW).en (.slice PI fD.length c208) wX,dW 3 aB a213 yu iC]) (λg=>g.2) (λg=>aV (λq:Bool×Nat=>MP jo fD x0 jX iC eY q.1 q.2) g.1=some z1/\ZOk g.2 (bH 1 aB aW) z159 jX/\ZOk g.2 (bH 1 aB aW) wX fD/\ak.le τ217 g.2) (λg=>qI (λq:Bool×Nat=>MP jo fD x0 jX iC eY q.1 q.2) g.1) ((false,0),τ217) (ψ [7,7,7,7,7,7,7,7] 8) z (by repeat (first|exact trivial|refine ⟨z,?_⟩)) ⟨hh,iY,oJ,(ak.le.refl _)⟩ (λg4 j4 hg4=> ?_);obtain ⟨⟨GU,xw⟩,τ302⟩:=g4;obtain ⟨hh,wW,lV,rJ⟩:=hg4
  try dsimp only at wW
  try dsimp only at lV
  dsimp only at rJ;replace aG:=aG.mono rJ;replace hr113_0:=hr113_0.mono rJ;replace kD:=kD.mono rJ
  try dsimp only
  obtain ⟨z2,hh,hR2⟩:=yO hh;dsimp only [MP]at hh;have zf298b:=wW.length;have zf299b:=lV.length;refine ξ 3 z (λhb304=> ?_);refine ξ 4 z (λhb305=> ?_);refine ξ 5 z (λhb306=> ?_);refine ξ 6 z (λhb307=> ?_);refine ξ 7 z (λhb308=> ?_);refine R6 ?_;obtain ⟨NQ,hh⟩:=gd hh;refine TL.iS 6 z (λhs309=> ?_);refine TL.w z iN ?_;obtain ⟨N9,RQ⟩: ∃p,p=(nth wX jo ((bH 1 aB aW).d,(bH 1 aB aW).dp)).2:=⟨_,rfl⟩;have hk310:dV τ302 aB N9.1 N9.2 (nth fD jo []):=by rw [RQ];exact (lV.at (by omega)).2
  refine TL.w z (OpVal.of (RQ▸br_ lV z oV z (q:=6) z (by omega) z) (v':= .slice N9.1 ((nth fD jo []).length) N9.2) z) (R3 ?_);refine ι z hh (λh311 hh=> ?_) (λh311 hh=> ?_)
  ·refine R3 ?_;refine TC.draw [] (by kernel_rfl) (ν 0 z mB z (ν 1 z mB z (TA.split 109 z (λWS=> ?_) (λWS=> ?_))))
   ·replace hh:=nT WS hh;refine TA.of 2 z z (TA.of 3 z z (TA.of 4 z z (TA.of 5 z z (TA.of 6 z z (TA.of 7 z z (TA.of 8 z z (TA.of 9 z z (TA.of 10 z z (TA.of 11 z z (ν 12 z (lF z z z) z (ν 13 z mB z (R3 ?_))))))))))));obtain ⟨u131,hh⟩:=gd hh;refine R3 ?_;obtain ⟨hh,VX⟩:=wG hR2 hh;exact lf ((true,(xw+1)),τ302) VX ⟨hh,wW,lV,rJ⟩ (ψ [7,7,7,7,7,7,7,7] 8)
   replace hh:=nS WS hh;refine TA.oN 2 z z mS (TA.oN 3 z z mI ?_);obtain ⟨u120,hh⟩:=gd hh;refine TA.isSl (i:=6) z (λhs314 _ _=> ?_);refine TA.oN 4 z z iN ?_;obtain ⟨N8,RP⟩: ∃p,p=(nth wX jo ((bH 1 aB aW).d,(bH 1 aB aW).dp)).2:=⟨_,rfl⟩;have hk315:dV τ302 aB N8.1 N8.2 (nth fD jo []):=by rw [RP];exact (lV.at (by omega)).2
   refine TA.oN 5 z z (OpVal.of (RP▸br_ lV z oV z (q:=6) z (by omega) z) (v':= .slice N8.1 ((nth fD jo []).length) N8.2) z) (TA.oN 6 z z mI (TA.oN 7 z z iN (TA.oN 8 z z l1 (TA.oN 9 z z fL (TA.oN 10 z z lL (TA.dv_ 11 (by kernel_rfl) z z z z z z (eG (in_con _ aC aJ x0.ends (nth (nth fD jo []) xw 0) aG) z z QU z z z (k0 ?_))))))));refine ν 12 z (qN z z z) z (ν 13 z mB z (R3 ?_));obtain ⟨u131,hh⟩:=gd hh;refine R3 ?_;obtain ⟨hh,VW⟩:=wG hR2 hh;exact lf (((x0.ends.contains (nth (nth fD jo []) xw 0)),(xw+1)),τ302) VW ⟨hh,wW,lV,rJ⟩ (ψ [7,7,7,7,7,7,7,7] 8)
  refine R1 ?_;replace hh:=bF hR2 hh;refine R6 ?_;refine φ 7 z z (TL.iw aW (λτ321 xO hr319=> ?_));replace hr113_0:=hr113_0.mono xO;replace kD:=kD.mono xO;replace wW:=wW.mono xO;replace lV:=lV.mono xO;have Qd:ZOk _ (bH 1 aB aW) ([(iC,(a213,yu))]:List (aj×(bH 1 aB aW).P)) [iC]:=ZOk.cons (hr319) (ZOk.nil _ _);refine κ z (litZ Qd z jH ji z jI z z z (by decide) (by decide) z (by decide) z (by decide) (λa317 c318=> ?_));refine φ 4 z z ?_;obtain ⟨u137,hh⟩:=gd hh;refine κ z (Ud (k:=(bH 1 aB aW)) wW Qd z z jH ji kY jI z z (by decide) z z z (.inr ⟨_,0,z⟩) (by simpa using u137) (by decide) (λa324 c325 zf326=> ?_));refine TL.w z fL (φ 4 z z (R6 ?_));refine κ z (gX (enc:=dL) [GU] (λa327 c328=> ?_));refine φ 6 z z ?_;obtain ⟨u144,hh⟩:=gd hh;refine κ z (apF (.inr ⟨_,0,z⟩) u144 (λa330 c331=> ?_));refine TL.w z fL (φ 2 z z (R7 ?_));obtain ⟨hh,VU⟩:=wG hR1 hh;exact lf (((jX++[iC]),(eY++[GU]),fD,(jo+1)),(a324,c325,(z159++([(iC,(a213,yu))]:List (aj×(bH 1 aB aW).P))),a330,c331,PI,c208,wX,τ321)) VU ⟨hh,zf326,lV,(((mD.trans ou).trans rJ).trans xO)⟩ (ψ [8,8,3,5,4,8,8] 7)
 refine R1 ?_;replace hh:=bF hR1 hh;refine R4 ?_;refine φ 1 z z (R3 ?_);refine TC.front 3 z z (TC.Xj kD (λτ335 Wj Ry=> ?_));replace hr113_0:=hr113_0.mono Wj;refine TC.front 3 z z (TC.iw wJ (λτ338 Kq hr336=> ?_));replace hr113_0:=hr113_0.mono Kq;replace Ry:=Ry.mono Kq;refine TC.rt 1 ?_;obtain rfl:=so hh;exact rz
def Y1(x0:Dfa)(bC:Nat)(aX:List B_1)(gQ:B_1)(iL:Nat):Option ((B_1×Nat)⊕(((List B_1)×Nat)⊕((List B_1)))):=
 aI (decide ((iL:Int)<(x0.next.length:Int))) (grd (bC<x0.fin.length) (grd (iL<x0.fin.length) (grd (iL<gQ.length) (nxt ((gQ.set iL ((nth x0.fin bC false) != (nth x0.fin iL false))),(iL+1)))))) (fin (grd ((aX.length+([gQ]:List B_1).length) * 24<=140737488355328) (nxt ((aX++([gQ]:List B_1)),(bC+1)))))
def U5(x0:Dfa)(gV:Nat)(l7:Nat)(lZ:List B_1)(GV:Bool)(qF:Nat):Option (((List B_1)×Bool×Nat)⊕(((List B_1)×Bool×Nat)⊕(((List B_1)×Bool×Nat)⊕(((List B_1)×Bool)⊕((List B_1)))))):=
 aI (decide ((qF:Int)<((nth x0.next gV []).length:Int))) (grd (gV<lZ.length) (grd (l7<(nth lZ gV []).length) (aI (!(nth (nth lZ gV []) l7 false)) (grd (0<=(nth (nth x0.next gV []) qF 0)/\(nth (nth x0.next gV []) qF 0)<(lZ.length:Int)) (grd (qF<(nth x0.next l7 []).length) (grd (0<=(nth (nth x0.next l7 []) qF 0)/\(nth (nth x0.next l7 []) qF 0)<((nth lZ ((nth (nth x0.next gV []) qF 0).toNat) []).length:Int)) (aI (nth (nth lZ ((nth (nth x0.next gV []) qF 0).toNat) []) ((nth (nth x0.next l7 []) qF 0).toNat) false) (grd (gV<lZ.length) (grd (l7<(nth lZ gV []).length) (nxt ((lZ.set gV ((nth lZ gV []).set l7 true)),true,(qF+1))))) (nxt (lZ,GV,(qF+1))))))) (nxt (lZ,GV,(qF+1)))))) (fin (nxt (lZ,GV,(l7+1))))
def UZ(x0:Dfa)(gV:Nat)(GZ:List B_1)(t218:Bool)(l7:Nat):Option (((List B_1)×Bool×Nat)⊕(((List B_1)×Bool×Nat)⊕(((List B_1)×Bool)⊕((List B_1))))):=
 aI (decide ((l7:Int)<(x0.next.length:Int))) (aV (λq:(List B_1)×Bool×Nat=>U5 x0 gV l7 q.1 q.2.1 q.2.2) (GZ,t218,0)) (fin (nxt (GZ,t218,(gV+1))))
def U4(x0:Dfa)(G5:List B_1)(t196:Bool)(gV:Nat):Option (((List B_1)×Bool×Nat)⊕(((List B_1)×Bool)⊕((List B_1)))):=
 aI (decide ((gV:Int)<(x0.next.length:Int))) (aV (λq:(List B_1)×Bool×Nat=>UZ x0 gV q.1 q.2.1 q.2.2) (G5,t196,0)) (fin (nxt (G5,t196)))
def Cq_(x0:Dfa)(G6:List B_1)(t175:Bool):Option (((List B_1)×Bool)⊕((List B_1))):=
 aI t175 (aV (λq:(List B_1)×Bool×Nat=>U4 x0 q.1 q.2.1 q.2.2) (G6,false,0)) (fin (some G6))
def Zb(x0:Dfa)(aX:List B_1)(bC:Nat):Option (((List B_1)×Nat)⊕((List B_1))):=
 aI (decide ((bC:Int)<(x0.next.length:Int))) (grd (1 * x0.next.length<=281474976710656) (aV (λq:B_1×Nat=>Y1 x0 bC aX q.1 q.2) ((replicate x0.next.length false),0))) (fin (aV (λq:(List B_1)×Bool=>Cq_ x0 q.1 q.2) (aX,true)))
def E0_(x0:Dfa):Option ((List B_1)):=
 aV (λq:(List B_1)×Nat=>Zb x0 q.1 q.2) (([]:List B_1),0)
def J8_(σ:ak)(r:(List B_1)):Value->ak->List Res->Prop:=λv σ' H'=>
 ∃a1 c1,v= .slice a1 r.length c1/\RZ σ' (bH 1 dL wJ) (.slice a1 r.length c1) r/\H'=[]
theorem Jt_{σ:ak}{x0:Dfa}(aA:dV σ aB ay au x0.cls)(aG:RZ σ (bH 1 aB aW) (.slice aC x0.next.length aJ) x0.next)(aH:dV σ dL aK aF x0.fin){r:(List B_1)}(hh:E0_ x0=some r):
  Con prog 115 #[.agg #[.slice ay x0.cls.length au,.slice aC x0.next.length aJ,.slice aK x0.fin.length aF]] σ [] (J8_ σ r):=by
 dsimp only [E0_]at hh;have f0_0b:=aA.rv.big;have f0_1b:=aG.big;have f0_2b:=aH.rv.big;refine cM 106 Tryz.func115 (λw0=> ?_);refine R2 ?_;refine TL.bx (λaS=> ?_);refine X_ ?_;refine TC.by (λw h=>Reach.dr_ 33 4 1 dL h) ?_;have zf124:Zn ([]:List (NP Bool)) ([]:List B_1):=Zn.nil;refine TC.lk hh (nO,oO,([]:List (NP Bool))) (rgs [(4,4),(16,30)]) (λ⟨aX,bC⟩ ⟨a119,iV,Bz⟩=>([(4,.slice a119 aX.length iV),(5,.int .i64 (bC:Int))],[ω aS #[.slice ay x0.cls.length au,.slice aC x0.next.length aJ,.slice aK x0.fin.length aF] 35,Res.nest 33 4 1 dL (.slice a119 aX.length iV) Bz])) (λ⟨aX,_⟩ ⟨_,_,Bz⟩=>Zn Bz aX) zf124 (ψ [1] 2) ?_;rintro ⟨aX,bC⟩ ⟨a119,iV,Bz⟩ _ z1 hh hR1 qV;dsimp only [Zb]at hh qV ⊢;have zf122b:=qV.len;refine TC.know (zf (q:=1) z qV) (λ⟨_,Gt⟩=> ?_);refine R7 ?_;refine ι z hh (λh127 hh=> ?_) (λh127 hh=> ?_)
 ·refine R6 ?_;obtain ⟨u13,hh⟩:=gd hh;refine κ z (mk2 (enc:=dL) false (λX8 XC=> ?_));refine R8 ?_;refine TC.lk hh () (rgs [(7,1),(23,19)]) (λ⟨gQ,iL⟩ _=>([(7,.int .i64 (iL:Int))],[ω aS #[.slice ay x0.cls.length au,.slice aC x0.next.length aJ,.slice aK x0.fin.length aF] 35,Res.nest 33 4 1 dL (.slice a119 aX.length iV) Bz,ε 4 1 dL (.slice X8 (replicate x0.next.length false).length XC) gQ])) (λ⟨gQ,_⟩ _=>Zn Bz aX/\gQ.length=(replicate x0.next.length false).length) ⟨qV,z⟩ (ψ [2,2] 3) ?_;rintro ⟨gQ,iL⟩ _ _ z2 hh hR2 ⟨Bo,pW⟩;dsimp only [Y1]at hh Bo pW ⊢;have zf140b:=Bo.len;refine TC.know (zf (q:=1) z Bo) (λ⟨_,hb144⟩=> ?_);refine ξ 2 z (λTJ=> ?_);refine R7 ?_;refine ι z hh (λXe hh=> ?_) (λXe hh=> ?_)
  ·refine R3 ?_;obtain ⟨u24,hh⟩:=gd hh;obtain ⟨u29,hh⟩:=gd hh;obtain ⟨u32,hh⟩:=gd hh;refine TC.draw [14] (by kernel_rfl) (ν 0 z mS z (ν 1 z mI z (ν 2 z fL z (Δ 3 z lL z (ν 4 z mI z (Δ 5 z iN z (Δ 6 z l1 z (ν 7 z fL z (Δ 8 z lL z (ν 9 z mI z (Δ 10 z iN z (Δ 11 z l1 z (ν 12 z (neqB z z z underlying4) z (TA.isSl (i:=2) z (λhs149 _ _=> ?_)))))))))))))));refine Δ 13 z iN z (Θ 2 z z ?_);have pV:(gQ.set iL ((nth x0.fin bC false) != (nth x0.fin iL false))).length=(replicate x0.next.length false).length:=by rw [eX];exact pW
   refine TA.last 14 (by kernel_rfl) z z z (qp ((nth x0.fin bC false) != (nth x0.fin iL false)) z AZ z z z z wJ EL (by omega) (by omega) ?_);refine R6 ?_;exact nk hR2 hh () (ψ [2,2] 3) ⟨Bo,pV⟩
  refine R1 ?_;replace hh:=bF hR2 hh;refine R4 ?_;rw [<-pW];refine φ 2 z z (κ z (buildN z z underlying171 wf_ U8 z z z z (λa152 O8 zf154=> ?_)));refine φ 2 z z ?_;obtain ⟨u40,hh⟩:=gd hh;refine κ z (dh_ z z underlying171 wf_ by33 U8 z z (by decide) z z Bo zf154 (by simpa using u40) (by decide) (λa156 c157 zf158=> ?_));refine R7 ?_;exact nk hR1 hh (a156,c157,(Bz++([(gQ,(X8,XC))]:List (NP Bool)))) (ψ [1] 2) zf158
 refine R1 ?_;replace hh:=bF hR1 hh;refine R7 ?_;refine TC.lk hh Bz (rgs [(8,5),(46,59)]) (λ⟨_,t175⟩ z173=>([(8,.bool t175)],[ω aS #[.slice ay x0.cls.length au,.slice aC x0.next.length aJ,.slice aK x0.fin.length aF] 35,Res.nest 33 4 1 dL (.slice a119 aX.length iV) z173])) (λ⟨G6,_⟩ z173=>G6.length=aX.length/\Zn z173 G6) ⟨z,qV⟩ (ψ [1,1] 2) ?_;rintro ⟨G6,t175⟩ z173 _ z1 hh hR1 ⟨JY,Bl⟩;dsimp only [Cq_]at hh JY Bl ⊢;have zf174b:=Bl.len;refine TC.know (zf (q:=1) z Bl) (λ⟨_,hb176⟩=> ?_);refine R5 ?_;refine TC.cB z hh (λh177 hh=> ?_) (λh177 hh=> ?_)
 ·refine R11 ?_;refine TC.lk hh z173 (rgs [(8,5),(47,58)]) (λ⟨_,t196,gV⟩ z194=>([(8,.bool t196),(9,.int .i64 (gV:Int))],[ω aS #[.slice ay x0.cls.length au,.slice aC x0.next.length aJ,.slice aK x0.fin.length aF] 35,Res.nest 33 4 1 dL (.slice a119 aX.length iV) z194])) (λ⟨G5,_,_⟩ z194=>G5.length=aX.length/\Zn z194 G5) ⟨JY,Bl⟩ (ψ [1,1] 2) ?_;rintro ⟨G5,t196,gV⟩ z194 _ z2 hh hR2 ⟨JW,Bh⟩;dsimp only [U4]at hh JW Bh ⊢;have zf195b:=Bh.len;refine TC.know (zf (q:=1) z Bh) (λ⟨_,hb198⟩=> ?_);refine R7 ?_;refine ι z hh (λh199 hh=> ?_) (λh199 hh=> ?_)
  ·refine R8 ?_;refine TC.lk hh z194 (rgs [(8,1),(10,3),(52,53)]) (λ⟨_,t218,l7⟩ GK=>([(8,.bool t218),(10,.int .i64 (l7:Int))],[ω aS #[.slice ay x0.cls.length au,.slice aC x0.next.length aJ,.slice aK x0.fin.length aF] 35,Res.nest 33 4 1 dL (.slice a119 aX.length iV) GK])) (λ⟨GZ,_,_⟩ GK=>GZ.length=aX.length/\Zn GK GZ) ⟨JW,Bh⟩ (ψ [1,1] 2) ?_;rintro ⟨GZ,t218,l7⟩ GK _ z3 hh uK ⟨JU,Bg⟩;dsimp only [UZ]at hh JU Bg ⊢;have zf217b:=Bg.len;refine TC.know (zf (q:=1) z Bg) (λ⟨_,hb220⟩=> ?_);refine R7 ?_;refine ι z hh (λW_ hh=> ?_) (λW_ hh=> ?_)
   ·refine R8 ?_;refine TC.lk hh GK (rgs [(8,1),(11,2),(57,48)]) (λ⟨_,GV,qF⟩ Bq=>([(8,.bool GV),(11,.int .i64 (qF:Int))],[ω aS #[.slice ay x0.cls.length au,.slice aC x0.next.length aJ,.slice aK x0.fin.length aF] 35,Res.nest 33 4 1 dL (.slice a119 aX.length iV) Bq])) (λ⟨lZ,_,_⟩ Bq=>lZ.length=aX.length/\Zn Bq lZ) ⟨JU,Bg⟩ (ψ [1,1] 2) ?_;rintro ⟨lZ,GV,qF⟩ Bq _ z4 hh WQ ⟨CS,mW⟩;dsimp only [U5]at hh CS mW ⊢;have zf239b:=mW.len;refine TC.know (zf (q:=1) z mW) (λ⟨_,hb242⟩=> ?_);refine R8 ?_;obtain ⟨Oe,KC,hg243⟩:=RZ.seg aG gV (by omega);replace KC:dV _ aB Oe.1 Oe.2 (nth x0.next gV []):=KC;have hk243b:=KC.rv.big;refine TL.w z (OpVal.of (wP z oV z hg243 z) (v':= .slice Oe.1 ((nth x0.next gV []).length) Oe.2) z) (R3 ?_);refine ι z hh (λWZ hh=> ?_) (λWZ hh=> ?_)
    ·refine R4 ?_;refine TC.draw [] (by kernel_rfl) (ν 0 z mS z (ν 1 z mI z ?_));obtain ⟨u67,hh⟩:=gd hh;refine TA.know (zf (q:=1) z mW) (λ⟨hs245,hs245b⟩=> ?_);refine Δ 2 z iN z ?_;obtain ⟨p246,Jw,J8⟩:=Zn.at mW (i:=gV) (by omega);refine Δ 3 z (O_ z uv_ z (q:=1) z Jw J8) z (ν 4 z mI z ?_);obtain ⟨u70,hh⟩:=gd hh;refine TA.know (l0_ (q:=1) z Jw J8) (λ⟨hs247,hs247b⟩=> ?_);refine Δ 5 z iN z (Δ 6 z (OpVal.seen (me_ (q:=1) z Jw J8) o1) z (ν 7 z (OpVal.not z z) z (ν 8 z mB z (TA.split 75 z (λWY=> ?_) (λWY=> ?_)))))
     ·replace hh:=nT WY hh;refine TA.oN 9 z z mS (TA.oN 10 z z fL (TA.oN 11 z z lL (TA.oN 12 z z mI (TA.oN 13 z z iN ?_))));obtain ⟨Oc,KA,hg249⟩:=RZ.seg aG gV (by omega);replace KA:dV _ aB Oc.1 Oc.2 (nth x0.next gV []):=KA;have hk249b:=KA.rv.big;refine TA.oN 14 z z (OpVal.of (wP z oV z hg249 z) (v':= .slice Oc.1 ((nth x0.next gV []).length) Oc.2) z) (TA.oN 15 z z mI (TA.oN 16 z z iN (TA.oN 17 z z l1 ?_)));obtain ⟨u83,hh⟩:=gd hh;refine TA.know (zf (q:=1) z mW) (λ⟨hs250,hs250b⟩=> ?_);refine TA.oN 18 z z iX ?_;obtain ⟨p251,Jv,J7⟩:=Zn.at mW (i:=(nth (nth x0.next gV []) qF 0).toNat) (by omega);refine TA.oN 19 z z (O_ z uv_ z (q:=1) z Jv J7) (TA.oN 20 z z fL (TA.oN 21 z z lL (TA.oN 22 z z mI (TA.oN 23 z z iN ?_))));obtain ⟨Ob,Tf,hg252⟩:=RZ.seg aG l7 (by omega);replace Tf:dV _ aB Ob.1 Ob.2 (nth x0.next l7 []):=Tf;refine TA.oN 24 z z (OpVal.of (wP z oV z hg252 z) (v':= .slice Ob.1 ((nth x0.next l7 []).length) Ob.2) z) (TA.oN 25 z z mI ?_);obtain ⟨u91,hh⟩:=gd hh;refine TA.oN 26 z z iN (TA.oN 27 z z l1 ?_);obtain ⟨u93,hh⟩:=gd hh;refine TA.know (l0_ (q:=1) z Jv J7) (λ⟨hs253,hs253b⟩=> ?_);refine TA.oN 28 z z iX (TA.oN 29 z z (OpVal.seen (me_ (q:=1) z Jv J7) o1) (ν 30 z (lF z z z) z (R1 ?_)));refine TC.cB z hh (λWX hh=> ?_) (λWX hh=> ?_)
      ·refine R4 ?_;obtain ⟨u98,hh⟩:=gd hh;refine TL.know (zf (q:=1) z mW) (λ⟨hs255,hs255b⟩=> ?_);refine TL.w z iN ?_;obtain ⟨D_,xC,CY⟩:=Zn.at mW (i:=gV) (by omega);refine TL.w z (O_ z uv_ z (q:=1) z xC CY) (R6 ?_);obtain ⟨u103,hh⟩:=gd hh;refine TL.know (l0_ (q:=1) z xC CY) (λ⟨hs257,hs257b⟩=> ?_);refine TL.w z iN (φ 1 z z (TL.by (λw h=>Reach.takeN xC CY h) ?_));have zK:(lZ.set gV ((nth lZ gV []).set l7 true)).length=aX.length:=(eX ..).trans CS;refine κ z (qp true z AZ z z z z wJ EL (by decide) (by omega) ?_);refine TL.by (λw h=>Reach.putN xC CY (by rw [eX]) h) ?_;have IV:=Zn.set mW gV ((nth lZ gV []).set l7 true) D_;refine R9 ?_;exact nk WQ hh (Bq.set gV (((nth lZ gV []).set l7 true),D_)) (ψ [1] 2) ⟨zK,IV⟩
      refine R6 ?_;exact nk WQ hh Bq (ψ [1,1] 2) ⟨CS,mW⟩
     replace hh:=nS WY hh;refine TA.of 9 z z (TA.of 10 z z (TA.of 11 z z (TA.of 12 z z (TA.of 13 z z (TA.of 14 z z (TA.of 15 z z (TA.of 16 z z (TA.of 17 z z (TA.of 18 z z (TA.of 19 z z (TA.of 20 z z (TA.of 21 z z (TA.of 22 z z (TA.of 23 z z (TA.of 24 z z ?_)))))))))))))));refine TA.of 25 z z (TA.of 26 z z (TA.of 27 z z (TA.of 28 z z (TA.of 29 z z (ν 30 z (qN z z z) z (R8 ?_))))));exact nk WQ hh Bq (ψ [1,1] 2) ⟨CS,mW⟩
    refine R1 ?_;replace hh:=bF WQ hh;refine R6 ?_;exact nk uK hh Bq (ψ [1,1] 2) ⟨CS,mW⟩
   refine R1 ?_;replace hh:=bF uK hh;refine R6 ?_;exact nk hR2 hh GK (ψ [1,1] 2) ⟨JU,Bg⟩
  refine R1 ?_;replace hh:=bF hR2 hh;refine R1 ?_;exact nk hR1 hh z194 (ψ [1,1] 2) ⟨JW,Bh⟩
 refine R1 ?_;replace hh:=bF hR1 hh;refine R6 ?_;rw [<-JY];refine TC.front 1 z z (TC.c3_ (λw h=>Reach.bn_ wJ Bl h) (λτ269 hle268 RD=> ?_));have hr267b:=RD.big;refine TC.rt 0 ?_;obtain rfl:=so hh;exact rq [2] ⟨a119,iV,z,RD,z⟩
def UL(jh:Nat)(v11:(List B_1))(aX:aj)(i131:Int)(y8:Int):Option ((Int×Int)⊕((aj×Nat)⊕(Dfa×Int))):=
 aI (decide (0<=y8)) (grd (jh<v11.length) (grd (0<=y8/\y8<((nth v11 jh []).length:Int)) (aI (!(nth (nth v11 jh []) y8.toNat false)) (nxt (y8,(IntKind.i64.wrap (y8 - 1)))) (nxt (i131,(IntKind.i64.wrap (y8 - 1))))))) (fin (grd ((aX.length+[i131].length) * 8<=140737488355328) (nxt ((aX++[i131]),(jh+1)))))
def YI(uq:aj)(aX:aj)(x0:Dfa)(dP:aj)(l9:Nat)(sV:Nat)(Jg:Bool)(Em:Nat):Option ((Bool×Nat)⊕((aj×Nat)⊕((aj×Nat)⊕(Dfa×Int)))):=
 aI (decide ((Em:Int)<(uq.length:Int))) (aI Jg (nxt (true,(Em+1))) (nxt (decide ((nth uq Em 0)=(nth aX ((nth (nth x0.next ((nth dP l9 0).toNat) []) sV 0).toNat) 0)),(Em+1)))) (fin (aI (!Jg) (grd ((uq.length+[(nth aX ((nth (nth x0.next ((nth dP l9 0).toNat) []) sV 0).toNat) 0)].length) * 8<=140737488355328) (nxt ((uq++[(nth aX ((nth (nth x0.next ((nth dP l9 0).toNat) []) sV 0).toNat) 0)]),(sV+1)))) (nxt (uq,(sV+1)))))
def YM(x0:Dfa)(dP:aj)(l9:Nat)(aX:aj)(uq:aj)(sV:Nat):Option ((aj×Nat)⊕((aj×Nat)⊕(Dfa×Int))):=
 aI (decide ((sV:Int)<((nth x0.next ((nth dP l9 0).toNat) []).length:Int))) (grd (0<=(nth (nth x0.next ((nth dP l9 0).toNat) []) sV 0)/\(nth (nth x0.next ((nth dP l9 0).toNat) []) sV 0)<(aX.length:Int)) (aV (λq:Bool×Nat=>YI uq aX x0 dP l9 sV q.1 q.2) (false,0))) (fin (nxt (uq,(l9+1))))
def UJ(dP:aj)(x0:Dfa)(ku:Nat)(aX:aj)(iM:Int)(dU:aj)(uD:Int)(Je:Bool)(nV:Nat):Option ((Bool×Nat)⊕((Int×Int)⊕((aj×aj×Nat)⊕(Dfa×Int)))):=
 aI (decide ((nV:Int)<(dP.length:Int))) (grd (0<=(nth dP nV 0)/\(nth dP nV 0)<(x0.next.length:Int)) (aI Je (grd (ku<x0.cls.length) (grd (0<=(nth x0.cls ku 0)/\(nth x0.cls ku 0)<((nth x0.next ((nth dP nV 0).toNat) []).length:Int)) (grd (0<=(nth (nth x0.next ((nth dP nV 0).toNat) []) ((nth x0.cls ku 0).toNat) 0)/\(nth (nth x0.next ((nth dP nV 0).toNat) []) ((nth x0.cls ku 0).toNat) 0)<(aX.length:Int)) (grd (0<=iM/\iM<(dU.length:Int)) (grd (0<=(nth dU iM.toNat 0)/\(nth dU iM.toNat 0)<(x0.cls.length:Int)) (grd (0<=(nth x0.cls ((nth dU iM.toNat 0).toNat) 0)/\(nth x0.cls ((nth dU iM.toNat 0).toNat) 0)<((nth x0.next ((nth dP nV 0).toNat) []).length:Int)) (grd (0<=(nth (nth x0.next ((nth dP nV 0).toNat) []) ((nth x0.cls ((nth dU iM.toNat 0).toNat) 0).toNat) 0)/\(nth (nth x0.next ((nth dP nV 0).toNat) []) ((nth x0.cls ((nth dU iM.toNat 0).toNat) 0).toNat) 0)<(aX.length:Int)) (nxt (decide ((nth aX ((nth (nth x0.next ((nth dP nV 0).toNat) []) ((nth x0.cls ku 0).toNat) 0).toNat) 0)=(nth aX ((nth (nth x0.next ((nth dP nV 0).toNat) []) ((nth x0.cls ((nth dU iM.toNat 0).toNat) 0).toNat) 0).toNat) 0)),(nV+1)))))))))) (nxt (false,(nV+1))))) (fin (aI Je (nxt (iM,(IntKind.i64.wrap (iM - 1)))) (nxt (uD,(IntKind.i64.wrap (iM - 1))))))
def YK(dP:aj)(x0:Dfa)(ku:Nat)(aX:aj)(dU:aj)(jd:aj)(uD:Int)(iM:Int):Option ((Int×Int)⊕((aj×aj×Nat)⊕(Dfa×Int))):=
 aI (decide (0<=iM)) (aV (λq:Bool×Nat=>UJ dP x0 ku aX iM dU uD q.1 q.2) (true,0)) (fin (aI (decide (uD=(dU.length:Int))) (grd ((dU.length+[(ku:Int)].length) * 8<=140737488355328) (grd (ku<jd.length) (nxt ((jd.set ku uD),(dU++[(ku:Int)]),(ku+1))))) (grd (ku<jd.length) (nxt ((jd.set ku uD),dU,(ku+1))))))
def El_(mZ:aj)(wz:Nat)(kS:Nat)(Vz:aj):Option ((aj×aj×Nat)⊕((aY×B_1×aj×Nat)⊕(Dfa×Int))):=
 grd ((mZ.length+[(wz:Int)].length) * 8<=140737488355328) (nxt (Vz,(mZ++[(wz:Int)]),(kS+1)))
def Ny(fZ:aj)(aX:aj)(x0:Dfa)(iD:Nat)(dU:aj)(kS:Nat)(mZ:aj)(wz:Nat)(Ac:Nat):Option ((Nat×Nat)⊕((aj×aj×Nat)⊕((aY×B_1×aj×Nat)⊕(Dfa×Int)))):=
 aI (decide ((Ac:Int)<(fZ.length:Int))) (aI (decide ((nth fZ Ac 0)=(nth aX ((nth (nth x0.next ((nth fZ iD 0).toNat) []) ((nth x0.cls ((nth dU kS 0).toNat) 0).toNat) 0).toNat) 0))) (nxt (Ac,(Ac+1))) (nxt (wz,(Ac+1)))) (fin (aI (decide ((wz:Int)=(fZ.length:Int))) (grd ((fZ.length+[(nth aX ((nth (nth x0.next ((nth fZ iD 0).toNat) []) ((nth x0.cls ((nth dU kS 0).toNat) 0).toNat) 0).toNat) 0)].length) * 8<=140737488355328) (El_ mZ wz kS (fZ++[(nth aX ((nth (nth x0.next ((nth fZ iD 0).toNat) []) ((nth x0.cls ((nth dU kS 0).toNat) 0).toNat) 0).toNat) 0)]))) (El_ mZ wz kS fZ)))
def P6(dU:aj)(iD:Nat)(x0:Dfa)(aX:aj)(oP:aY)(kM:B_1)(fZ:aj)(mZ:aj)(kS:Nat):Option ((aj×aj×Nat)⊕((aY×B_1×aj×Nat)⊕(Dfa×Int))):=
 aI (decide ((kS:Int)<(dU.length:Int))) (grd (iD<fZ.length) (grd (0<=(nth fZ iD 0)/\(nth fZ iD 0)<(x0.next.length:Int)) (grd (0<=(nth dU kS 0)/\(nth dU kS 0)<(x0.cls.length:Int)) (grd (0<=(nth x0.cls ((nth dU kS 0).toNat) 0)/\(nth x0.cls ((nth dU kS 0).toNat) 0)<((nth x0.next ((nth fZ iD 0).toNat) []).length:Int)) (grd (0<=(nth (nth x0.next ((nth fZ iD 0).toNat) []) ((nth x0.cls ((nth dU kS 0).toNat) 0).toNat) 0)/\(nth (nth x0.next ((nth fZ iD 0).toNat) []) ((nth x0.cls ((nth dU kS 0).toNat) 0).toNat) 0)<(aX.length:Int)) (aV (λq:Nat×Nat=>Ny fZ aX x0 iD dU kS mZ q.1 q.2) (fZ.length,0))))))) (fin (grd ((oP.length+[mZ].length) * 24<=140737488355328) (grd (iD<fZ.length) (grd (0<=(nth fZ iD 0)/\(nth fZ iD 0)<(x0.fin.length:Int)) (grd ((kM.length+[(nth x0.fin ((nth fZ iD 0).toNat) false)].length) * 1<=140737488355328) (nxt ((oP++[mZ]),(kM++[(nth x0.fin ((nth fZ iD 0).toNat) false)]),fZ,(iD+1))))))))
def Nw(dU:aj)(x0:Dfa)(aX:aj)(jd:aj)(oP:aY)(kM:B_1)(OD:aj)(iD:Nat):Option ((aY×B_1×aj×Nat)⊕(Dfa×Int)):=
 aI (decide ((iD:Int)<(OD.length:Int))) (aV (λq:aj×aj×Nat=>P6 dU iD x0 aX oP kM q.1 q.2.1 q.2.2) (OD,([]:aj),0)) (fin (some ((⟨jd,oP,kM⟩:Dfa),0)))
def UK(dP:aj)(x0:Dfa)(aX:aj)(jd:aj)(dU:aj)(ku:Nat):Option ((aj×aj×Nat)⊕(Dfa×Int)):=
 aI (decide ((ku:Int)<256)) (aV (λq:Int×Int=>YK dP x0 ku aX dU jd q.1 q.2) ((dU.length:Int),(IntKind.i64.wrap ((dU.length:Int) - 1)))) (fin (grd (0<aX.length) (aV (λq:aY×B_1×aj×Nat=>Nw dU x0 aX jd q.1 q.2.1 q.2.2.1 q.2.2.2) (([]:aY),([]:B_1),[(nth aX 0 0)],0))))
def YJ(x0:Dfa)(aX:aj)(dP:aj)(l9:Nat):Option ((aj×Nat)⊕(Dfa×Int)):=
 aI (decide ((l9:Int)<(dP.length:Int))) (grd (0<=(nth dP l9 0)/\(nth dP l9 0)<(x0.next.length:Int)) (aV (λq:aj×Nat=>YM x0 dP l9 aX q.1 q.2) (dP,0))) (fin (aV (λq:aj×aj×Nat=>UK dP x0 aX q.1 q.2.1 q.2.2) ((replicate 256 (0:Int)),([]:aj),0)))
def YL(x0:Dfa)(v11:(List B_1))(aX:aj)(jh:Nat):Option ((aj×Nat)⊕(Dfa×Int)):=
 aI (decide ((jh:Int)<(x0.next.length:Int))) (aV (λq:Int×Int=>UL jh v11 aX q.1 q.2) ((jh:Int),(jh:Int))) (fin (grd (0<aX.length) (aV (λq:aj×Nat=>YJ x0 aX q.1 q.2) ([(nth aX 0 0)],0))))
def F3_(x0:Dfa):Option (Dfa×Int):=
 bnd (YU x0) (λv5=>aI (!v5) (some ((⟨([]:aj),([]:aY),([]:B_1)⟩:Dfa),1)) (bnd (E0_ x0) (λv11=>aV (λq:aj×Nat=>YL x0 v11 q.1 q.2) (([]:aj),0))))
theorem J7_{σ:ak}{x0:Dfa}(aA:dV σ aB ay au x0.cls)(aG:RZ σ (bH 1 aB aW) (.slice aC x0.next.length aJ) x0.next)(aH:dV σ dL aK aF x0.fin){r:Dfa×Int}(hh:F3_ x0=some r):
  Con prog 46 #[.agg #[.slice ay x0.cls.length au,.slice aC x0.next.length aJ,.slice aK x0.fin.length aF]] σ [] (UD σ r):=by
 dsimp only [F3_]at hh;have f0_0b:=aA.rv.big;have f0_1b:=aG.big;have f0_2b:=aH.rv.big;refine cM 273 Tryz.func46 (λw0=> ?_);refine R2 ?_;refine TL.bx (λaS=> ?_);refine TL.al (λbn=> ?_);refine R6 ?_;obtain ⟨v5,u5,hh⟩:=bQ hh;refine κ z (eG (Gj_ (x0:=x0) aA aG aH u5) z z aaj_ z z z ?_);refine R2 ?_;refine TC.cB z hh (λbM hh=> ?_) (λbM hh=> ?_)
 ·refine R6 ?_;refine TC.rt 1 ?_;obtain rfl:=so hh;exact rz
 refine R4 ?_;obtain ⟨v11,u11,hh⟩:=bQ hh;refine κ z (OpOk.call (Jt_ (x0:=x0) aA aG aH u11) z z pf115 z z z z ?_);rintro _ τ106 _ oD ⟨a106_1,c106_1,rfl,hr106_0,rfl⟩;replace aA:=aA.mono oD;replace aG:=aG.mono oD;replace aH:=aH.mono oD;have hr106_0b:=hr106_0.big;refine R12 ?_;refine TC.nilS 3 1 aB (TC.lp hh (nO,oO) (rgs [(5,4),(38,26)]) (λ⟨aX,jh⟩ ⟨a119,iV⟩=>([(5,.slice a119 aX.length iV),(6,.int .i64 (jh:Int))],[ω aS #[.slice ay x0.cls.length au,.slice aC x0.next.length aJ,.slice aK x0.fin.length aF] 35,ω bn #[aT,aT,aT] 35,dW 3 aB a119 iV aX])) (ψ [1,2] 3) ?_);rintro ⟨aX,jh⟩ ⟨a119,iV⟩ _ z1 hh hR1;dsimp only [YL]at hh ⊢;refine ξ 2 z (λhb123=> ?_);refine R9 ?_;refine ι z hh (λLj hh=> ?_) (λLj hh=> ?_)
 ·refine R15 ?_;refine TC.lp hh () (rgs [(7,2),(47,13)]) (λ⟨i131,y8⟩ _=>([(7,.int .i64 i131),(8,.int .i64 y8)],[ω aS #[.slice ay x0.cls.length au,.slice aC x0.next.length aJ,.slice aK x0.fin.length aF] 35,ω bn #[aT,aT,aT] 35,dW 3 aB a119 iV aX])) (ψ [2,2,2] 3) ?_;rintro ⟨i131,y8⟩ _ _ z2 hh hR2;dsimp only [UL]at hh ⊢;refine ξ 2 z (λTK=> ?_);refine R6 ?_;refine ι z hh (λuN hh=> ?_) (λuN hh=> ?_)
  ·refine R7 ?_;obtain ⟨u28,hh⟩:=gd hh;refine TL.w z iN ?_;obtain ⟨Oo,KG,hg135⟩:=RZ.seg hr106_0 jh (by omega);replace KG:dV _ dL Oo.1 Oo.2 (nth v11 jh []):=KG;have hk135b:=KG.rv.big;refine TL.w z (OpVal.of (wP z uv_ z hg135 z) (v':= .slice Oo.1 ((nth v11 jh []).length) Oo.2) z) (TL.i z z ?_);obtain ⟨u31,hh⟩:=gd hh;refine R4 ?_;refine TC.cB z hh (λx9 hh=> ?_) (λx9 hh=> ?_)
   ·refine R9 ?_;exact nx hR2 hh () (ψ [2,2,2] 3)
   refine R6 ?_;exact nx hR2 hh () (ψ [2,2,2] 3)
  refine R1 ?_;replace hh:=bF hR2 hh;refine R4 ?_;refine κ z (gX (enc:=aB) [i131] (λa139 nM=> ?_));refine φ 3 z z ?_;obtain ⟨u42,hh⟩:=gd hh;refine κ z (apF (.inr ⟨_,0,z⟩) u42 (λDx c143=> ?_));refine R7 ?_;exact nx hR1 hh (Dx,c143) (ψ [3,3] 3)
 refine R1 ?_;replace hh:=bF hR1 hh;refine R4 ?_;obtain ⟨u48,hh⟩:=gd hh;refine TL.iS 2 z (λRl=> ?_);refine TL.w z (zk (i:=0) z yT lG z z Rl (by omega)) (TL.w z o1 (κ z (gX (enc:=aB) [(nth aX 0 0)] (λa146 EP=> ?_))));refine R8 ?_;refine TC.lp hh (a146,EP) (rgs [(9,7),(68,48)]) (λ⟨dP,l9⟩ ⟨uX,c159⟩=>([(9,.slice uX dP.length c159),(10,.int .i64 (l9:Int))],[ω aS #[.slice ay x0.cls.length au,.slice aC x0.next.length aJ,.slice aK x0.fin.length aF] 35,ω bn #[aT,aT,aT] 35,dW 3 aB a119 iV aX,dW 3 aB uX c159 dP])) (ψ [3,3,3] 4) ?_;rintro ⟨dP,l9⟩ ⟨uX,c159⟩ _ z1 hh hR1;dsimp only [YJ]at hh ⊢;refine ξ 2 z (λhb161=> ?_);refine ξ 3 z (λhb162=> ?_);refine R8 ?_;refine ι z hh (λh163 hh=> ?_) (λh163 hh=> ?_)
 ·refine R4 ?_;obtain ⟨u63,hh⟩:=gd hh;refine TC.draw [] (by kernel_rfl) (ν 0 z fL z (Δ 1 z lL z (ν 2 z mS z (ν 3 z mI z (TA.isSl (i:=3) z (λhs166 _ _=> ?_))))));refine Δ 4 z iN z (Δ 5 z o1 z (Δ 6 z iX z ?_));obtain ⟨Jp,KE,hg167⟩:=RZ.seg aG ((nth dP l9 0).toNat) (by omega);replace KE:dV _ aB Jp.1 Jp.2 (nth x0.next ((nth dP l9 0).toNat) []):=KE;have hk167b:=KE.rv.big;refine Δ 7 z (OpVal.of (wP z oV z hg167 z) (v':= .slice Jp.1 ((nth x0.next ((nth dP l9 0).toNat) []).length) Jp.2) z) z (ν 8 z mS z (R6 ?_));refine TC.lp hh (uX,c159) (rgs [(9,1),(12,4),(82,34)]) (λ⟨uq,sV⟩ ⟨zn,zh⟩=>([(9,.slice zn uq.length zh),(12,.int .i64 (sV:Int))],[ω aS #[.slice ay x0.cls.length au,.slice aC x0.next.length aJ,.slice aK x0.fin.length aF] 35,ω bn #[aT,aT,aT] 35,dW 3 aB a119 iV aX,dW 3 aB zn zh uq])) (ψ [3,3,3,3] 4) ?_;rintro ⟨uq,sV⟩ ⟨zn,zh⟩ _ z2 hh hR2;dsimp only [YM]at hh ⊢;refine ξ 2 z (λhb180=> ?_);refine ξ 3 z (λhb181=> ?_);refine R8 ?_;refine ι z hh (λh182 hh=> ?_) (λh182 hh=> ?_)
  ·refine R10 ?_;obtain ⟨u76,hh⟩:=gd hh;refine TL.iS 2 z (λhs183=> ?_);refine R14 ?_;refine TC.lp hh () (rgs [(14,2),(95,15)]) (λ⟨Jg,Em⟩ _=>([(14,.bool Jg),(15,.int .i64 (Em:Int))],[ω aS #[.slice ay x0.cls.length au,.slice aC x0.next.length aJ,.slice aK x0.fin.length aF] 35,ω bn #[aT,aT,aT] 35,dW 3 aB a119 iV aX,dW 3 aB zn zh uq])) (ψ [3,3,3,3] 4) ?_;rintro ⟨Jg,Em⟩ _ _ z3 hh uK;dsimp only [YI]at hh ⊢;refine ξ 2 z (λhb190=> ?_);refine ξ 3 z (λhb191=> ?_);refine R8 ?_;refine ι z hh (λh192 hh=> ?_) (λh192 hh=> ?_)
   ·refine R6 ?_;refine Γ 102 z (λXa=> ?_) (λXa=> ?_)
    ·replace hh:=nT Xa hh;refine R14 ?_;exact nx uK hh () (ψ [3,3,3,3] 4)
    replace hh:=nS Xa hh;refine R2 ?_;refine TL.iS 3 z (λhs195=> ?_);refine R12 ?_;exact nx uK hh () (ψ [3,3,3,3] 4)
   refine R1 ?_;replace hh:=bF uK hh;refine R6 ?_;refine TC.cB z hh (λh197 hh=> ?_) (λh197 hh=> ?_)
   ·refine R3 ?_;refine κ z (gX (enc:=aB) [(nth aX ((nth (nth x0.next ((nth dP l9 0).toNat) []) sV 0).toNat) 0)] (λa198 c199=> ?_));refine φ 4 z z ?_;obtain ⟨u103,hh⟩:=gd hh;refine κ z (apF (.inr ⟨_,0,z⟩) u103 (λa201 Xw=> ?_));refine R7 ?_;exact nx hR2 hh (a201,Xw) (ψ [4,4,4] 4)
   refine R6 ?_;exact nx hR2 hh (zn,zh) (ψ [3,3,3,3] 4)
  refine R1 ?_;replace hh:=bF hR2 hh;refine R6 ?_;exact nx hR1 hh (zn,zh) (ψ [3,3,3,3] 4)
 refine R1 ?_;replace hh:=bF hR1 hh;refine R3 ?_;refine κ z (IC (m:=256) (enc:=aB) (0:Int) z yT lG T_ Fh z z z z (by omega) (by decide) aW (by decide) z vX (λa206 nK=> ?_));refine R12 ?_;refine TC.nilS 3 1 aB (TC.lk hh (nO,oO) (rgs [(17,7),(117,70)]) (λ⟨jd,dU,ku⟩ ⟨a227,c228⟩=>([(17,.slice a227 dU.length c228),(18,.int .i64 (ku:Int))],[ω aS #[.slice ay x0.cls.length au,.slice aC x0.next.length aJ,.slice aK x0.fin.length aF] 35,ω bn #[aT,aT,aT] 35,dW 3 aB a119 iV aX,dW 3 aB uX c159 dP,ε 3 1 aB (.slice a206 (replicate 256 (0:Int)).length nK) jd,dW 3 aB a227 c228 dU])) (λ⟨jd,_,_⟩ ⟨_,_⟩=>jd.length=(replicate 256 (0:Int)).length) z (ψ [1,5,5,5,5] 6) ?_);rintro ⟨jd,dU,ku⟩ ⟨a227,c228⟩ _ z1 hh hR1 JR;dsimp only [UK]at hh JR ⊢;refine ξ 2 z (λhb231=> ?_);refine ξ 3 z (λhb232=> ?_);refine ξ 4 z (λhb233=> ?_);refine ξ 5 z (λhb234=> ?_);refine R6 ?_;refine ι z hh (λh235 hh=> ?_) (λh235 hh=> ?_)
 ·refine R18 ?_;refine TC.lk hh () (rgs [(19,5),(126,49)]) (λ⟨uD,iM⟩ _=>([(19,.int .i64 uD),(20,.int .i64 iM)],[ω aS #[.slice ay x0.cls.length au,.slice aC x0.next.length aJ,.slice aK x0.fin.length aF] 35,ω bn #[aT,aT,aT] 35,dW 3 aB a119 iV aX,dW 3 aB uX c159 dP,ε 3 1 aB (.slice a206 (replicate 256 (0:Int)).length nK) jd,dW 3 aB a227 c228 dU])) (λ⟨_,_⟩ _=>jd.length=(replicate 256 (0:Int)).length) JR (ψ [5,5,5,5,5,5] 6) ?_;rintro ⟨uD,iM⟩ _ _ z2 hh hR2 F5;dsimp only [YK]at hh F5 ⊢;refine ξ 2 z (λhb246=> ?_);refine ξ 3 z (λhb247=> ?_);refine ξ 4 z (λhb248=> ?_);refine ξ 5 z (λhb249=> ?_);refine R6 ?_;refine ι z hh (λh250 hh=> ?_) (λh250 hh=> ?_)
  ·refine R13 ?_;refine TC.lk hh () (rgs [(21,3),(130,43)]) (λ⟨Je,nV⟩ _=>([(21,.bool Je),(22,.int .i64 (nV:Int))],[ω aS #[.slice ay x0.cls.length au,.slice aC x0.next.length aJ,.slice aK x0.fin.length aF] 35,ω bn #[aT,aT,aT] 35,dW 3 aB a119 iV aX,dW 3 aB uX c159 dP,ε 3 1 aB (.slice a206 (replicate 256 (0:Int)).length nK) jd,dW 3 aB a227 c228 dU])) (λ⟨_,_⟩ _=>jd.length=(replicate 256 (0:Int)).length) F5 (ψ [5,5,5,5,5,5] 6) ?_;rintro ⟨Je,nV⟩ _ _ z3 hh uK CQ;dsimp only [UJ]at hh CQ ⊢;refine ξ 2 z (λhb261=> ?_);refine ξ 3 z (λhb262=> ?_);refine ξ 4 z (λhb263=> ?_);refine ξ 5 z (λhb264=> ?_);refine R8 ?_;refine ι z hh (λh265 hh=> ?_) (λh265 hh=> ?_)
   ·refine R4 ?_;obtain ⟨u138,hh⟩:=gd hh;refine TC.draw [] (by kernel_rfl) (ν 0 z fL z (Δ 1 z lL z (ν 2 z mS z (ν 3 z mI z (TA.isSl (i:=3) z (λhs268 _ _=> ?_))))));refine Δ 4 z iN z (Δ 5 z o1 z (Δ 6 z iX z ?_));obtain ⟨Oa,Td,hg269⟩:=RZ.seg aG ((nth dP nV 0).toNat) (by omega);replace Td:dV _ aB Oa.1 Oa.2 (nth x0.next ((nth dP nV 0).toNat) []):=Td;refine Δ 7 z (OpVal.of (wP z oV z hg269 z) (v':= .slice Oa.1 ((nth x0.next ((nth dP nV 0).toNat) []).length) Oa.2) z) z (ν 8 z mS z (R1 ?_));refine TC.draw [] (by kernel_rfl) (ν 0 z mB z (ν 1 z mB z (TA.split 145 z (λWU=> ?_) (λWU=> ?_))))
    ·replace hh:=nT WU hh;refine TA.oN 2 z z mS (TA.oN 3 z z mS (TA.oN 4 z z fL (TA.oN 5 z z lL (TA.oN 6 z z mI ?_))));obtain ⟨u148,hh⟩:=gd hh;refine TA.oN 7 z z iN (TA.oN 8 z z l1 ?_);obtain ⟨u150,hh⟩:=gd hh;refine TA.oN 9 z z iX (TA.oN 10 z z l1 ?_);obtain ⟨u152,hh⟩:=gd hh;refine TA.isSl (i:=2) z (λhs271 _ _=> ?_);refine TA.oN 11 z z iX (TA.oN 12 z z o1 (TA.oN 13 z z mS (TA.oN 14 z z mS (TA.oN 15 z z fL (TA.oN 16 z z lL (TA.oN 17 z z mS (TA.oN 18 z z mI ?_)))))));obtain ⟨u160,hh⟩:=gd hh;refine TA.isSl (i:=5) z (λhs272 _ _=> ?_);refine TA.oN 19 z z iX (TA.oN 20 z z o1 ?_);obtain ⟨u162,hh⟩:=gd hh;refine TA.oN 21 z z iX (TA.oN 22 z z l1 ?_);obtain ⟨u164,hh⟩:=gd hh;refine TA.oN 23 z z iX (TA.oN 24 z z l1 ?_);obtain ⟨u166,hh⟩:=gd hh;refine TA.isSl (i:=2) z (λhs273 _ _=> ?_);refine TA.oN 25 z z iX (TA.oN 26 z z o1 (TA.oN 27 z z (OpVal.eql z z z) (ν 28 z (lF z z z) z (ν 29 z mB z (R6 ?_)))));exact nk uK hh () (ψ [5,5,5,5,5,5] 6) CQ
    replace hh:=nS WU hh;refine TA.of 2 z z (TA.of 3 z z (TA.of 4 z z (TA.of 5 z z (TA.of 6 z z (TA.of 7 z z (TA.of 8 z z (TA.of 9 z z (TA.of 10 z z (TA.of 11 z z (TA.of 12 z z (TA.of 13 z z (TA.of 14 z z (TA.of 15 z z (TA.of 16 z z (TA.of 17 z z ?_)))))))))))))));refine TA.of 18 z z (TA.of 19 z z (TA.of 20 z z (TA.of 21 z z (TA.of 22 z z (TA.of 23 z z (TA.of 24 z z (TA.of 25 z z (TA.of 26 z z (TA.of 27 z z (ν 28 z (qN z z z) z (ν 29 z mB z (R6 ?_))))))))))));exact nk uK hh () (ψ [5,5,5,5,5,5] 6) CQ
   refine R1 ?_;replace hh:=bF uK hh;refine R5 ?_;refine TC.cB z hh (λh276 hh=> ?_) (λh276 hh=> ?_)
   ·refine R9 ?_;exact nk hR2 hh () (ψ [5,5,5,5,5,5] 6) CQ
   refine R6 ?_;exact nk hR2 hh () (ψ [5,5,5,5,5,5] 6) CQ
  refine R1 ?_;replace hh:=bF hR2 hh;refine R9 ?_;refine ι z hh (λWT hh=> ?_) (λWT hh=> ?_)
  ·refine R3 ?_;refine κ z (gX (enc:=aB) [(ku:Int)] (λa280 c281=> ?_));refine φ 6 z z ?_;obtain ⟨u187,hh⟩:=gd hh;refine κ z (apF (.inr ⟨_,0,z⟩) u187 (λX0 Xu=> ?_));refine R6 ?_;obtain ⟨u192,hh⟩:=gd hh;refine TL.iS 6 z (λhs285=> ?_);refine TL.w z iN (φ 6 z z ?_);have hn286:(jd.set ku uD).length=(replicate 256 (0:Int)).length:=by rw [eX];exact F5
   refine κ z (qp uD z lG z z z z aW vX (by omega) (by omega) ?_);refine R6 ?_;exact nk hR1 hh (X0,Xu) (ψ [1,1,6,6,6,6] 6) hn286
  refine R5 ?_;obtain ⟨u192,hh⟩:=gd hh;refine TL.iS 4 z (λhs288=> ?_);refine TL.w z iN (φ 4 z z ?_);have hn289:(jd.set ku uD).length=(replicate 256 (0:Int)).length:=by rw [eX];exact F5
  refine κ z (qp uD z lG z z z z aW vX (by omega) (by omega) ?_);refine R6 ?_;exact nk hR1 hh (a227,c228) (ψ [5,1,5,5,5,5] 6) hn289
 refine R1 ?_;replace hh:=bF hR1 hh;refine R5 ?_;refine TL.al (λPj=> ?_);refine R5 ?_;obtain ⟨u202,hh⟩:=gd hh;refine TL.iS 3 z (λhs293=> ?_);refine TL.w z (zk (i:=0) z yT lG z z hs293 (by omega)) (TL.w z o1 (κ z (gX (enc:=aB) [(nth aX 0 0)] (λa294 c295=> ?_))));refine R8 ?_;refine TC.nilS 31 1 (bH 1 aB aW).en ?_;have zf343:=ZOk.nil τ106 (bH 1 aB aW);refine TC.nilS 4 1 dL (TC.zl (α:=(aY×B_1×aj×Nat)×((Option Addr)×Nat×(List (aj×(bH 1 aB aW).P))×(Option Addr)×Nat×(Option Addr)×Nat×ak)) (rgs [(25,7),(193,79)]) (λg=>[(25,.slice g.2.2.2.2.2.2.1 g.1.2.2.1.length g.2.2.2.2.2.2.2.1),(26,.int .i64 (g.1.2.2.2:Int))]) (λg=>[ω aS #[.slice ay x0.cls.length au,.slice aC x0.next.length aJ,.slice aK x0.fin.length aF] 35,ω bn #[aT,aT,aT] 35,dW 3 aB a119 iV aX,dW 3 aB a227 c228 dU,ω Pj #[.slice a206 ((replicate 256 (0:Int)).length) nK,.slice g.2.1 g.1.1.length g.2.2.1,.slice g.2.2.2.2.1 g.1.2.1.length g.2.2.2.2.2.1] 35,ε 3 1 aB (.slice a206 (replicate 256 (0:Int)).length nK) jd,ε 31 1 (bH 1 aB aW).en (.slice g.2.1 g.1.1.length g.2.2.1) g.2.2.2.1,ε 4 1 dL (.slice g.2.2.2.2.1 g.1.2.1.length g.2.2.2.2.2.1) g.1.2.1,ε 3 1 aB (.slice g.2.2.2.2.2.2.1 g.1.2.2.1.length g.2.2.2.2.2.2.2.1) g.1.2.2.1]) (λg=>g.2.2.2.2.2.2.2.2) (λg=>aV (λq:aY×B_1×aj×Nat=>Nw dU x0 aX jd q.1 q.2.1 q.2.2.1 q.2.2.2) g.1=some r/\jd.length=(replicate 256 (0:Int)).length/\ZOk g.2.2.2.2.2.2.2.2 (bH 1 aB aW) g.2.2.2.1 g.1.1/\ak.le τ106 g.2.2.2.2.2.2.2.2) (λg=>qI (λq:aY×B_1×aj×Nat=>Nw dU x0 aX jd q.1 q.2.1 q.2.2.1 q.2.2.2) g.1) ((([]:aY),([]:B_1),[(nth aX 0 0)],0),(none,0,[],none,0,a294,c295,τ106)) (ψ [2,1,2,8,4,9,8,8,8] 9) z (by repeat (first|exact trivial|refine ⟨z,?_⟩)) ⟨hh,JR,zf343,(ak.le.refl _)⟩ (λg9 j9 hg9=> ?_));obtain ⟨⟨oP,kM,OD,iD⟩,⟨AV,AL,DW,yD,yt,a340,c341,τ346⟩⟩:=g9;obtain ⟨hh,JO,jF,xM⟩:=hg9
 try dsimp only at JO
 try dsimp only at jF
 dsimp only at xM;replace aA:=aA.mono xM;replace aG:=aG.mono xM;replace aH:=aH.mono xM
 try dsimp only
 obtain ⟨z1,hh,hR1⟩:=yO hh;dsimp only [Nw]at hh;have zf334b:=jF.length;refine ξ 2 z (λhb348=> ?_);refine ξ 3 z (λhb349=> ?_);refine ξ 5 z (λhb350=> ?_);refine ξ 6 z (λTm=> ?_);refine ξ 7 z (λhb352=> ?_);refine ξ 8 z (λhb353=> ?_);refine R8 ?_;refine ι z hh (λh354 hh=> ?_) (λh354 hh=> ?_)
 ·refine R13 ?_;refine TC.nilS 3 1 aB (TC.zl (α:=(aj×aj×Nat)×((Option Addr)×Nat×(Option Addr)×Nat×ak)) (rgs [(25,1),(27,5),(199,54)]) (λg=>[(25,.slice g.2.1 g.1.1.length g.2.2.1),(27,.slice g.2.2.2.1 g.1.2.1.length g.2.2.2.2.1),(28,.int .i64 (g.1.2.2:Int))]) (λg=>[ω aS #[.slice ay x0.cls.length au,.slice aC x0.next.length aJ,.slice aK x0.fin.length aF] 35,ω bn #[aT,aT,aT] 35,dW 3 aB a119 iV aX,dW 3 aB a227 c228 dU,ω Pj #[.slice a206 ((replicate 256 (0:Int)).length) nK,.slice AV oP.length AL,.slice yD kM.length yt] 35,ε 3 1 aB (.slice a206 (replicate 256 (0:Int)).length nK) jd,ε 31 1 (bH 1 aB aW).en (.slice AV oP.length AL) DW,dW 4 dL yD yt kM,ε 3 1 aB (.slice g.2.1 g.1.1.length g.2.2.1) g.1.1,ε 3 1 aB (.slice g.2.2.2.1 g.1.2.1.length g.2.2.2.2.1) g.1.2.1]) (λg=>g.2.2.2.2.2) (λg=>aV (λq:aj×aj×Nat=>P6 dU iD x0 aX oP kM q.1 q.2.1 q.2.2) g.1=some z1/\jd.length=(replicate 256 (0:Int)).length/\ZOk g.2.2.2.2.2 (bH 1 aB aW) DW oP/\ak.le τ346 g.2.2.2.2.2) (λg=>qI (λq:aj×aj×Nat=>P6 dU iD x0 aX oP kM q.1 q.2.1 q.2.2) g.1) ((OD,([]:aj),0),(a340,c341,none,0,τ346)) (ψ [9,9,9,9,9,9,9,9,9] 10) z (by repeat (first|exact trivial|refine ⟨z,?_⟩)) ⟨hh,JO,jF,(ak.le.refl _)⟩ (λg10 j10 hg10=> ?_));obtain ⟨⟨fZ,mZ,kS⟩,⟨XU,Xo,PD,O5,τ388⟩⟩:=g10;obtain ⟨hh,JK,qQ,oh⟩:=hg10
  try dsimp only at JK
  try dsimp only at qQ
  dsimp only at oh;replace aA:=aA.mono oh;replace aG:=aG.mono oh;replace aH:=aH.mono oh;replace jF:=jF.mono oh
  try dsimp only
  obtain ⟨z2,hh,hR2⟩:=yO hh;dsimp only [P6]at hh;have zf378b:=qQ.length;refine ξ 2 z (λhb390=> ?_);refine ξ 3 z (λhb391=> ?_);refine ξ 5 z (λhb392=> ?_);refine ξ 6 z (λhb393=> ?_);refine ξ 7 z (λhb394=> ?_);refine ξ 8 z (λhb395=> ?_);refine ξ 9 z (λhb396=> ?_);refine R8 ?_;refine ι z hh (λh397 hh=> ?_) (λh397 hh=> ?_)
  ·refine R4 ?_;obtain ⟨u222,hh⟩:=gd hh;obtain ⟨u224,hh⟩:=gd hh;obtain ⟨u232,hh⟩:=gd hh;obtain ⟨u234,hh⟩:=gd hh;obtain ⟨u236,hh⟩:=gd hh;refine TC.draw [] (by kernel_rfl) (ν 0 z mS z (ν 1 z fL z (Δ 2 z lL z (ν 3 z mS z (ν 4 z mI z (TA.isSl (i:=8) z (λhs402 _ _=> ?_)))))));refine Δ 5 z iN z (Δ 6 z o1 z (Δ 7 z iX z ?_));obtain ⟨NZ,S9,hg403⟩:=RZ.seg aG ((nth fZ iD 0).toNat) (by omega);replace S9:dV _ aB NZ.1 NZ.2 (nth x0.next ((nth fZ iD 0).toNat) []):=S9;refine Δ 8 z (OpVal.of (wP z oV z hg403 z) (v':= .slice NZ.1 ((nth x0.next ((nth fZ iD 0).toNat) []).length) NZ.2) z) z (ν 9 z fL z (Δ 10 z lL z (ν 11 z mS z (ν 12 z mI z (TA.isSl (i:=3) z (λhs404 _ _=> ?_))))));refine Δ 13 z iN z (Δ 14 z o1 z (Δ 15 z iX z (Δ 16 z l1 z (Δ 17 z iX z (Δ 18 z l1 z (TA.isSl (i:=2) z (λhs405 _ _=> ?_)))))));refine Δ 19 z iX z (Δ 20 z o1 z (ν 21 z mI z (R13 ?_)));refine TC.zl (α:=(Nat×Nat)×(ak)) (rgs [(30,2),(228,13)]) (λg=>[(30,.int .i64 (g.1.1:Int)),(31,.int .i64 (g.1.2:Int))]) (λg=>[ω aS #[.slice ay x0.cls.length au,.slice aC x0.next.length aJ,.slice aK x0.fin.length aF] 35,ω bn #[aT,aT,aT] 35,dW 3 aB a119 iV aX,dW 3 aB a227 c228 dU,ω Pj #[.slice a206 ((replicate 256 (0:Int)).length) nK,.slice AV oP.length AL,.slice yD kM.length yt] 35,ε 3 1 aB (.slice a206 (replicate 256 (0:Int)).length nK) jd,ε 31 1 (bH 1 aB aW).en (.slice AV oP.length AL) DW,dW 4 dL yD yt kM,dW 3 aB XU Xo fZ,dW 3 aB PD O5 mZ]) (λg=>g.2) (λg=>aV (λq:Nat×Nat=>Ny fZ aX x0 iD dU kS mZ q.1 q.2) g.1=some z2/\jd.length=(replicate 256 (0:Int)).length/\ZOk g.2 (bH 1 aB aW) DW oP/\ak.le τ388 g.2) (λg=>qI (λq:Nat×Nat=>Ny fZ aX x0 iD dU kS mZ q.1 q.2) g.1) ((fZ.length,0),τ388) (ψ [9,9,9,9,9,9,9,9,9,9] 10) z (by repeat (first|exact trivial|refine ⟨z,?_⟩)) ⟨hh,JK,qQ,(ak.le.refl _)⟩ (λg11 j11 hg11=> ?_);obtain ⟨⟨wz,Ac⟩,τ420⟩:=g11;obtain ⟨hh,CO,zu,rF⟩:=hg11
   try dsimp only at CO
   try dsimp only at zu
   dsimp only at rF;replace aH:=aH.mono rF;replace jF:=jF.mono rF;replace qQ:=qQ.mono rF
   try dsimp only
   obtain ⟨z3,hh,uK⟩:=yO hh;dsimp only [Ny]at hh;have zf417b:=zu.length;refine ξ 2 z (λhb422=> ?_);refine ξ 3 z (λhb423=> ?_);refine ξ 5 z (λhb424=> ?_);refine ξ 6 z (λhb425=> ?_);refine ξ 7 z (λhb426=> ?_);refine ξ 8 z (λhb427=> ?_);refine ξ 9 z (λhb428=> ?_);refine R8 ?_;refine ι z hh (λh429 hh=> ?_) (λh429 hh=> ?_)
   ·refine R7 ?_;refine TL.iS 8 z (λhs430=> ?_);refine R5 ?_;refine ι z hh (λh431 hh=> ?_) (λh431 hh=> ?_)
    ·refine R9 ?_;obtain ⟨hh,VP⟩:=wG uK hh;exact lf ((Ac,(Ac+1)),τ420) VP ⟨hh,CO,zu,rF⟩ (ψ [9,9,9,9,9,9,9,9,9,9] 10)
    refine R6 ?_;obtain ⟨hh,VO⟩:=wG uK hh;exact lf ((wz,(Ac+1)),τ420) VO ⟨hh,CO,zu,rF⟩ (ψ [9,9,9,9,9,9,9,9,9,9] 10)
   refine R1 ?_;replace hh:=bF uK hh;refine R1 ?_;refine TC.cutG (α:=(aj)×((Option Addr)×Nat×ak)) (rgs [(25,1),(241,8)]) (λg=>[(25,.slice g.2.1 g.1.length g.2.2.1)]) (λg=>[ω aS #[.slice ay x0.cls.length au,.slice aC x0.next.length aJ,.slice aK x0.fin.length aF] 35,ω bn #[aT,aT,aT] 35,dW 3 aB a119 iV aX,dW 3 aB a227 c228 dU,ω Pj #[.slice a206 ((replicate 256 (0:Int)).length) nK,.slice AV oP.length AL,.slice yD kM.length yt] 35,ε 3 1 aB (.slice a206 (replicate 256 (0:Int)).length nK) jd,ε 31 1 (bH 1 aB aW).en (.slice AV oP.length AL) DW,dW 4 dL yD yt kM,ε 3 1 aB (.slice g.2.1 g.1.length g.2.2.1) g.1,dW 3 aB PD O5 mZ]) (λg=>g.2.2.2) (λg=>El_ mZ wz kS g.1=some z2/\jd.length=(replicate 256 (0:Int)).length/\ZOk g.2.2.2 (bH 1 aB aW) DW oP/\ak.le τ420 g.2.2.2) ?_ (λg j hg=> ?_)
   ·refine R7 ?_;refine ι z hh (λh439 hh=> ?_) (λh439 hh=> ?_)
    ·refine R3 ?_;refine κ z (gX (enc:=aB) [(nth aX ((nth (nth x0.next ((nth fZ iD 0).toNat) []) ((nth x0.cls ((nth dU kS 0).toNat) 0).toNat) 0).toNat) 0)] (λa440 c441=> ?_));refine φ 9 z z ?_;obtain ⟨u265,hh⟩:=gd hh;refine κ z (apF (.inr ⟨_,0,z⟩) u265 (λa443 c444=> ?_));refine R2 ?_;exact cf ((fZ++[(nth aX ((nth (nth x0.next ((nth fZ iD 0).toNat) []) ((nth x0.cls ((nth dU kS 0).toNat) 0).toNat) 0).toNat) 0)]),(a443,c444,τ420)) ⟨hh,CO,zu,(ak.le.refl _)⟩ (ψ [10,1,10,10,10,10,10,10,10,10] 10)
    refine R1 ?_;exact cf (fZ,(XU,Xo,τ420)) ⟨hh,CO,zu,(ak.le.refl _)⟩ (ψ [9,9,9,9,9,9,9,9,9,9] 10)
   obtain ⟨Vz,⟨a437,c438,τ445⟩⟩:=g;obtain ⟨hh,R_,IK,rD⟩:=hg
   try dsimp only at R_
   try dsimp only at IK
   dsimp only at rD;replace aH:=aH.mono rD;replace jF:=jF.mono rD;replace qQ:=qQ.mono rD
   try dsimp only
   dsimp only [El_]at hh;have zf435b:=IK.length;refine ξ 2 z (λhb447=> ?_);refine ξ 3 z (λhb448=> ?_);refine ξ 5 z (λhb449=> ?_);refine ξ 6 z (λhb450=> ?_);refine ξ 7 z (λhb451=> ?_);refine ξ 8 z (λhb452=> ?_);refine ξ 9 z (λhb453=> ?_);refine R3 ?_;refine κ z (gX (enc:=aB) [(wz:Int)] (λa454 c455=> ?_));refine φ 10 z z ?_;obtain ⟨u270,hh⟩:=gd hh;refine κ z (apF (.inr ⟨_,0,z⟩) u270 (λa457 c458=> ?_));refine R7 ?_;obtain ⟨hh,VL⟩:=wG hR2 hh;exact lf ((Vz,(mZ++[(wz:Int)]),(kS+1)),(a437,c438,a457,c458,τ445)) VL ⟨hh,R_,IK,((oh.trans rF).trans rD)⟩ (ψ [10,10,10,10,10,10,10,10,10] 10)
  refine R1 ?_;replace hh:=bF hR2 hh;refine R6 ?_;refine φ 9 z z (TL.iw aW (λτ464 Ak hr462=> ?_));replace aH:=aH.mono Ak;replace jF:=jF.mono Ak;replace qQ:=qQ.mono Ak;have Qa:ZOk _ (bH 1 aB aW) ([(mZ,(PD,O5))]:List (aj×(bH 1 aB aW).P)) [mZ]:=ZOk.cons (hr462) (ZOk.nil _ _);refine κ z (litZ Qa z jH ji z jI z z z (by decide) (by decide) z (by decide) z (by decide) (λa460 c461=> ?_));refine φ 7 z z ?_;obtain ⟨u279,hh⟩:=gd hh;refine κ z (Ud (k:=(bH 1 aB aW)) qQ Qa z z jH ji kY jI z z (by decide) z z z (.inr ⟨_,0,z⟩) (by simpa using u279) (by decide) (λa467 c468 zf469=> ?_));refine TL.w z fL (φ 6 z z (R2 ?_));obtain ⟨u288,hh⟩:=gd hh;obtain ⟨u290,hh⟩:=gd hh;obtain ⟨u293,hh⟩:=gd hh;refine TC.draw [11,12,13] (by kernel_rfl) (ν 0 z fL z (Δ 1 z lL z (ν 2 z fL z (Δ 3 z lL z (ν 4 z mS z (ν 5 z mI z (TA.isSl (i:=9) z (λhs476 _ _=> ?_))))))));refine Δ 6 z iN z (Δ 7 z o1 z (Δ 8 z iX z (Δ 9 z l1 z (Φ 10 z (gX (enc:=dL) [(nth x0.fin ((nth fZ iD 0).toNat) false)] (λa477 c478=>(k1 ?_)))))));refine Θ 9 z z (TA.last 11 (by kernel_rfl) z z z (apF (.inr ⟨_,0,z⟩) u293 (λa480 c481=> ?_)));refine TZ.v 12 (by kernel_rfl) z z z fL z z (TZ.front 2 z z (TZ.last 13 (by kernel_rfl) z z z (gJ z wf_ z z z z z ?_)));refine R6 ?_;obtain ⟨hh,VK⟩:=wG hR1 hh;exact lf (((oP++[mZ]),(kM++[(nth x0.fin ((nth fZ iD 0).toNat) false)]),fZ,(iD+1)),(a467,c468,(DW++([(mZ,(PD,O5))]:List (aj×(bH 1 aB aW).P))),a480,c481,XU,Xo,τ464)) VK ⟨hh,JK,zf469,((xM.trans oh).trans Ak)⟩ (ψ [10,2,4,10,4,10,10,10,10] 9)
 refine R1 ?_;replace hh:=bF hR1 hh;refine R4 ?_;refine φ 1 z z (R3 ?_);rw [<-JO];refine TC.front 5 z z (TC.iw aW (λτ485 Wh FN=> ?_));replace jF:=jF.mono Wh;refine TC.front 5 z z (TC.Xj jF (λτ488 V_ Rt=> ?_));replace FN:=FN.mono V_;refine TC.front 5 z z (TC.iw wJ (λτ491 J9 hr489=> ?_));replace FN:=FN.mono J9;replace Rt:=Rt.mono J9;have hr489b:=hr489.rv.big;refine TC.rt 1 ?_;obtain rfl:=so hh;exact rz
def YX(x0:B_1)(x1:B_1)(gB:Nat):Option ((Nat)⊕(Bool)):=
 aI (decide ((gB:Int)<(x0.length:Int))) (grd (gB<x1.length) (aI ((nth x0 gB false) != (nth x1 gB false)) (fin (some false)) (nxt (gB+1)))) (fin (some true))
def E3_(x0:B_1)(x1:B_1):Option (Bool):=
 aI (decide ((x0.length:Int)≠(x1.length:Int))) (some false) (aV (λq:Nat=>YX x0 x1 q) 0)
theorem Js_{σ:ak}{x0:B_1}{x1:B_1}(aA:dV σ dL ay au x0)(bU:dV σ dL bW bV x1){r:Bool}(hh:E3_ x0 x1=some r):
  Con prog 54 #[.slice ay x0.length au,.slice bW x1.length bV] σ [] (iU (.bool r) σ):=by
 dsimp only [E3_]at hh;have f1_0b:=bU.rv.big;refine cM 26 Tryz.func54 (λw0=> ?_);refine R13 ?_;refine ι z hh (λiR hh=> ?_) (λiR hh=> ?_)
 ·refine R4 ?_;refine θ ?_;obtain rfl:=so hh;exact rq [4] ⟨z,z,z⟩
 refine R7 ?_;refine TC.lp hh () (rgs [(4,2),(11,15)]) (λgB _=>([(5,.int .i64 (gB:Int))],[])) (ζ 0 z) ?_;rintro gB _ _ z1 hh hR1;dsimp only [YX]at hh ⊢;refine R8 ?_;refine ι z hh (λbM hh=> ?_) (λbM hh=> ?_)
 ·refine R4 ?_;obtain ⟨DY,hh⟩:=gd hh;refine TC.draw [] (by kernel_rfl) (ν 0 z mS z (ν 1 z mI z (Δ 2 z iN z (Δ 3 z l1 z (ν 4 z mS z (ν 5 z mI z (Δ 6 z iN z (Δ 7 z l1 z (ν 8 z (neqB z z z underlying4) z (R1 ?_))))))))));refine TC.cB z hh (λdH hh=> ?_) (λdH hh=> ?_)
  ·refine R4 ?_;refine θ ?_;replace hh:=bF hR1 hh;obtain rfl:=so hh;exact rq [4] ⟨z,z,z⟩
  refine R6 ?_;exact nx hR1 hh () (ζ 0 z)
 refine R1 ?_;replace hh:=bF hR1 hh;refine R5 ?_;refine θ ?_;obtain rfl:=so hh;exact rq [4] ⟨z,z,z⟩
def Y8(x0:Dfa)(x1:Dfa)(bZ:Nat):Option ((Nat)⊕(Bool)):=
 aI (decide ((bZ:Int)<(x0.next.length:Int))) (grd (bZ<x1.next.length) (bnd (YE (nth x0.next bZ []) (nth x1.next bZ [])) (λv44=>aI (!v44) (fin (some false)) (nxt (bZ+1))))) (fin (some true))
def Ft_(x0:Dfa)(x1:Dfa):Option (Bool):=
 bnd (YE x0.cls x1.cls) (λv8=>aI (!v8) (some false) (aI (decide ((x0.next.length:Int)≠(x1.next.length:Int))) (some false) (bnd (E3_ x0.fin x1.fin) (λv24=>aI (!v24) (some false) (aV (λq:Nat=>Y8 x0 x1 q) 0)))))
theorem J4_{σ:ak}{x0:Dfa}{x1:Dfa}(aA:dV σ aB ay au x0.cls)(aG:RZ σ (bH 1 aB aW) (.slice aC x0.next.length aJ) x0.next)(aH:dV σ dL aK aF x0.fin)(bU:dV σ aB bW bV x1.cls)(dO:RZ σ (bH 1 aB aW) (.slice cu x1.next.length dZ) x1.next)(dK:dV σ dL d_ b_ x1.fin){r:Bool}(hh:Ft_ x0 x1=some r):
  Con prog 18 #[.agg #[.slice ay x0.cls.length au,.slice aC x0.next.length aJ,.slice aK x0.fin.length aF],.agg #[.slice bW x1.cls.length bV,.slice cu x1.next.length dZ,.slice d_ x1.fin.length b_]] σ [] (iU (.bool r) σ):=by
 dsimp only [Ft_]at hh;have f0_0b:=aA.rv.big;have f0_1b:=aG.big;have f0_2b:=aH.rv.big;have f1_0b:=bU.rv.big;have f1_1b:=dO.big;have f1_2b:=dK.rv.big;refine cM 48 Tryz.func18 (λw0=> ?_);refine R2 ?_;refine TL.bx (λaS=> ?_);refine TL.bx (λbn=> ?_);refine R9 ?_;obtain ⟨v8,u8,hh⟩:=bQ hh;refine κ z (eG (Gx_ aA bU u8) z z Vs z z z ?_);refine R2 ?_;refine Γ 12 z (λbM=> ?_) (λbM=> ?_)
 ·replace hh:=nT bM hh;refine R22 ?_;refine TC.rt 0 ?_;obtain rfl:=so hh;exact rq [4] ⟨z,z,z⟩
 replace hh:=nS bM hh;refine R9 ?_;refine Γ 21 z (λdH=> ?_) (λdH=> ?_)
 ·obtain ⟨dH,hh⟩:=iT dH hh;refine R13 ?_;refine TC.rt 0 ?_;obtain rfl:=so hh;exact rq [4] ⟨z,z,z⟩
 obtain ⟨dH,hh⟩:=iF dH hh;refine R4 ?_;obtain ⟨v24,u24,hh⟩:=bQ hh;refine TL.gon z z z z z (eG (Js_ aH dK u24) z z pf54 z z z ?_);refine R3 ?_;refine TC.cB z hh (λfB hh=> ?_) (λfB hh=> ?_)
 ·refine R4 ?_;refine TC.rt 0 ?_;obtain rfl:=so hh;exact rq [4] ⟨z,z,z⟩
 refine R7 ?_;refine TC.lp hh () (rgs [(4,2),(29,19)]) (λbZ _=>([(5,.int .i64 (bZ:Int))],[ω aS #[.slice ay x0.cls.length au,.slice aC x0.next.length aJ,.slice aK x0.fin.length aF] 35,ω bn #[.slice bW x1.cls.length bV,.slice cu x1.next.length dZ,.slice d_ x1.fin.length b_] 35])) (ψ [1] 2) ?_;rintro bZ _ _ z1 hh hR1;dsimp only [Y8]at hh ⊢;refine R9 ?_;refine ι z hh (λgI hh=> ?_) (λgI hh=> ?_)
 ·refine R4 ?_;obtain ⟨u42,hh⟩:=gd hh;obtain ⟨v44,u44,hh⟩:=bQ hh;refine TC.draw [] (by kernel_rfl) (ν 0 z fL z (Δ 1 z lL z (ν 2 z mI z (Δ 3 z iN z ?_))));obtain ⟨zX,xW,KP⟩:=RZ.seg aG bZ (by omega);replace xW:dV _ aB zX.1 zX.2 (nth x0.next bZ []):=xW;have hk114b:=xW.rv.big;refine Δ 4 z (OpVal.of (wP z oV z KP z) (v':= .slice zX.1 ((nth x0.next bZ []).length) zX.2) z) z (ν 5 z fL z (Δ 6 z lL z (ν 7 z mI z (Δ 8 z iN z ?_))));obtain ⟨Ox,Gn,hg115⟩:=RZ.seg dO bZ (by omega);replace Gn:dV _ aB Ox.1 Ox.2 (nth x1.next bZ []):=Gn;have hk115b:=Gn.rv.big;refine Δ 9 z (OpVal.of (wP z oV z hg115 z) (v':= .slice Ox.1 ((nth x1.next bZ []).length) Ox.2) z) z (Φ 10 z (eG (Gx_ xW Gn u44) z z Vs z z z (k0 ?_)));refine ν 11 z (OpVal.not z z) z (R1 ?_);refine TC.cB z hh (λh116 hh=> ?_) (λh116 hh=> ?_)
  ·refine R4 ?_;refine TC.rt 0 ?_;replace hh:=bF hR1 hh;obtain rfl:=so hh;exact rq [4] ⟨z,z,z⟩
  refine R6 ?_;exact nx hR1 hh () (ψ [1,1] 2)
 refine R1 ?_;replace hh:=bF hR1 hh;refine R5 ?_;refine TC.rt 0 ?_;obtain rfl:=so hh;exact rq [4] ⟨z,z,z⟩
end Go.Proofs.YtcfgkcfcddfccaaGreatDoor
end

noncomputable section
namespace Go.E
open Go
section
variable {K:Type} [DecidableEq K]
theorem TS: ∀{l m:List K},l.Nodup->(∀x∈l,x∈m)->l.length<=m.length
  |[],m,_,_=>Nat.zero_le _
  | x :: l, m, hn, hs => by
    rw [List.nodup_cons]at hn;have hx:=hs x (iZ ..);have:=TS (m:=m.erase x) hn.2 λy hy=>by
      have h1:=hs y (qE _ hy);refine (List.mem_erase_of_ne ?_).2 h1;intro e;subst e;exact hn.1 hy
    rw [List.length_erase_of_mem hx]at this;have hp:=List.length_pos_of_mem hx;simp only [List.length_cons];omega
theorem qp_{p:List K->Prop}(h0:p [])(h1: ∀l x,p l->p (l++[x]))(l:List K):p l:=by
  have: ∀m:List K,p m.reverse:=λm=>by
    induction m with
    |nil=>exact h0
    |cons x m ih=>rw [List.reverse_cons];exact h1 _ _ ih
  simpa using this l.reverse
end
section
variable {β γ:Type}
structure Grp (key:β->Int) (val:β->γ) (n:Nat) (l:List (List γ)) (xs:List β):Prop where
  len:l.length=n
  row: ∀i,i<n->nth l i []=(xs.filter λx=>decide (key x=(i:Int))).map val
theorem Grp.nil(key:β->Int)(val:β->γ)(n:Nat):Grp key val n (List.replicate n []) []:=⟨lq ..,λi hi=>by simp [nth,List.getD,List.getElem?_replicate,hi]⟩
theorem Grp.snoc{key:β->Int}{val:β->γ}{n:Nat}{l:List (List γ)}{xs:List β}(h:Grp key val n l xs){x:β}(h0:0<=key x)(h1:key x<n):
    Grp key val n (l.set (key x).toNat (nth l (key x).toNat []++[val x])) (xs++[x]):=by
  refine ⟨by rw [eX];exact h.len,λi hi=> ?_⟩;rw [List.filter_append,List.map_append,<-h.row i hi]
  by_cases e:i=(key x).toNat
  · subst e
    have:key x=((key x).toNat:Int):=by omega
    have hl:=h.len;rw [show nth (l.set (key x).toNat (nth l (key x).toNat []++[val x])) (key x).toNat []=nth l (key x).toNat []++[val x]from by simp [nth,List.getD,hl,hi]];simp [this.symm]
  have hne: ¬ key x=(i:Int):=by omega
  rw [show nth (l.set (key x).toNat (nth l (key x).toNat []++[val x])) i []=nth l i []from by simp [nth,List.getD,List.getElem?_set,Ne.symm e]];simp [hne]
theorem Grp.at{key:β->Int}{val:β->γ}{n:Nat}{l:List (List γ)}{xs:List β}(h:Grp key val n l xs){s:Int}(h0:0<=s)(h1:s<n):nth l s.toNat []=(xs.filter λx=>decide (key x=s)).map val:=by
  rw [h.row _ (by omega)];have:((s.toNat:Nat):Int)=s:=by omega
  simp only [this]
theorem ng_{α R:Type}{step:Nat->Option (Nat⊕R)}{y no:R}(l:List α)(d:α)(p:α->Bool)(hs: ∀k,k<l.length->p (nth l k d)=true->step k=some (.inl (k+1)))
    (hn: ∀k,k<l.length->p (nth l k d)=false->step k=some (.inr no)) (hd:step l.length=some (.inr y)):aV step 0=some (if l.all p then y else no):=by
  have h:=xt_ (step:=step) (y:=no) (no:=y) (λk=>k) (λk=> !p (nth l k d)) l.length (λk hk hp=>hs k hk (by simpa using hp)) (λk hk hp=>hn k hk (by simpa using hp)) hd;rw [h,ys_ l d (λx=> !p x)]
  by_cases ha:l.all p=true
  · have:(l.any λx=> !p x)=false:=by rw [List.any_eq_false];intro x hx;have:=(List.all_eq_true.1 ha) x hx;simp [this]
    rw [this,ha];rfl
  have:(l.any λx=> !p x)=true:=by
    rw [Bool.not_eq_true,List.all_eq_false]at ha;obtain ⟨x,hx,h⟩:=ha;exact List.any_eq_true.2 ⟨x,hx,by simpa using h⟩
  rw [this];simp only [cond_true];rw [if_neg ha]
theorem IB{α S R:Type}{step:S×Nat->Option ((S×Nat)⊕R)}{r:R}(l:List α)(d:α)(f:Nat->S)(hs: ∀k,k<l.length->step (f k,k)=some (.inl (f (k+1),k+1)))(hd:step (f l.length,l.length)=some (.inr r)):
    aV step (f 0,0)=some r:=nx_ (λk=>(f k,k)) l.length hs hd
end
theorem qq_{S R:Type}{step:S->Option (S⊕R)}{s s':S}(h:step s=some (.inl s')):aV step s=aV step s':=by
  cases hr:aV step s' with
  |some r=>exact Nh h hr
  |none=>
    cases hq:aV step s with
    |none=>rfl
    |some r=>
      obtain ⟨z,hz,hR⟩:=yO hq;rw [h]at hz;cases hz;have:=(hR.next s' rfl).1;rw [hr]at this;cases this
theorem Nb {α S T R : Type} {step : T -> Option (T ⊕ R)} (g : S -> Nat -> T) (l : List α) (d : α) (I : List α -> S -> Prop) (Q : R -> Prop)
    (hs: ∀k s,k<l.length->I (l.take k) s->(∃s',step (g s k)=some (.inl (g s' (k+1)))/\I (l.take k++[nth l k d]) s')\/ ∃r,step (g s k)=some (.inr r)/\Q r)
    (hd: ∀s,I l s-> ∃r,step (g s l.length)=some (.inr r)/\Q r) {s0:S} (h0:I [] s0): ∃r,aV step (g s0 0)=some r/\Q r:=by
  have key: ∀m k s,l.length - k=m->k<=l.length->I (l.take k) s-> ∃r,aV step (g s k)=some r/\Q r:=by
    intro m
    induction m with
    |zero=>
      intro k s hm hk hI;have hk:k=l.length:=by omega
      subst hk;rw [List.take_length]at hI;obtain ⟨r,h1,h2⟩:=hd s hI;exact ⟨r,DU h1,h2⟩
    |succ m ih=>
      intro k s hm hk hI;rcases hs k s (by omega) hI with ⟨s',h1,h2⟩|⟨r,h1,h2⟩
      · rw [<-jS l (by omega) d]at h2
        obtain ⟨r,h3,h4⟩:=ih (k+1) s' (by omega) (by omega) h2;exact ⟨r,Nh h1 h3,h4⟩
      exact ⟨r,DU h1,h2⟩
  exact key _ 0 s0 rfl (Nat.zero_le _) h0
theorem jv_{α:Type}(l:List α){k:Nat}(h:k<l.length)(d:α):l=l.take k++nth l k d::l.drop (k+1):=by
  have h1:l.drop k=nth l k d::l.drop (k+1):=by
    have:=List.drop_eq_getElem_cons h;rw [this];congr 1;have h2:=getD_some l h d;rw [List.getElem?_eq_getElem h]at h2;exact Option.some.inj h2
  rw [<-h1,List.take_append_drop]
theorem bY{α:Type}{p:Prop}[Decidable p]{a b:Option α}(h:p):aI (decide p) a b=a:=by rw [decide_eq_true h];rfl
theorem bK{α:Type}{p:Prop}[Decidable p]{a b:Option α}(h: ¬ p):aI (decide p) a b=b:=by rw [decide_eq_false h];rfl
theorem gq{α β:Type}{x:α}{f:α->Option β}:bnd (some x) f=f x:=rfl
theorem fC {S T R : Type} {step : T -> Option (T ⊕ R)} (g : S -> Nat -> T) (n : Nat) (I : Nat -> S -> Prop) (Q : R -> Prop)
    (hs: ∀k s,k<n->I k s->(∃s',step (g s k)=some (.inl (g s' (k+1)))/\I (k+1) s')\/ ∃r,step (g s k)=some (.inr r)/\Q r)
    (hd: ∀s,I n s-> ∃r,step (g s n)=some (.inr r)/\Q r) {s0:S} (h0:I 0 s0): ∃r,aV step (g s0 0)=some r/\Q r:=by
  have key: ∀m k s,n - k=m->k<=n->I k s-> ∃r,aV step (g s k)=some r/\Q r:=by
    intro m
    induction m with
    |zero=>
      intro k s hm hk hI;have hk:k=n:=by omega
      subst hk;obtain ⟨r,h1,h2⟩:=hd s hI;exact ⟨r,DU h1,h2⟩
    |succ m ih=>
      intro k s hm hk hI;rcases hs k s (by omega) hI with ⟨s',h1,h2⟩|⟨r,h1,h2⟩
      · obtain ⟨r,h3,h4⟩:=ih (k+1) s' (by omega) (by omega) h2
        exact ⟨r,Nh h1 h3,h4⟩
      exact ⟨r,DU h1,h2⟩
  exact key _ 0 s0 rfl (Nat.zero_le _) h0
theorem ts_{S R:Type}{step:S->Option (S⊕R)}{s:S}{r:R}(h:step s=some (.inr r)):aV step s=some r:=DU h
theorem nI{α:Type}(l:List α)(i j:Nat)(x d:α):nth (l.set i x) j d=if i=j/\j<l.length then x else nth l j d:=by
  unfold nth;simp only [List.getD_eq_getElem?_getD,List.getElem?_set]
  by_cases h:i=j
  · subst h
    by_cases k:i<l.length
    · simp [k]
    simp [k]
  simp [h]
theorem C9{α β:Type}(f:α->β)(l:List α)(i:Nat)(d:α)(e:β)(h:i<l.length):nth (l.map f) i e=f (nth l i d):=by
  unfold nth;simp [List.getD_eq_getElem?_getD,List.getElem?_map,List.getElem?_eq_getElem h]
theorem VD{α:Type}(n i:Nat)(x:α):nth (List.replicate n x) i x=x:=by
  unfold nth;rw [List.getD_eq_getElem?_getD,List.getElem?_replicate]
  split<;>rfl
theorem Q7{α:Type}(d:α){l m:List α}(hl:l.length=m.length)(h: ∀i,i<l.length->nth l i d=nth m i d):l=m:=by
  apply List.ext_getElem hl;intro i h1 h2;have a:=h i h1;have b:=getD_some l h1 d;have c:=getD_some m h2 d;rw [List.getElem?_eq_getElem h1]at b;rw [List.getElem?_eq_getElem h2]at c;rw [Option.some.inj b,a,<-Option.some.inj c]
end Go.E
end

noncomputable section
namespace Go.Proofs.YtcfgkcfcddfccaaGreatDoor
open Go Go.E
theorem sb_(a b:Nat):NU a b<18446744073709551616:=(BitVec.ofNat 64 a ||| BitVec.ofNat 64 b).isLt
theorem ln_(s:BSet)(n:Nat):s.has n=(s.word (n / 64)).testBit (n % 64):=by
  unfold BSet.has;rw [Nat.testBit_eq_decide_div_mod_eq]
theorem Le_{s t:BSet}(h: ∀n,n<256->s.has n=t.has n):s=t:=by
  refine BSet.bi_ λi hi=>Nat.eq_of_testBit_eq λj=> ?_
  by_cases hj:j<64
  · have h1:=h (64 * i+j) (by omega)
    rw [ln_,ln_,show (64 * i+j) / 64=i by omega,show (64 * i+j) % 64=j by omega]at h1;exact h1
  have h2: ∀u:BSet,(u.word i).testBit j=false:=λu=>Nat.testBit_lt_two_pow (Nat.lt_of_lt_of_le (BSet.word_lt u.isOk i) (show 2 ^ 64<=2 ^ j from Nat.pow_le_pow_right (by omega) (by omega)));rw [h2,h2]
theorem w7_ (a b : BSet) : Ui a b = some (BSet.make λn => a.has n || b.has n) := by
  have h: ∃r,Ui a b=some r/\ ∀i,i<4->r.word i=NU (a.word i) (b.word i):=by
    unfold Ui;exact fC (step:=λq:BSet×Nat=>Ye b q.1 q.2) (λ(s:BSet) k=>(s,k)) 4 (λk s=> ∀i,i<4->s.word i=if i<k then NU (a.word i) (b.word i) else a.word i) (λr=> ∀i,i<4->r.word i=NU (a.word i) (b.word i))
      (λk s hk hI=> .inl ⟨BSet.H9 s k (NU (BSet.word s k) (BSet.word b k)),by
        show Ye b s k=_;unfold Ye;rw [bY (by omega),aQ hk,aQ hk,aQ hk,aQ (sb_ _ _)];rfl,λi hi=>by
        rw [BSet.b1_ s hk _ i (sb_ _ _) hi]
        by_cases e:i=k
        · subst e;rw [if_pos rfl,if_pos (by omega),hI i hi,if_neg (by omega)]
        rw [if_neg e,hI i hi]
        by_cases e2:i<k
        · rw [if_pos e2,if_pos (by omega)]
        rw [if_neg e2,if_neg (by omega)]⟩)
      (λs hI=>⟨s,by
        show Ye b s 4=_;unfold Ye;rw [bK (by omega)];rfl,λi hi=>by rw [hI i hi,if_pos hi]⟩) (s0:=a) (λi hi=>by rw [if_neg (by omega)])
  obtain ⟨r,h1,h2⟩:=h;rw [h1];congr 1;refine Le_ λn hn=> ?_;have l1:=BSet.word_lt a.isOk (n / 64);have l2:=BSet.word_lt b.isOk (n / 64);rw [BSet.EX _ hn,ln_,ln_,ln_,h2 _ (by omega)];unfold NU;rw [BitVec.toNat_or,BitVec.toNat_ofNat,BitVec.toNat_ofNat,Nat.mod_eq_of_lt l1,Nat.mod_eq_of_lt l2,Nat.testBit_or]
def oW(o:Option Nat)(n:Int):Option Nat:=o.bind λk=>if n<0\/(k:Int)<n then none else some (if n=k then k+1 else k)
def fH(l:aj):Option Nat:=l.foldl oW (some 0)
theorem lv_: ∀l:aj,l.foldl oW none=none
  |[]=>rfl
  |_::l=>lv_ l
theorem yh(l:aj)(n:Int):fH (l++[n])=oW (fH l) n:=by simp [fH,List.foldl_append]
theorem jf_{l m:aj}(h:fH l=none):fH (l++m)=none:=by
  unfold fH at h ⊢;rw [List.foldl_append,h,lv_]
theorem ZE: ∀(l:aj) (j k:Nat),l.foldl oW (some j)=some k->k<=j+l.length
  |[],j,k,h=>by cases h;simp
  |n::l,j,k,h=>by
    rw [List.foldl_cons]at h
    by_cases hc:n<0\/(j:Int)<n
    · rw [show oW (some j) n=none by simp [oW,hc],lv_]at h;cases h
    rw [show oW (some j) n=some (if n=j then j+1 else j) by simp [oW,hc]]at h;have:=ZE l _ k h;simp only [List.length_cons]
    split at this<;>omega
def clsF(cls:aj)(k c:Nat):Nat->Bool:=λb=>decide (b<k) && decide (nth cls b (0:Int)=((c:Nat):Int))
def clsS(cls:aj)(c:Nat):BSet:=BSet.make λb=>decide (nth cls b (0:Int)=((c:Nat):Int))
structure SetsI (cls:aj) (k:Nat) (s:List BSet):Prop where
  cnt:fH (cls.take k)=some s.length
  sets: ∀c,c<s.length->nth s c BSet.zero=BSet.make (clsF cls k c)
  low: ∀b,b<k->0<=nth cls b (0:Int)/\nth cls b (0:Int)<((s.length:Nat):Int)
  some_: ∀c,c<s.length-> ∃b,b<k/\nth cls b (0:Int)=((c:Nat):Int)
theorem nth_set'{α:Type}(l:List α)(i j:Nat)(x d:α)(hi:i<l.length):nth (l.set i x) j d=if j=i then x else nth l j d:=by
  unfold nth;rw [List.getD_eq_getElem?_getD,List.getD_eq_getElem?_getD,List.getElem?_set]
  by_cases h:i=j
  · subst h;rw [if_pos rfl,if_pos rfl,if_pos hi];rfl
  rw [if_neg h,if_neg (λe=>h e.symm)]
theorem rY{α:Type}(l m:List α)(j:Nat)(d:α)(h:j<l.length):nth (l++m) j d=nth l j d:=by
  unfold nth;rw [List.getD_eq_getElem?_getD,List.getD_eq_getElem?_getD,List.getElem?_append_left h]
theorem sG{α:Type}(l:List α)(x d:α):nth (l++[x]) l.length d=x:=by
  unfold nth;rw [List.getD_eq_getElem?_getD,List.getElem?_append_right (Nat.le_refl _)];simp
theorem jy_{l:aj}{k:Nat}(h:k<l.length):l.take (k+1)=l.take k++[nth l k 0]:=by
  rw [List.take_add_one,getD_some l h 0];rfl
theorem Vu(k:Nat)(hk:k<256){n:Nat}(h:n<256):(BSet.ofL [kH ((k:Nat):Int)]).has n=decide (n=k):=by
  unfold BSet.ofL;rw [BSet.EX _ h];have:=VG ((k:Nat):Int);rw [VE]at this;have e:(kH ((k:Nat):Int)).toNat=k:=by omega
  simp [e]
theorem th_ {cls : aj} {k : Nat} {s l : List BSet} (hk : k < 256) (hI : SetsI cls k s) {n : Nat} (hn : nth cls k (0 : Int) = ((n : Nat) : Int)) (hle : s.length <= l.length) (hl : l.length <= s.length + 1) (hnl : n < l.length) (hs : ∀ c, c < s.length -> nth l c BSet.zero = nth s c BSet.zero) (hz : s.length < l.length -> n = s.length /\ nth l n BSet.zero = BSet.zero)
    (hc:fH (cls.take (k+1))=some l.length):SetsI cls (k+1) (l.set n (BSet.make λb=>(nth l n BSet.zero).has b || (BSet.ofL [kH ((k:Nat):Int)]).has b)) where
  cnt:=by rw [eX];exact hc
  sets := λc hcl => by
    rw [eX]at hcl;rw [nth_set' _ _ _ _ _ hnl]
    by_cases e:c=n
    · subst e
      rw [if_pos rfl];refine BSet.Pv λb hb=> ?_;rw [Vu k hk hb];have h0:(nth l c BSet.zero).has b=clsF cls k c b:=by
        by_cases h1:c<s.length
        · rw [hs c h1,hI.sets c h1,BSet.EX _ hb]
        have h2:=hz (by omega);rw [h2.2];have h3:clsF cls k c b=false:=by
          unfold clsF
          by_cases hbk:b<k
          · have:=(hI.low b hbk).2
            rw [decide_eq_false (show ¬ nth cls b (0:Int)=((c:Nat):Int) by omega),Bool.and_false]
          rw [decide_eq_false hbk,Bool.false_and]
        rw [h3,<-BSet.Uh,BSet.EX _ hb]
      rw [h0];unfold clsF
      by_cases hb2:b=k
      · subst hb2;rw [hn];simp
      by_cases hb3:b<k
      · rw [decide_eq_true hb3,decide_eq_true (show b<k+1 by omega),decide_eq_false hb2,Bool.or_false]
      rw [decide_eq_false hb3,decide_eq_false (show ¬ b<k+1 by omega),decide_eq_false hb2];rfl
    rw [if_neg e];have h1:c<s.length:=by
      by_cases h2:s.length<l.length
      · have:=(hz h2).1;omega
      omega
    rw [hs c h1,hI.sets c h1];refine BSet.Pv λb hb=> ?_;unfold clsF
    by_cases hb2:b=k
    · subst hb2
      rw [decide_eq_false (Nat.lt_irrefl _),hn,decide_eq_false (show ¬ ((n:Nat):Int)=((c:Nat):Int) by omega)];simp
    rw [decide_eq_decide.2 (show b<k↔b<k+1 by omega)]
  low:=λb hb=>by
    rw [eX]
    by_cases e:b=k
    · subst e;rw [hn];omega
    have:=hI.low b (by omega);omega
  some_:=λc hcl=>by
    rw [eX]at hcl
    by_cases h1:c<s.length
    · obtain ⟨b,h2,h3⟩:=hI.some_ c h1;exact ⟨b,by omega,h3⟩
    have h2:=hz (by omega);exact ⟨k,by omega,by rw [hn];omega⟩
theorem q6_ (cls : aj) : ∃ r, Ia_ cls = some r /\ (((cls.length ≠ 256 \/ fH cls = none) /\ r.2 = 1) \/ (cls.length = 256 /\ fH cls = some r.1.length /\ r.2 = 0 /\ (∀ c, c < r.1.length -> nth r.1 c BSet.zero = clsS cls c) /\ ∀ c, c < r.1.length -> ∃ b, b < 256 /\ nth cls b (0 : Int) = ((c : Nat) : Int))) := by
  unfold Ia_
  by_cases h256:cls.length=256
  · rw [bK (show ¬ ((cls.length:Nat):Int)≠256 by omega)]
    obtain ⟨r,h1,h2⟩:=fC (step:=λq:List BSet×Nat=>Uo cls q.1 q.2) (λ(s:List BSet) k=>(s,k)) 256 (λk s=>SetsI cls k s) (λr=>(fH cls=none/\r.2=1)\/(SetsI cls 256 r.1/\r.2=0))
      (λk s hk hI=>by
        have hk':k<cls.length:=by omega
        have hsp:cls=cls.take k++(nth cls k 0::cls.drop (k+1)):=by
          rw [<-List.singleton_append,<-zQ,<-jy_ hk',List.take_append_drop]
        have hle:=ZE _ _ _ hI.cnt;rw [List.length_take,Nat.zero_add]at hle;have hstop:(nth cls k 0<0\/(s.length:Int)<nth cls k 0)->fH cls=none:=λhc=>by
          rw [hsp,<-List.singleton_append,<-zQ];exact jf_ (by rw [yh,hI.cnt];simp [oW,hc])
        have hgo: ∀l:List BSet,0<=nth cls k 0->nth cls k 0<(l.length:Int)->Gv_ cls k l=some (.inl (l.set (nth cls k (0:Int)).toNat (BSet.make λb=>(nth l (nth cls k (0:Int)).toNat BSet.zero).has b || (BSet.ofL [kH ((k:Nat):Int)]).has b),k+1)):=λl h0 h1=>by
          unfold Gv_;rw [aQ ⟨h0,h1⟩,aQ (by simp),iy (w7_ _ _),aQ ⟨h0,h1⟩];rfl
        show (∃s',Uo cls s k=_/\_)\/ ∃r,Uo cls s k=_/\_;unfold Uo;rw [bY (by omega)]
        by_cases c1:nth cls k 0<0
        · right;rw [bY c1];exact ⟨_,rfl,.inl ⟨hstop (.inl c1),rfl⟩⟩
        rw [bK c1]
        by_cases c2:(s.length:Int)<nth cls k 0
        · right;rw [bY c2];exact ⟨_,rfl,.inl ⟨hstop (.inr c2),rfl⟩⟩
        rw [bK c2];left
        by_cases c3:nth cls k 0=(s.length:Int)
        · rw [bY c3,aQ (by simp;omega),hgo _ (by omega) (by simp;omega)]
          refine ⟨_,rfl,th_ hk hI (n:=(nth cls k (0:Int)).toNat) (by omega) (by simp) (by simp) (by simp;omega) (λc hc=>rY _ _ _ _ hc) (λ_=>⟨by omega,?_⟩) ?_⟩
          · rw [show (nth cls k (0:Int)).toNat=s.length by omega,sG]
          rw [jy_ hk',yh,hI.cnt];simp [oW,c3]
        rw [bK c3,hgo _ (by omega) (by omega)];refine ⟨_,rfl,th_ hk hI (n:=(nth cls k (0:Int)).toNat) (by omega) (Nat.le_refl _) (by omega) (by omega) (λ_ _=>rfl) (λh=>absurd h (Nat.lt_irrefl _)) ?_⟩;rw [jy_ hk',yh,hI.cnt];simp [oW,c3];omega)
      (λs hI=>⟨(s,0),by
        show Uo cls s 256=_;unfold Uo;rw [bK (by omega)];rfl,.inr ⟨hI,rfl⟩⟩) (s0:=[]) ⟨rfl,by simp,by simp,by simp⟩
    refine ⟨r,h1,?_⟩;rcases h2 with ⟨h2,h3⟩|⟨h2,h3⟩
    · exact .inl ⟨.inr h2,h3⟩
    have h4:=h2.cnt;rw [List.take_of_length_le (by omega)]at h4;refine .inr ⟨h256,h4,h3,λc hc=> ?_,h2.some_⟩;rw [h2.sets c hc];exact BSet.Pv λb hb=>by unfold clsF;rw [decide_eq_true hb,Bool.true_and]
  rw [bY (show ((cls.length:Nat):Int)≠256 by omega)];exact ⟨_,rfl,.inl ⟨.inl h256,rfl⟩⟩
theorem s1_(cls:aj): ∃r,Ia_ cls=some r/\(((cls.length≠256\/fH cls=none)/\r.2=1)\/(cls.length=256/\fH cls=some r.1.length/\r.2=0)):=by
  obtain ⟨r,h,h1|h1⟩:=q6_ cls
  · exact ⟨r,h,.inl h1⟩
  exact ⟨r,h,.inr ⟨h1.1,h1.2.1,h1.2.2.1⟩⟩
def y9(n:Nat)(s:Int):Bool:=decide (0<=s) && decide (s<(n:Int))
def zH(n m:Nat)(row:aj):Bool:=decide (row.length=m) && row.all (y9 n)
def jU(d:Dfa):Bool:=decide (d.cls.length=256) && (match fH d.cls with|some m=>d.next.all (zH d.next.length m)|none=>false) && decide (1<=d.next.length/\d.next.length<=1024) && decide (d.fin.length=d.next.length)
theorem le_{α:Type}(p:α->Bool)(l:List α)(x:α):(l++[x]).all p=(l.all p && p x):=by simp [List.all_append]
theorem TT{α:Type}{p:α->Bool}{l:List α}{k:Nat}(hk:k<l.length)(d:α)(h:p (nth l k d)=false):l.all p=false:=by
  rw [List.all_eq_false];exact ⟨_,List.mem_of_getElem? (getD_some l hk d),by simp [h]⟩
theorem chk_in(d:Dfa)(k:Nat): ∃r,aV (λq:Nat=>Gu_ d k q) 0=some r/\(((nth d.next k []).all (y9 d.next.length)=true/\r= .inl (k+1))\/((nth d.next k []).all (y9 d.next.length)=false/\r= .inr 1)):=
  Nb  (step:=λq:Nat=>Gu_ d k q) (λ(_:Unit) j=>j) (nth d.next k []) 0 (λpre _=>pre.all (y9 d.next.length)=true) (λr=>((nth d.next k []).all (y9 d.next.length)=true/\r= .inl (k+1))\/((nth d.next k []).all (y9 d.next.length)=false/\r= .inr 1))
    (λj s hj hI=>by
      simp only [Gu_];rw [show decide (((j:Nat):Int)<(((nth d.next k ([]:aj)).length:Nat):Int))=true from decide_eq_true (by omega),iteO_true]
      by_cases c1:nth (nth d.next k ([]:aj)) j (0:Int)<0
      · right;rw [decide_eq_true c1,iteO_true];exact ⟨_,rfl,.inr ⟨TT hj 0 (by simp [y9];omega),rfl⟩⟩
      rw [decide_eq_false c1,iteO_false]
      by_cases c2:((d.next.length:Nat):Int)<=nth (nth d.next k ([]:aj)) j (0:Int)
      · right;rw [decide_eq_true c2,iteO_true];exact ⟨_,rfl,.inr ⟨TT hj 0 (by simp [y9];omega),rfl⟩⟩
      rw [decide_eq_false c2,iteO_false];left;exact ⟨(),rfl,by rw [le_,hI];simp [y9];omega⟩)
    (λs hI=>by
      simp only [Gu_];rw [show decide ((((nth d.next k ([]:aj)).length:Nat):Int)<(((nth d.next k ([]:aj)).length:Nat):Int))=false from decide_eq_false (by omega),iteO_false];exact ⟨_,rfl,.inl ⟨hI,rfl⟩⟩) (s0:=()) rfl
theorem chk_out (d : Dfa) (v : (List BSet) × Int) : ∃ r, aV (λq : Nat => Go_ d v q) 0 = some r /\ ((d.next.all (zH d.next.length v.1.length) = true /\ r = 0) \/ (d.next.all (zH d.next.length v.1.length) = false /\ r = 1)) :=
  Nb  (step:=λq:Nat=>Go_ d v q) (λ(_:Unit) j=>j) d.next [] (λpre _=>pre.all (zH d.next.length v.1.length)=true) (λr=>(d.next.all (zH d.next.length v.1.length)=true/\r=0)\/(d.next.all (zH d.next.length v.1.length)=false/\r=1))
    (λk s hk hI=>by
      simp only [Go_];rw [show decide (((k:Nat):Int)<((d.next.length:Nat):Int))=true from decide_eq_true (by omega),iteO_true]
      by_cases c1:(nth d.next k ([]:aj)).length=v.1.length
      · rw [show decide ((((nth d.next k ([]:aj)).length:Nat):Int)≠((v.1.length:Nat):Int))=false from decide_eq_false (by omega),iteO_false]
        obtain ⟨r,h1,h2|h2⟩:=chk_in d k
        · left;rw [h1,h2.2];exact ⟨(),rfl,by rw [le_,hI];simp [zH,c1,h2.1]⟩
        right;rw [h1,h2.2];exact ⟨_,rfl,.inr ⟨TT hk [] (by simp only [zH,h2.1,Bool.and_false]),rfl⟩⟩
      right;rw [show decide ((((nth d.next k ([]:aj)).length:Nat):Int)≠((v.1.length:Nat):Int))=true from decide_eq_true (by omega),iteO_true];exact ⟨_,rfl,.inr ⟨TT hk [] (by simp [zH,c1]),rfl⟩⟩)
    (λs hI=>by
      simp only [Go_];rw [show decide (((d.next.length:Nat):Int)<((d.next.length:Nat):Int))=false from decide_eq_false (by omega),iteO_false];exact ⟨_,rfl,.inl ⟨hI,rfl⟩⟩) (s0:=()) rfl
theorem lk_(d:Dfa):Uj d=some (if jU d=true then 0 else 1):=by
  unfold Uj;obtain ⟨v,hv,h⟩:=s1_ d.cls;rw [iy hv];rcases h with ⟨h1,h2⟩|⟨h1,h2,h3⟩
  · rw [decide_eq_true (show v.2≠0 by omega),iteO_true]
    rw [if_neg];rcases h1 with h1|h1
    · simp [jU,h1]
    simp [jU,h1]
  rw [decide_eq_false (show ¬ v.2≠0 by omega),iteO_false]
  by_cases c1:d.next.length<1
  · rw [show decide (((d.next.length:Nat):Int)<1)=true from decide_eq_true (by omega),iteO_true,if_neg]
    simp only [jU,Bool.and_eq_true,dA];omega
  rw [show decide (((d.next.length:Nat):Int)<1)=false from decide_eq_false (by omega),iteO_false]
  by_cases c2:1024<d.next.length
  · rw [show decide (1024<((d.next.length:Nat):Int))=true from decide_eq_true (by omega),iteO_true,if_neg]
    simp only [jU,Bool.and_eq_true,dA];omega
  rw [show decide (1024<((d.next.length:Nat):Int))=false from decide_eq_false (by omega),iteO_false]
  by_cases c3:d.fin.length=d.next.length
  · rw [show decide (((d.fin.length:Nat):Int)≠((d.next.length:Nat):Int))=false from decide_eq_false (by omega),iteO_false]
    obtain ⟨r,hr,hr2⟩:=chk_out d v;rw [hr];have e:jU d=d.next.all (zH d.next.length v.1.length):=by
      simp only [jU,h1,h2,c3,decide_true,Bool.true_and,Bool.and_true];rw [show decide (1<=d.next.length/\d.next.length<=1024)=true from decide_eq_true (by omega),Bool.and_true]
    rw [e];rcases hr2 with ⟨h4,h5⟩|⟨h4,h5⟩
    · rw [h4,h5,if_pos rfl]
    rw [h4,h5,if_neg (by simp)]
  rw [show decide (((d.fin.length:Nat):Int)≠((d.next.length:Nat):Int))=true from decide_eq_true (by omega),iteO_true,if_neg];simp only [jU,Bool.and_eq_true,dA];omega
theorem DT: ∀(l:aj) (j m:Nat),l.foldl oW (some j)=some m->j<=m/\ ∀n∈l,0<=n/\n<(m:Int)
  |[],j,m,h=>by cases h;simp
  |n::l,j,m,h=>by
    rw [List.foldl_cons]at h
    by_cases hc:n<0\/(j:Int)<n
    · rw [show oW (some j) n=none by simp [oW,hc],lv_]at h;cases h
    rw [show oW (some j) n=some (if n=j then j+1 else j) by simp [oW,hc]]at h;obtain ⟨h1,h2⟩:=DT l _ m h;refine ⟨by split at h1<;>omega,λk hk=> ?_⟩
    rcases List.mem_cons.1 hk with rfl|hk
    · split at h1<;>omega
    exact h2 k hk
def okS(d:Dfa)(s:Int):Prop:=0<=s/\s<(d.next.length:Int)
def dlt(d:Dfa)(s:Int)(b:UInt8):Int:=nth (nth d.next s.toNat ([]:aj)) ((nth d.cls b.toNat (0:Int)).toNat) (0:Int)
theorem VI{α:Type}{l:List α}{i:Nat}(hi:i<l.length)(d:α):nth l i d∈l:=List.mem_of_getElem? (getD_some l hi d)
structure DltOk (d:Dfa) (s:Int) (b:UInt8):Prop where
  cl:b.toNat<d.cls.length
  c:0<=nth d.cls b.toNat (0:Int)/\nth d.cls b.toNat (0:Int)<((nth d.next s.toNat ([]:aj)).length:Int)
  nx:okS d (dlt d s b)
  f:0<=dlt d s b/\dlt d s b<(d.fin.length:Int)
theorem tl_{d:Dfa}(h:jU d=true){s:Int}(hs:okS d s)(b:UInt8):DltOk d s b:=by
  simp only [jU,Bool.and_eq_true,dA]at h;obtain ⟨⟨⟨h1,h2⟩,h3⟩,h4⟩:=h;cases hm:fH d.cls with
  |none=>rw [hm]at h2;cases h2
  |some m=>
    rw [hm]at h2;have hb:=UInt8.toNat_lt b;have hcl:b.toNat<d.cls.length:=by omega
    have hc:=(DT d.cls 0 m hm).2 _ (VI hcl 0);obtain ⟨hs0,hs1⟩:=hs;have hrow:=List.all_eq_true.1 h2 _ (VI (l:=d.next) (i:=s.toNat) (by omega) []);simp only [zH,Bool.and_eq_true,dA]at hrow;obtain ⟨hr1,hr2⟩:=hrow;have hx:=List.all_eq_true.1 hr2 _ (VI (l:=nth d.next s.toNat []) (i:=(nth d.cls b.toNat (0:Int)).toNat) (by omega) 0);simp only [y9,Bool.and_eq_true,dA]at hx;exact ⟨hcl,⟨hc.1,by omega⟩,hx,⟨hx.1,by have:=hx.2;unfold dlt;omega⟩⟩
theorem ok0{d:Dfa}(h:jU d=true):okS d 0:=by
  simp only [jU,Bool.and_eq_true,dA]at h;exact ⟨by omega,by omega⟩
def yK(d:Dfa)(q:Int)(l:T_1):Int:=l.foldl (dlt d) q
theorem y6_{d:Dfa}(h:jU d=true): ∀(l:T_1) {q:Int},okS d q->okS d (yK d q l)
  |[],_,hq=>hq
  |b::l,q,hq=>by
    rw [yK,List.foldl_cons];exact y6_ h l (tl_ h hq b).nx
def mkS(cls:aj)(k:Nat):BSet:=BSet.make λb=>decide (nth cls b (0:Int)=((k:Nat):Int))
theorem n8_{cls:aj}{k b:Nat}(hb:b<256):(mkS cls k).has b=decide (nth cls b (0:Int)=((k:Nat):Int)):=BSet.EX _ hb
def mkP(cls:aj)(n:Nat):List BSet:=(List.range n).map (mkS cls)
theorem VF(cls:aj)(n:Nat):(mkP cls n).length=n:=by unfold mkP;rw [List.length_map,List.length_range]
theorem s5_{n k:Nat}(h:k<n):nth (List.range n) k 0=k:=by
  unfold nth;rw [List.getD_eq_getElem?_getD,List.getElem?_range h];rfl
theorem mkP_at{cls:aj}{n k:Nat}(h:k<n):nth (mkP cls n) k BSet.zero=mkS cls k:=by
  unfold mkP;rw [C9 _ _ _ 0 BSet.zero (by rw [List.length_range];exact h),s5_ h]
theorem ya_ (cls : aj) (h256 : cls.length = 256) (k : Nat) (out : List BSet) (hk : k < 1000) (ho : out.length < 1000) :
    aV (λq:B_1×Nat=>UO cls k out q.1 q.2) ((List.replicate 256 false),0)=some (.inl (out++[mkS cls k],k+1)):=by
  obtain ⟨r,h1,rfl⟩:=fC (step:=λq:B_1×Nat=>UO cls k out q.1 q.2) (λ(s:B_1) j=>(s,j)) 256 (λj s=>s.length=256/\ ∀i,i<j->nth s i false=decide (nth cls i (0:Int)=((k:Nat):Int))) (λr=>r= .inl (out++[mkS cls k],k+1))
    (λj s hj hI=>by
      obtain ⟨h1,h2⟩:=hI;refine .inl ⟨s.set j (decide ((nth cls j (0:Int))=((k:Nat):Int))),?_,by rw [eX];exact h1,λi hi=> ?_⟩
      · show UO cls k out s j=_
        unfold UO;rw [bY (by omega),aQ (by omega),aQ (by omega)];rfl
      rw [nI]
      by_cases e:j=i
      · subst e;rw [if_pos ⟨rfl,by omega⟩]
      rw [if_neg (λq=>e q.1)];exact h2 i (by omega))
    (λs hI=>by
      obtain ⟨h1,h2⟩:=hI;refine ⟨_,?_,rfl⟩;show UO cls k out s 256=_;unfold UO;rw [bK (by omega),aQ lq,aQ (by rw [dN];omega),aQ (by omega)];have:(BSet.make λi=>nth s i false)=mkS cls k:=BSet.Pv λb hb=>h2 b hb;rw [this];rfl)
    (s0:=List.replicate 256 false) ⟨lq,λi hi=>by omega⟩
  exact h1
theorem u0_(cls:aj)(h256:cls.length=256)(m:Nat)(hm:m<=256):
    aV (λq:(List BSet)×Nat=>UQ ((m:Int) - 1) cls q.1 q.2) (([]:List BSet),0)=some (mkP cls m,0):=by
  obtain ⟨r,h1,rfl⟩:=fC (step:=λq:(List BSet)×Nat=>UQ ((m:Int) - 1) cls q.1 q.2) (λ(s:List BSet) k=>(s,k)) m (λk s=>s=mkP cls k) (λr=>r=(mkP cls m,0))
    (λk s hk hI=>by
      subst hI;refine .inl ⟨mkP cls (k+1),?_,rfl⟩;show UQ ((m:Int) - 1) cls (mkP cls k) k=_;unfold UQ;rw [bY (by omega),ya_ cls h256 k _ (by omega) (by rw [VF];omega)];unfold mkP;rw [List.range_succ,List.map_append];rfl)
    (λs hI=>by
      subst hI;refine ⟨_,?_,rfl⟩;show UQ ((m:Int) - 1) cls (mkP cls m) m=_;unfold UQ;rw [bK (by omega)];rfl) (s0:=[]) rfl
  exact h1
theorem px_ (cls : aj) : ∃ r, UF cls = some r /\ (((cls.length ≠ 256 \/ fH cls = none) /\ r.2 = 1) \/ (cls.length = 256 /\ fH cls = some r.1.length /\ r.2 = 0 /\ r.1 = mkP cls r.1.length)) := by
  unfold UF
  by_cases h256:cls.length=256
  · rw [show decide (((cls.length:Nat):Int)≠256)=false from decide_eq_false (by omega),iteO_false]
    obtain ⟨r,h1,h2⟩:=Nb (step:=λq:Int×Nat=>Eb_ cls q.1 q.2) (λs k=>(s,k)) cls 0 (λpre s=> ∃c,fH pre=some c/\s=(c:Int) - 1) (λr=>(fH cls=none/\r.2=1)\/(fH cls=some r.1.length/\r.2=0/\r.1=mkP cls r.1.length))
      (λk s hk ⟨c,hI,hs⟩=>by
        subst hs;have hle:=ZE _ _ _ hI;rw [List.length_take,Nat.zero_add]at hle;have hsp:=jv_ cls hk (0:Int);have hstop:(nth cls k 0<0\/(c:Int)<nth cls k 0)->fH cls=none:=λhc=>by
          rw [hsp,<-List.singleton_append,<-zQ];exact jf_ (by rw [yh,hI];simp [oW,hc])
        simp only [Eb_];rw [show decide (((k:Nat):Int)<256)=true from decide_eq_true (by omega),iteO_true,aQ hk]
        by_cases c1:nth cls k 0<0
        · right;rw [decide_eq_true c1,iteO_true];exact ⟨_,rfl,.inl ⟨hstop (.inl c1),rfl⟩⟩
        rw [decide_eq_false c1,iteO_false,aQ hk,tJ (by omega) (by omega)]
        by_cases c2:((c:Int) - 1+1)<nth cls k 0
        · right;rw [decide_eq_true c2,iteO_true];exact ⟨_,rfl,.inl ⟨hstop (.inr (by omega)),rfl⟩⟩
        rw [decide_eq_false c2,iteO_false,aQ hk];left;refine ⟨_,rfl,if nth cls k 0=(c:Int) then c+1 else c,?_,?_⟩
        · rw [yh,hI]
          simp only [oW,Option.bind_some];rw [if_neg (by omega)]
        split<;>omega)
      (λs ⟨c,hI,hs⟩=>by
        subst hs;have hle:=ZE _ _ _ hI;refine ⟨(mkP cls c,0),?_,.inr ⟨by rw [hI,VF],rfl,by rw [VF]⟩⟩;simp only [Eb_];rw [show decide (((cls.length:Nat):Int)<256)=false from decide_eq_false (by omega),iteO_false,u0_ cls h256 c (by omega)];rfl) (s0:= -1) ⟨0,rfl,rfl⟩
    refine ⟨r,h1,?_⟩;rcases h2 with ⟨h2,h3⟩|⟨h2,h3⟩
    · exact .inl ⟨.inr h2,h3⟩
    exact .inr ⟨h256,h2,h3⟩
  rw [show decide (((cls.length:Nat):Int)≠256)=true from decide_eq_true (by omega),iteO_true];exact ⟨_,rfl,.inl ⟨.inl h256,rfl⟩⟩
theorem yp_(cls:aj): ∃r,UF cls=some r/\(((cls.length≠256\/fH cls=none)/\r.2=1)\/(cls.length=256/\fH cls=some r.1.length/\r.2=0)):=by
  obtain ⟨r,h1,h2⟩:=px_ cls;exact ⟨r,h1,h2.imp id λh=>⟨h.1,h.2.1,h.2.2.1⟩⟩
theorem yw_{cls:aj}{n:Nat}(h256:cls.length=256)(h:fH cls=some n):UF cls=some (mkP cls n,0):=by
  obtain ⟨r,h1,h2⟩:=px_ cls;rcases h2 with ⟨h2, -⟩|⟨-,h2,h3,h4⟩
  · rcases h2 with h2|h2
    · exact absurd h256 h2
    rw [h]at h2;cases h2
  rw [h]at h2;rw [<-Option.some.inj h2]at h4;rw [h1];obtain ⟨a,b⟩:=r;dsimp only at h3 h4;rw [h3,h4]
theorem rgt_in(d:Dfa)(v:(List BSet)×Int)(k:Nat)(hv:(nth d.next k []).length=v.1.length): ∃r,aV (λq:Nat=>Cw_ v d k q) 0=some r/\(((nth d.next k []).all (y9 d.next.length)=true/\r= .inl (k+1))\/((nth d.next k []).all (y9 d.next.length)=false/\r= .inr false)):=
  Nb  (step:=λq:Nat=>Cw_ v d k q) (λ(_:Unit) j=>j) (nth d.next k []) 0 (λpre _=>pre.all (y9 d.next.length)=true) (λr=>((nth d.next k []).all (y9 d.next.length)=true/\r= .inl (k+1))\/((nth d.next k []).all (y9 d.next.length)=false/\r= .inr false))
    (λj s hj hI=>by
      simp only [Cw_];rw [show decide (((j:Nat):Int)<((v.1.length:Nat):Int))=true from decide_eq_true (by omega),iteO_true,aQ hj]
      by_cases c1:nth (nth d.next k ([]:aj)) j (0:Int)<0
      · right;rw [decide_eq_true c1,iteO_true];exact ⟨_,rfl,.inr ⟨TT hj 0 (by simp [y9];omega),rfl⟩⟩
      rw [decide_eq_false c1,iteO_false,aQ hj]
      by_cases c2:((d.next.length:Nat):Int)<=nth (nth d.next k ([]:aj)) j (0:Int)
      · right;rw [decide_eq_true c2,iteO_true];exact ⟨_,rfl,.inr ⟨TT hj 0 (by simp [y9];omega),rfl⟩⟩
      rw [decide_eq_false c2,iteO_false];left;exact ⟨(),rfl,by rw [le_,hI];simp [y9];omega⟩)
    (λs hI=>by
      simp only [Cw_];rw [show decide ((((nth d.next k ([]:aj)).length:Nat):Int)<((v.1.length:Nat):Int))=false from decide_eq_false (by omega),iteO_false];exact ⟨_,rfl,.inl ⟨hI,rfl⟩⟩) (s0:=()) rfl
theorem rgt_out (d : Dfa) (v : (List BSet) × Int) : ∃ r, aV (λq : Nat => Cp_ d v q) 0 = some r /\ r = d.next.all (zH d.next.length v.1.length) :=
  Nb  (step:=λq:Nat=>Cp_ d v q) (λ(_:Unit) j=>j) d.next [] (λpre _=>pre.all (zH d.next.length v.1.length)=true) (λr=>r=d.next.all (zH d.next.length v.1.length))
    (λk s hk hI=>by
      simp only [Cp_];rw [show decide (((k:Nat):Int)<((d.next.length:Nat):Int))=true from decide_eq_true (by omega),iteO_true]
      by_cases c1:(nth d.next k ([]:aj)).length=v.1.length
      · rw [show decide ((((nth d.next k ([]:aj)).length:Nat):Int)≠((v.1.length:Nat):Int))=false from decide_eq_false (by omega),iteO_false]
        obtain ⟨r,h1,h2|h2⟩:=rgt_in d v k c1
        · left;rw [h1,h2.2];exact ⟨(),rfl,by rw [le_,hI];simp [zH,c1,h2.1]⟩
        right;rw [h1,h2.2];exact ⟨_,rfl,(TT hk [] (by simp only [zH,h2.1,Bool.and_false])).symm⟩
      right;rw [show decide ((((nth d.next k ([]:aj)).length:Nat):Int)≠((v.1.length:Nat):Int))=true from decide_eq_true (by omega),iteO_true];exact ⟨_,rfl,(TT hk [] (by simp [zH,c1])).symm⟩)
    (λs hI=>by
      simp only [Cp_];rw [show decide (((d.next.length:Nat):Int)<((d.next.length:Nat):Int))=false from decide_eq_false (by omega),iteO_false];exact ⟨_,rfl,hI.symm⟩) (s0:=()) rfl
theorem lp_(d:Dfa):YU d=some (jU d):=by
  unfold YU;obtain ⟨v,hv,h⟩:=yp_ d.cls;rw [iy hv];rcases h with ⟨h1,h2⟩|⟨h1,h2,h3⟩
  · rw [decide_eq_true (show v.2≠0 by omega),iteO_true]
    rcases h1 with h1|h1
    · simp [jU,h1]
    simp [jU,h1]
  rw [decide_eq_false (show ¬ v.2≠0 by omega),iteO_false]
  by_cases c1:d.next.length<1
  · rw [show decide (((d.next.length:Nat):Int)<1)=true from decide_eq_true (by omega),iteO_true]
    congr 1;symm;rw [Bool.eq_false_iff];simp only [jU,Ne,Bool.and_eq_true,dA];omega
  rw [show decide (((d.next.length:Nat):Int)<1)=false from decide_eq_false (by omega),iteO_false]
  by_cases c2:1024<d.next.length
  · rw [show decide (1024<((d.next.length:Nat):Int))=true from decide_eq_true (by omega),iteO_true]
    congr 1;symm;rw [Bool.eq_false_iff];simp only [jU,Ne,Bool.and_eq_true,dA];omega
  rw [show decide (1024<((d.next.length:Nat):Int))=false from decide_eq_false (by omega),iteO_false]
  by_cases c3:d.fin.length=d.next.length
  · rw [show decide (((d.fin.length:Nat):Int)≠((d.next.length:Nat):Int))=false from decide_eq_false (by omega),iteO_false]
    obtain ⟨r,hr,hr2⟩:=rgt_out d v;rw [hr,hr2];congr 1;simp only [jU,h1,h2,c3,decide_true,Bool.true_and,Bool.and_true];rw [show decide (1<=d.next.length/\d.next.length<=1024)=true from decide_eq_true (by omega),Bool.and_true]
  rw [show decide (((d.fin.length:Nat):Int)≠((d.next.length:Nat):Int))=true from decide_eq_true (by omega),iteO_true];congr 1;symm;rw [Bool.eq_false_iff];simp only [jU,Ne,Bool.and_eq_true,dA];omega
theorem u8nat{b:Nat}(hb:b<256):(UInt8.ofNat b).toNat=b:=by rw [UInt8.toNat_ofNat'];omega
theorem Na {l : aj} : ∀ {k : Nat}, fH l = some k -> ∀ v : Nat, v < k -> ∃ a, a < l.length /\ nth l a (0 : Int) = ((v : Nat) : Int) := by
  induction l using qp_ with
  | h0 => intro k h v hv; have : k = 0 := (Option.some.inj (show some 0 = some k from h)).symm
          omega
  |h1 l x ih=>
    intro k h v hv;rw [yh]at h;cases c:fH l with
    |none=>rw [c]at h;cases h
    |some j=>
      rw [c]at h;unfold oW at h;rw [Option.bind_some]at h
      by_cases d:x<0\/((j:Nat):Int)<x
      · rw [if_pos d]at h;cases h
      rw [if_neg d]at h;have hk:=Option.some.inj h
      by_cases e:v<j
      · obtain ⟨a,h1,h2⟩:=ih c v e
        exact ⟨a,by rw [gu];omega,by rw [rY _ _ _ _ h1];exact h2⟩
      by_cases f:x=((j:Nat):Int)
      · rw [if_pos f]at hk
        exact ⟨l.length,by rw [gu,dN];omega,by rw [sG,f];omega⟩
      rw [if_neg f]at hk;omega
theorem md_{l:aj}{n:Nat}(h:fH l=some n){p:Nat}(hp:p<l.length){k:Nat}(hk:((k:Nat):Int)<nth l p (0:Int)): ∃a,a<p/\nth l a (0:Int)=((k:Nat):Int):=by
  have e:=jv_ l hp (0:Int);have h1:fH (l.take p++[nth l p (0:Int)])≠none:=λq=>by
    rw [e,show l.take p++nth l p (0:Int)::l.drop (p+1)=(l.take p++[nth l p (0:Int)])++l.drop (p+1) by rw [zQ];rfl,jf_ q]at h;cases h
  rw [yh]at h1;cases c:fH (l.take p)with
  |none=>rw [c]at h1;exact absurd rfl h1
  |some m=>
    rw [c]at h1;unfold oW at h1;rw [Option.bind_some]at h1
    by_cases d:nth l p (0:Int)<0\/((m:Nat):Int)<nth l p (0:Int)
    · rw [if_pos d]at h1;exact absurd rfl h1
    obtain ⟨a,h2,h3⟩:=Na c k (by omega);rw [List.length_take]at h2;refine ⟨a,by omega,?_⟩;rw [<-h3,e,rY _ _ _ _ (by rw [List.length_take];omega),<-e]
theorem ri_ : ∀ {l m : aj} {j k : Nat}, l.length = m.length -> fH l = some j -> fH m = some k -> (∀ a b, a < l.length -> b < l.length -> (nth l a (0 : Int) = nth l b 0 ↔ nth m a (0 : Int) = nth m b 0)) -> l = m /\ j = k := by
  intro l
  induction l using qp_ with
  |h0=>
    intro m j k hl h1 h2 _;have:m=[]:=OW (by simpa using hl.symm);subst this;rw [h1]at h2;exact ⟨rfl,Option.some.inj h2⟩
  | h1 l x ih =>
    intro m j k hl h1 h2 hs
    induction m using qp_ with
    |h0=>simp at hl
    |h1 m y _=>
      simp only [gu,dN,Nat.add_right_cancel_iff]at hl hs;rw [yh]at h1 h2;cases c1:fH l with
      |none=>rw [c1]at h1;cases h1
      |some j'=>cases c2:fH m with
        |none=>rw [c2]at h2;cases h2
        |some k'=>
          obtain ⟨e1,e2⟩:=ih hl c1 c2 λa b ha hb=>by
            have:=hs a b (by omega) (by omega)
            rwa [rY _ _ _ _ ha,rY _ _ _ _ hb,rY _ _ _ _ (by omega),rY _ _ _ _ (by omega)]at this
          subst e1;subst e2;rw [c1]at h1 h2;unfold oW at h1 h2;rw [Option.bind_some]at h1 h2
          by_cases d1:x<0\/((j':Nat):Int)<x
          · rw [if_pos d1]at h1;cases h1
          by_cases d2:y<0\/((j':Nat):Int)<y
          · rw [if_pos d2]at h2;cases h2
          rw [if_neg d1]at h1;rw [if_neg d2]at h2;have two: ∀a,a<l.length->(nth l a (0:Int)=x↔nth l a (0:Int)=y):=λa ha=>by
            have:=hs a l.length (by omega) (by omega)
            rwa [rY _ _ _ _ ha,rY _ _ _ _ ha,sG,sG]at this
          have hxy:x=y:=by
            by_cases f:x=((j':Nat):Int)
            · by_cases g:y=((j':Nat):Int)
              · rw [f,g]
              obtain ⟨a,ha,hv⟩:=Na c1 y.toNat (by omega);have h3:nth l a (0:Int)=y:=by rw [hv];omega
              exact ((two a ha).2 h3).symm.trans h3
            obtain ⟨a,ha,hv⟩:=Na c1 x.toNat (by omega);have h3:nth l a (0:Int)=x:=by rw [hv];omega
            exact h3.symm.trans ((two a ha).1 h3)
          subst hxy;exact ⟨rfl,Option.some.inj (h1.symm.trans h2)⟩
theorem y0_{l:aj}{n:Nat}(h:fH l=some n){p:Nat}(hp:p<l.length){m:Nat}(hm:fH (l.take p)=some m):0<=nth l p (0:Int)/\nth l p (0:Int)<=((m:Nat):Int):=by
  have e:=jv_ l hp (0:Int);have h1:fH (l.take p++[nth l p (0:Int)])≠none:=λq=>by
    rw [e,show l.take p++nth l p (0:Int)::l.drop (p+1)=(l.take p++[nth l p (0:Int)])++l.drop (p+1) by rw [zQ];rfl,jf_ q]at h;cases h
  rw [yh,hm]at h1;unfold oW at h1;rw [Option.bind_some]at h1
  by_cases d:nth l p (0:Int)<0\/((m:Nat):Int)<nth l p (0:Int)
  · rw [if_pos d]at h1;exact absurd rfl h1
  omega
def fup(p:Nat->Bool):Nat->Nat->Nat
  |0,m=>m
  |k+1,m=>if p m=true then m else fup p k (m+1)
theorem ZL(p:Nat->Bool): ∀k m,m<=fup p k m/\fup p k m<=m+k/\(∀i,m<=i->i<fup p k m->p i=false)/\(fup p k m<m+k->p (fup p k m)=true)
  |0,m=>⟨Nat.le_refl _,Nat.le_refl _,λi h1 h2=>absurd (show i<m from h2) (by omega),λh=>absurd (show m<m+0 from h) (by omega)⟩
  |k+1,m=>by
    unfold fup
    by_cases h:p m=true
    · rw [if_pos h];exact ⟨Nat.le_refl _,by omega,λi h1 h2=>by omega,λ_=>h⟩
    rw [if_neg h];obtain ⟨h1,h2,h3,h4⟩:=ZL p k (m+1);refine ⟨by omega,by omega,λi h5 h6=> ?_,λh5=>h4 (by omega)⟩
    by_cases e:i=m
    · subst e;simpa using h
    exact h3 i (by omega) h6
theorem lt_ {R : Type} {step : Int × Int -> Option ((Int × Int) ⊕ R)} (p : Nat -> Bool) (n : Nat)
    (hs: ∀(i:Nat) (a:Int),i<n->step (a,((i:Nat):Int))=some (.inl (if p i=true then ((i:Nat):Int) else a,((i:Nat):Int) - 1))) {r:R}
    (hr:step (((fup p n 0:Nat):Int), -1)=some (.inr r)):aV step (((n:Nat):Int),((n:Nat):Int) - 1)=some r:=by
  have key: ∀m,m<=n->aV step (((fup p (n - m) m:Nat):Int),((m:Nat):Int) - 1)=some r:=by
    intro m
    induction m with
    |zero=>intro _;exact ts_ hr
    |succ m ih=>
      intro hm;have h1:=hs m (((fup p (n - (m+1)) (m+1):Nat):Int)) (by omega);have e:(if p m=true then ((m:Nat):Int) else ((fup p (n - (m+1)) (m+1):Nat):Int))=((fup p (n - m) m:Nat):Int):=by
        rw [show n - m=(n - (m+1))+1 by omega];show _=(((if p m=true then m else fup p (n - (m+1)) (m+1)):Nat):Int)
        split<;>rfl
      rw [e]at h1;rw [show ((m+1:Nat):Int) - 1=((m:Nat):Int) by omega,qq_ h1];exact ih (by omega)
  have:=key n (Nat.le_refl _);rw [Nat.sub_self]at this;exact this
structure FcI (E:Nat->Nat->Prop) (k:Nat) (cls F:aj):Prop where
  len:cls.length=256
  cnt:fH (cls.take k)=some F.length
  le:F.length<=k
  fs: ∀j,j<F.length-> ∃b:Nat,b<k/\nth F j (0:Int)=((b:Nat):Int)/\nth cls b (0:Int)=((j:Nat):Int)
  eq: ∀b,b<k-> ∃j:Nat,j<F.length/\nth cls b (0:Int)=((j:Nat):Int)/\E (nth F j (0:Int)).toNat b
  nd: ∀i j,i<j->j<F.length-> ¬ E (nth F i (0:Int)).toNat (nth F j (0:Int)).toNat
structure EqvE (E:Nat->Nat->Prop):Prop where
  rf: ∀a,E a a
  sm: ∀{a b},E a b->E b a
  tr: ∀{a b c},E a b->E b c->E a c
theorem FcI.nil(E:Nat->Nat->Prop):FcI E 0 (List.replicate 256 0) []:=⟨lq,rfl,Nat.le_refl _,λj hj=>(by cases hj),λb hb=>(by cases hb),λi j _ hj=>by cases hj⟩
theorem FcI.step {E : Nat -> Nat -> Prop} (hE : EqvE E) {k : Nat} (hk : k < 256) {cls F : aj} (h : FcI E k cls F) {p : Nat -> Bool} (hp : ∀ i, i < F.length -> (p i = true ↔ E (nth F i (0 : Int)).toNat k)) :
    FcI E (k+1) (cls.set k ((fup p F.length 0:Nat):Int)) (if fup p F.length 0=F.length then F++[((k:Nat):Int)] else F):=by
  obtain ⟨-,h2,h3,h4⟩:=ZL p F.length 0;rw [Nat.zero_add]at h2 h4;generalize hf:fup p F.length 0=f at *;have hl:=h.len;have hle:=h.le;have htk:(cls.set k ((f:Nat):Int)).take (k+1)=cls.take k++[((f:Nat):Int)]:=by
    rw [jS _ (by rw [eX];omega) (0:Int),nI,if_pos ⟨rfl,by omega⟩,List.take_set_of_le (Nat.le_refl k)]
  have hat: ∀b,b<k->nth (cls.set k ((f:Nat):Int)) b (0:Int)=nth cls b (0:Int):=λb hb=>by rw [nI,if_neg (λq=>by omega)]
  have hak:nth (cls.set k ((f:Nat):Int)) k (0:Int)=((f:Nat):Int):=by rw [nI,if_pos ⟨rfl,by omega⟩]
  by_cases e:f=F.length
  · rw [if_pos e]
    have hlen:(F++[((k:Nat):Int)]).length=F.length+1:=by rw [gu,dN]
    have hno: ∀i,i<F.length-> ¬ E (nth F i (0:Int)).toNat k:=λi hi q=>by
      have:=h3 i (Nat.zero_le _) (by omega);rw [(hp i hi).2 q]at this;cases this
    refine ⟨by rw [eX];exact hl,?_,by omega,λj hj=> ?_,λb hb=> ?_,λi j hij hj=> ?_⟩
    · rw [htk,yh,h.cnt,hlen]
      unfold oW;rw [Option.bind_some,if_neg (by omega),if_pos (by omega)]
    · rw [hlen]at hj
      by_cases ej:j=F.length
      · subst ej
        exact ⟨k,by omega,sG _ _ _,by rw [hak,e]⟩
      obtain ⟨b,k1,k2,k3⟩:=h.fs j (by omega);exact ⟨b,by omega,by rw [rY _ _ _ _ (by omega)];exact k2,by rw [hat b k1];exact k3⟩
    · by_cases eb:b=k
      · subst eb
        exact ⟨F.length,by omega,by rw [hak,e],by rw [sG,iI];exact hE.rf _⟩
      obtain ⟨j,k1,k2,k3⟩:=h.eq b (by omega);exact ⟨j,by omega,by rw [hat b (by omega)];exact k2,by rw [rY _ _ _ _ k1];exact k3⟩
    rw [hlen]at hj;rw [rY _ _ i _ (by omega)]
    by_cases ej:j=F.length
    · subst ej
      rw [sG,iI];exact hno i hij
    rw [rY _ _ _ _ (by omega)];exact h.nd i j hij (by omega)
  rw [if_neg e];have hE1:=(hp f (by omega)).1 (h4 (by omega));refine ⟨by rw [eX];exact hl,?_,by omega,λj hj=> ?_,λb hb=> ?_,h.nd⟩
  · rw [htk,yh,h.cnt]
    unfold oW;rw [Option.bind_some,if_neg (by omega),if_neg (by omega)]
  · obtain ⟨b,k1,k2,k3⟩:=h.fs j hj
    exact ⟨b,by omega,k2,by rw [hat b k1];exact k3⟩
  by_cases eb:b=k
  · subst eb
    exact ⟨f,by omega,hak,hE1⟩
  obtain ⟨j,k1,k2,k3⟩:=h.eq b (by omega);exact ⟨j,k1,by rw [hat b (by omega)];exact k2,k3⟩
theorem FcI.full{E:Nat->Nat->Prop}{cls F:aj}(h:FcI E 256 cls F):fH cls=some F.length:=by
  have:=h.cnt
  rwa [List.take_of_length_le (by rw [h.len];omega)]at this
theorem FcI.pat{E:Nat->Nat->Prop}(hE:EqvE E){cls F:aj}(h:FcI E 256 cls F){a b:Nat}(ha:a<256)(hb:b<256):nth cls a (0:Int)=nth cls b 0↔E a b:=by
  obtain ⟨i,h1,h2,h3⟩:=h.eq a ha;obtain ⟨j,h4,h5,h6⟩:=h.eq b hb;rw [h2,h5];constructor
  · intro e
    obtain rfl:i=j:=by omega
    exact hE.tr (hE.sm h3) h6
  intro e;have h7:=hE.tr (hE.tr h3 e) (hE.sm h6);rcases Nat.lt_trichotomy i j with c|c|c
  · exact absurd h7 (h.nd i j c h4)
  · rw [c]
  exact absurd (hE.sm h7) (h.nd j i c h1)
def MS(l:List BSet)(a b:Nat):Prop:= ∀s∈l,s.has a=s.has b
theorem qf_(l:List BSet):EqvE (MS l):=⟨λa s _=>rfl,λh s hs=>(h s hs).symm,λh k s hs=>(h s hs).trans (k s hs)⟩
def Fp(l:List BSet)(a b:Nat):Bool:=l.all λs=>s.has a == s.has b
theorem tk_{l:List BSet}{a b:Nat}:Fp l a b=true↔MS l a b:=by
  unfold Fp MS;rw [List.all_eq_true];exact ⟨λh s hs=>by simpa using h s hs,λh s hs=>by simpa using h s hs⟩
theorem z2_ (l : List BSet) {a b : Nat} (ha : a < 256) (hb : b < 256) : E5_ l ((a : Nat) : Int) ((b : Nat) : Int) = some (Fp l a b) := by
  unfold E5_;obtain ⟨r,e,rfl⟩:=Nb (step:=λq:Nat=>U2 l ((a:Nat):Int) ((b:Nat):Int) q) (λ(_:Unit) k=>k) l BSet.zero (λpre _=>Fp pre a b=true) (λr=>r=Fp l a b)
    (λk s hk hI=>by
      show (∃s',U2 l _ _ k=_/\_)\/ ∃r,U2 l _ _ k=_/\_;unfold U2;rw [bY (by omega),aQ (by omega),aQ (by omega),iI,iI]
      by_cases c:(nth l k BSet.zero).has a=(nth l k BSet.zero).has b
      · rw [c,bne_self_eq_false,iteO_false]
        refine .inl ⟨(),rfl,?_⟩;unfold Fp at hI ⊢;rw [List.all_append,hI];simp [c]
      rw [bne_iff_ne.2 c,iteO_true];refine .inr ⟨_,rfl,?_⟩;cases h:Fp l a b
      · rfl
      exact absurd (tk_.1 h _ (jB hk BSet.zero)) c)
    (λs hI=>by
      refine ⟨_,?_,hI.symm⟩;show U2 l _ _ l.length=_;unfold U2;rw [bK (by omega)];rfl) (s0:=()) rfl
  exact e
theorem pq_ (l : List BSet) : ∃ cls F, C6_ l = some cls /\ FcI (MS l) 256 cls F := by
  unfold C6_;obtain ⟨r,e,F,h⟩:=fC (step:=λq:aj×aj×Nat=>Y6 l q.1 q.2.1 q.2.2) (λ(s:aj×aj) k=>(s.1,s.2,k)) 256 (λk s=>FcI (MS l) k s.1 s.2) (λr=> ∃F,FcI (MS l) 256 r F)
    (λk s hk hI=>by
      obtain ⟨cls,F⟩:=s;have hI:FcI (MS l) k cls F:=hI;have hle:=hI.le;have hlen:=hI.len;have hst:=hI.step (qf_ l) hk (p:=λi=>Fp l (nth F i (0:Int)).toNat k) λi hi=>tk_;have hf:=(ZL (λi=>Fp l (nth F i (0:Int)).toNat k) F.length 0).2.1;obtain ⟨f,hf0⟩: ∃f,fup (λi=>Fp l (nth F i (0:Int)).toNat k) F.length 0=f:=⟨_,rfl⟩;obtain ⟨F',hF'⟩: ∃F',(if f=F.length then F++[((k:Nat):Int)] else F)=F':=⟨_,rfl⟩;rw [hf0]at hf;rw [hf0,hF']at hst;refine .inl ⟨(cls.set k ((f:Nat):Int),F'),?_,hst⟩;show Y6 l cls F k=_;unfold Y6;rw [bY (by omega),tJ (by omega) (by omega)];refine lt_ (step:=λq:Int×Int=>Zi F l k cls q.1 q.2) (λi=>Fp l (nth F i (0:Int)).toNat k) F.length (λi a hi=> ?_) ?_
      · obtain ⟨b,k1,k2,k3⟩:=hI.fs i hi
        show Zi F l k cls a ((i:Nat):Int)=some (.inl (if Fp l (nth F i (0:Int)).toNat k=true then ((i:Nat):Int) else a,((i:Nat):Int) - 1));unfold Zi Db_;rw [bY (by omega),aQ (by omega),iI,k2,z2_ l (by omega) hk,gq,tJ (by omega) (by omega),iI];cases Fp l b k
        · rfl
        rfl
      show Zi F l k cls ((fup (λi=>Fp l (nth F i (0:Int)).toNat k) F.length 0:Nat):Int) (-1)=_;rw [hf0];unfold Zi Dc_;rw [bK (by omega)]
      by_cases c:f=F.length
      · rw [if_pos c]at hF'
        rw [bY (by omega),aQ (by rw [dN];omega),aQ (by omega),hF'];rfl
      rw [if_neg c]at hF';rw [bK (by omega),aQ (by omega),hF'];rfl)
    (λs hI=>by
      obtain ⟨cls,F⟩:=s;refine ⟨cls,?_,F,hI⟩;show Y6 l cls F 256=_;unfold Y6;rw [bK (by omega)];rfl)
    (s0:=(List.replicate 256 0,[])) (FcI.nil _)
  exact ⟨r,F,e,h⟩
theorem zq_{cls:aj}{n:Nat}(hc:fH cls=some n)(h256:cls.length=256){a b:Nat}(ha:a<256)(hb:b<256):MS (mkP cls n) a b↔nth cls a (0:Int)=nth cls b 0:=by
  have h1:=(DT cls 0 n hc).2 _ (jB (l:=cls) (i:=a) (by omega) (0:Int));constructor
  · intro h
    have h2:=h (mkS cls (nth cls a (0:Int)).toNat) (List.mem_map.2 ⟨_,List.mem_range.2 (by omega),rfl⟩);rw [n8_ ha,n8_ hb,decide_eq_true (by omega)]at h2;have:=Gu h2.symm;omega
  intro h s hs;obtain ⟨k,hk,rfl⟩:=List.mem_map.1 hs;rw [n8_ ha,n8_ hb,h]
theorem vw_ {cls : aj} {n : Nat} (hc : fH cls = some n) (h256 : cls.length = 256) : E8_ (mkP cls n) = some true := by
  unfold E8_;obtain ⟨r,e,rfl⟩:=fC (step:=λq:Nat×Nat=>YV (mkP cls n) q.1 q.2) (λ(s:Nat) k=>(s,k)) 256 (λk s=>fH (cls.take k)=some s/\s<=k) (λr=>r=true)
    (λk s hk hI=>by
      obtain ⟨hI,hsk⟩:=hI;have hv:=(DT cls 0 n hc).2 _ (jB (l:=cls) (i:=k) (by omega) (0:Int));obtain ⟨v,hve⟩: ∃v:Nat,nth cls k (0:Int)=((v:Nat):Int):=⟨(nth cls k (0:Int)).toNat,by omega⟩;have hvn:v<n:=by omega
      have hvs:v<=s:=by
        apply Decidable.byContradiction;intro q;have:=y0_ hc (p:=k) (by omega) hI;omega
      refine .inl ⟨if v=s then s+1 else s,?_,?_,by split<;>omega⟩
      · show YV (mkP cls n) s k=_
        unfold YV;rw [bY (by omega)];obtain ⟨r,e,rfl⟩:=fC (step:=λq:Nat×Nat×Nat=>Y2 (mkP cls n) k q.1 q.2.1 q.2.2) (λ(z:Nat×Nat) i=>(z.1,z.2,i)) (mkP cls n).length (λi z=>z=if i<=v then (s,0) else (if v=s then s+1 else s,1)) (λr=>r= .inl (if v=s then s+1 else s,k+1))
          (λi z hi hz=>by
            rw [VF]at hi;subst hz;refine .inl ⟨if i+1<=v then (s,0) else (if v=s then s+1 else s,1),?_,rfl⟩;show Y2 (mkP cls n) k _ _ i=_;unfold Y2 Cv_;rw [VF,bY (by omega),aQ (by omega),mkP_at hi,n8_ hk,hve]
            by_cases c:v=i
            · subst c
              rw [decide_eq_true rfl,iteO_true,if_pos (Nat.le_refl v),if_neg (show ¬ v+1<=v by omega)];dsimp only;rw [aQ (by omega),bK (by omega)]
              by_cases c2:v=s
              · rw [bY (by omega),aQ (by omega),if_pos c2];rfl
              rw [bK (by omega),if_neg c2];rfl
            rw [decide_eq_false (by omega),iteO_false]
            by_cases c2:i<=v
            · rw [if_pos c2,if_pos (show i+1<=v by omega)];rfl
            rw [if_neg c2,if_neg (show ¬ i+1<=v by omega)];rfl)
          (λz hz=>by
            rw [VF,if_neg (show ¬ n<=v by omega)]at hz;subst hz;refine ⟨_,?_,rfl⟩;show Y2 (mkP cls n) k _ _ (mkP cls n).length=_;unfold Y2;rw [bK (by omega),bK (by simp)];rfl)
          (s0:=(s,0)) (by rw [if_pos (Nat.zero_le _)])
        exact e
      rw [jS _ (by omega) (0:Int),yh,hI,hve];unfold oW;rw [Option.bind_some,if_neg (by omega)]
      by_cases c:v=s
      · rw [if_pos (by omega),if_pos c]
      rw [if_neg (by omega),if_neg c])
    (λs hI=>by
      obtain ⟨hI, -⟩:=hI;rw [List.take_of_length_le (by omega),hc]at hI;refine ⟨true,?_,rfl⟩;show YV (mkP cls n) s 256=_;unfold YV;rw [bK (by omega),VF,decide_eq_true (by rw [Option.some.inj hI])];rfl)
    (s0:=0) ⟨rfl,Nat.le_refl _⟩
  exact e
theorem vr_{cls:aj}{n:Nat}(hc:fH cls=some n)(h256:cls.length=256):Ex_ (mkP cls n)=some (cls,0):=by
  unfold Ex_;rw [vw_ hc h256,gq,Bool.not_true,iteO_false];obtain ⟨c,F,e,h⟩:=pq_ (mkP cls n);have:c=cls/\F.length=n:=ri_ (by rw [h.len,h256]) h.full hc λa b ha hb=>by
    have:=h.len;exact (h.pat (qf_ _) (by omega) (by omega)).trans (zq_ hc h256 (by omega) (by omega))
  rw [e,gq,this.1]
theorem vn_(l:List BSet)(hl:l.length<=1024): ∃cls F,Et_ l=some (mkP cls F.length,0)/\FcI (MS l) 256 cls F:=by
  unfold Et_;obtain ⟨cls,F,e,h⟩:=pq_ l;refine ⟨cls,F,?_,h⟩;rw [bK (by omega),e,gq,yw_ h.len h.full,gq]
theorem x5_ {cls : aj} {n : Nat} (hc : fH cls = some n) (h256 : cls.length = 256) : ∃ F, En_ cls = some F /\ F.length = n /\ ∀ j, j < n -> ∃ b : Nat, b < 256 /\ nth F j (0 : Int) = ((b : Nat) : Int) /\ nth cls b (0 : Int) = ((j : Nat) : Int) := by
  unfold En_;obtain ⟨r,e,h1,h2⟩:=fC (step:=λq:aj×Nat=>Y4 cls q.1 q.2) (λ(s:aj) k=>(s,k)) cls.length (λk F=>fH (cls.take k)=some F.length/\F.length<=k/\ ∀j,j<F.length-> ∃b:Nat,b<256/\nth F j (0:Int)=((b:Nat):Int)/\nth cls b (0:Int)=((j:Nat):Int)) (λF=>F.length=n/\ ∀j,j<n-> ∃b:Nat,b<256/\nth F j (0:Int)=((b:Nat):Int)/\nth cls b (0:Int)=((j:Nat):Int))
    (λk F hk hI=>by
      obtain ⟨h1,h2,h3⟩:=hI;have hp:=y0_ hc (p:=k) (by omega) h1;show (∃s',Y4 cls F k=_/\_)\/_;unfold Y4 Dk_;rw [bY (by omega),jS _ hk (0:Int),yh,h1];unfold oW;rw [Option.bind_some,if_neg (by omega)]
      by_cases c:nth cls k (0:Int)=((F.length:Nat):Int)
      · rw [bY c,if_pos c,aQ (by rw [dN];omega)]
        refine .inl ⟨_,rfl,by rw [gu,dN],by rw [gu,dN];omega,λj hj=> ?_⟩;rw [gu,dN]at hj
        by_cases e:j=F.length
        · subst e;exact ⟨k,by omega,sG _ _ _,c⟩
        rw [rY _ _ _ _ (by omega)];exact h3 j (by omega)
      rw [bK c,if_neg c];exact .inl ⟨F,rfl,rfl,by omega,h3⟩)
    (λF hI=>by
      obtain ⟨h1, -,h3⟩:=hI;rw [List.take_length,hc]at h1;have hl:=Option.some.inj h1;refine ⟨F,?_,hl.symm,λj hj=>h3 j (by omega)⟩;show Y4 cls F cls.length=_;unfold Y4;rw [bK (by omega)];rfl)
    (s0:=[]) ⟨rfl,Nat.le_refl _,λj hj=>by cases hj⟩
  exact ⟨r,e,h1,h2⟩
theorem vv_ (l : List Arrow) (hl : l.length <= 1000000) : ∃ r, Em_ l = some r /\ (∀ e ∈ l, e.set ∈ r) /\ r.length <= l.length := by
  unfold Em_;obtain ⟨r,e,h⟩:=fC (step:=λq:(List BSet)×Nat=>Y5 l q.1 q.2) (λ(s:List BSet) k=>(s,k)) l.length (λk s=>(∀e∈l.take k,e.set∈s)/\s.length<=k) (λr=>(∀e∈l,e.set∈r)/\r.length<=l.length)
    (λk s hk hI=>by
      obtain ⟨h1,h2⟩:=hI;show (∃s',Y5 l s k=_/\_)\/_;unfold Y5;rw [bY (by omega),jS _ hk Arrow.zero];obtain ⟨x,hx⟩: ∃x,(nth l k Arrow.zero).set=x:=⟨_,rfl⟩;obtain ⟨r,e,s',rfl,h3,h4,h5⟩:=fC (step:=λq:Bool×Nat=>Y3 s l k q.1 q.2) (λ(t:Bool) j=>(t,j)) s.length (λj t=>t=true->x∈s) (λr=> ∃s',r= .inl (s',k+1)/\(∀y∈s,y∈s')/\x∈s'/\s'.length<=s.length+1)
        (λj t hj hI=>by
          show (∃s',Y3 s l k t j=_/\_)\/_;unfold Y3 Di_;rw [bY (by omega),hx];cases t with
          |true=>rw [iteO_true];exact .inl ⟨true,rfl,hI⟩
          |false=>rw [iteO_false];exact .inl ⟨_,rfl,λq=>by rw [<-Gu q];exact jB hj BSet.zero⟩)
        (λt hI=>by
          show ∃r,Y3 s l k t s.length=_/\_;unfold Y3 Dj_;rw [bK (by omega),hx];cases t with
          |true=>rw [Bool.not_true,iteO_false];exact ⟨_,rfl,s,rfl,λy hy=>hy,hI rfl,by omega⟩
          |false=>
            rw [Bool.not_false,iteO_true,aQ (by rw [dN];omega)];exact ⟨_,rfl,s++[x],rfl,λy hy=>List.mem_append_left _ hy,List.mem_append_right _ (List.mem_singleton.2 rfl),by rw [gu,dN];omega⟩)
        (s0:=false) (λq=>by cases q)
      refine .inl ⟨s',e,λz hz=> ?_,by omega⟩;rcases List.mem_append.1 hz with hz|hz
      · exact h3 _ (h1 z hz)
      rw [List.mem_singleton.1 hz,hx];exact h4)
    (λs hI=>by
      obtain ⟨h1,h2⟩:=hI;rw [List.take_length]at h1;refine ⟨s,?_,h1,h2⟩;show Y5 l s l.length=_;unfold Y5;rw [bK (by omega)];rfl)
    (s0:=[]) ⟨λe he=>(by cases he),Nat.le_refl _⟩
  exact ⟨r,e,h⟩
end Go.Proofs.YtcfgkcfcddfccaaGreatDoor
end

noncomputable section
namespace Go.E
open Go
structure Grow where
  f:Fst
  over:Bool
def TB(X:Ctx)(R:Exit->Act->World->Prop)(c:Code)(e:Env)(σ:ak)(H:List Res):Prop:=
  ∀w a,RM X a σ w H->St X.n e a->c.wpIn (fence X.rnd) 0 X.P R a w
def TLB(X:Ctx)(ops:Array Oper)(R:Exit->Act->World->Prop)(l:List Oper)(e:Env)(σ:ak)(H:List Res):Prop:=
  ∀w a,RM X a σ w H->St X.n e a->wpListIn (fence X.rnd) 0 X.P ops R l a w
def endE(w0:World)(C:List Nat)(σ0:ak)(Post:Value->ak->List Res->Prop):Ending->World->Prop:=
  λe w'=> ∃r σ' H',e= .returned r/\Post r σ' H'/\Reach w0 C σ0 σ' w' H'
def endR(P:Program)(fn:Func)(w0:World)(C:List Nat)(σ0:ak)(Post:Value->ak->List Res->Prop):Exit->Act->World->Prop:=
  bodyPostM (fence none) 0 P fn (endE w0 C σ0 Post)
theorem yk_{args:List Value}{n:Nat}{fn:Func}(hn:fn.ntmps=n)(ha:Nat.ble args.length n=true):St n (Vw args) {tmps:=args.toArray++Array.replicate (fn.ntmps - args.toArray.size) undef,defers:=[]}:=by
  have:=Nat.le_of_ble_eq_true ha;refine ⟨?_,λt=> ?_⟩
  · simp [hn];omega
  simp only [Array.getD_eq_getD_getElem?,Array.getElem?_append,Vw,List.getElem?_toArray,List.size_toArray,Array.getElem?_replicate]
  split
  · rfl
  rename_i hlt
  rw [List.getElem?_eq_none (by omega)]
  split<;>rfl
theorem MarksOk.start{w0:World}{σ:ak}{H:List Res}{w:World}:MarksOk w0 none (some []) [] σ H w:=⟨(λh=>by cases h),(λ_ h=>by cases h;rfl),λ_ h=>by cases h⟩
theorem Con.mkD{P:Program}{f:FuncId}{fn:Func}{c:Code}{args:List Value}{n:Nat}{σ:ak}{H:List Res}{Post:Value->ak->List Res->Prop}
    (hf:P.funcs[f]? =some fn) (hb:fn.body=some c) (hn:fn.ntmps=n) (ha:Nat.ble args.length n=true)
    (h: ∀w0,TB ⟨P,w0,fV H,σ,n,none,some []⟩ (endR P fn w0 (fV H) σ Post) c (Vw args) σ H):Con P f args.toArray σ H Post:=by
  intro w hw;exact ir_.1 (callsIn_of_wp_marks (F:=fence none) (n:=0) hf hb trivial (h w w _ ⟨hw,MarksOk.start⟩ (yk_ hn ha)))
def ConD(P:Program)(f:FuncId)(args:Array Value)(σ:ak)(H:List Res)(Post:Value->ak->List Res->Prop):Prop:=
  ∀w,Reach w (fV H) σ σ w H->CallsDIn (fence none) 0 P f args .returning w λe u w'=>u= .returning/\ ∃r σ' H',e= .returned r/\Post r σ' H'/\Reach w (fV H) σ σ' w' H'
theorem ConD.mono{P:Program}{f:FuncId}{args:Array Value}{σ:ak}{H:List Res}{Post Post':Value->ak->List Res->Prop}
    (h:ConD P f args σ H Post) (hp: ∀r σ' H',σ.le σ'->Post r σ' H'->Post' r σ' H'):ConD P f args σ H Post':=λw hw=>
  (h w hw).mono λ_ _ _ ⟨h0,r,σ',H',h1,h2,h3⟩=>⟨h0,r,σ',H',h1,hp _ _ _ h3.le h2,h3⟩
theorem ConD.mk{P:Program}{f:FuncId}{fn:Func}{c:Code}{args:List Value}{n:Nat}{σ:ak}{H:List Res}{Post:Value->ak->List Res->Prop}
    (hf:P.funcs[f]? =some fn) (hb:fn.body=some c) (hn:fn.ntmps=n) (ha:Nat.ble args.length n=true)
    (h: ∀w0,TC ⟨P,w0,fV H,σ,n,none,some []⟩ (retQ P fn n Post) c (Vw args) σ H):ConD P f args.toArray σ H Post:=by
  intro w hw;refine callsDIn_of_wp hf hb trivial (Go.wpIn_mono (h w w _ ⟨hw,MarksOk.start⟩ (yk_ hn ha)) ?_);rintro ex a w' ⟨e',σ',H',h1,h2,⟨hex,r,H'',h3,h4,h5⟩⟩;have hd:a.defers=[]:=h2.marks.is _ rfl;have hfin:a.defers=[]/\ ∃v,(results fn a.tmps).run P w'= .ok v w'/\(∃r σ' H',Ending.returned v= .returned r/\Post r σ' H'/\Reach w (fV H) σ σ' w' H'):=
    ⟨hd,r,h3 w' a h1 h2.holds,r,σ',H'',rfl,h5,h2.toReach.sub h4⟩
  rcases hex with rfl|rfl
  · exact hfin
  exact hfin
section rules
variable {X:Ctx} {ops:Array Oper} {R:Exit->Act->World->Prop} {Q:QP} {e:Env} {σ:ak} {H F:List Res} {o:Oper} {rest:List Oper} {c c1 c2:Code} {fn:Func} {Post:Value->ak->List Res->Prop}
theorem ZK{P:Program}{w0:World}{C:List Nat}{σ0:ak}{n:Nat}: ∀ex a w,low ⟨P,w0,C,σ0,n,none,some []⟩ (retQ P fn n Post) ex a w->endR P fn w0 C σ0 Post ex a w:=by
  rintro ex a w ⟨e,σ,H,h1,h2,⟨hex,r,H',h3,h4,h5⟩⟩;have hd:a.defers=[]:=h2.marks.is _ rfl;have hfin:LeavesInM (fence none) 0 P fn a.tmps (endE w0 C σ0 Post) a.defers .returning w:=by
    rw [hd];exact ⟨r,h3 w a h1 h2.holds,r,σ,H',rfl,h5,h2.toReach.sub h4⟩
  rcases hex with rfl|rfl
  · exact hfin
  exact hfin
def dfrQ(P:Program)(fn:Func)(n:Nat)(Post:Value->ak->List Res->Prop)(f:FuncId)(args:List Value):QP:=λex e σ H=>
  (ex= .ret\/ex= .normal)/\ ∃F,Sub F H/\ConD P f args.toArray σ F λ_ σ' H'=>RetOk P fn n Post .ret e σ' H'
theorem ul_{P:Program}{w0:World}{C:List Nat}{σ0:ak}{n:Nat}{f:FuncId}{cap dargs:List Value}(hp:plainF P f=true):
    ∀ex a w,low ⟨P,w0,C,σ0,n,none,some [⟨.fn (.func f) cap.toArray,dargs.toArray⟩]⟩ (dfrQ P fn n Post f (dargs++cap)) ex a w->endR P fn w0 C σ0 Post ex a w:=by
  rintro ex a w ⟨e,σ,H,h1,h2,hex,F,hs,hcon⟩;have hd:a.defers=[⟨.fn (.func f) cap.toArray,dargs.toArray⟩]:=h2.marks.is _ rfl;have h3:Reach w0 C σ0 σ w F:=h2.toReach.iH hs;have hfin:LeavesInM (fence none) 0 P fn a.tmps (endE w0 C σ0 Post) a.defers .returning w:=by
    rw [hd];refine ⟨by simp,.inr ⟨(λh=>by cases h),.func f,cap.toArray,f,(dargs++cap).toArray,rfl,?_,(λ_ _=>trivial),(hcon w h3.self).mono ?_⟩⟩
    · simp [invoke,ZY hp]
    rintro _ _ w' ⟨rfl,r,σ',H',rfl,⟨-,v,H'',h4,h5,h6⟩,h7⟩;have h8:Reach w0 C σ0 σ' w' H':=by
      have:=(show Reach w0 C σ0 σ w (F++[]) by rwa [List.append_nil]).call h7
      rwa [List.append_nil]at this
    exact ⟨v,h4 w' a h1 h8.holds,v,σ',H'',rfl,h6,h8.sub h5⟩
  rcases hex with rfl|rfl
  · exact hfin
  exact hfin
theorem TB.seq(hR: ∀ex a w,low X Q ex a w->R ex a w)(h:TC X (seqQ (TB X R c2) Q) c1 e σ H):TB X R (.seq c1 c2) e σ H:=λw a hw ha=>
  Go.wpIn_seq (Go.wpIn_mono (h w a hw ha) λex a' w' ⟨e',σ',H',h1,h2,h3⟩=>by
    cases ex
    case normal=>exact h3 w' a' h2 h1
    all_goals exact hR _ _ _ ⟨e',σ',H',h1,h2,h3⟩)
theorem TB.fin(hR: ∀ex a w,low X Q ex a w->R ex a w)(h:TC X Q c e σ H):TB X R c e σ H:=λw a hw ha=>Go.wpIn_mono (h w a hw ha) (hR)
theorem TLB.v{v:Value}{d:Nat}(hg:o.guard=none)(h:OpVal X.P X.n o e σ H v)(hd:o.dst=some d)(hn:Nat.blt d X.n=true)(k:TLB X ops R rest (upd e d v) σ H):TLB X ops R (o::rest) e σ H:=λw a hw ha=>
  wpListIn_plain hg λK hK=>(OpVal.ok h hd hn (K:=λe' σ' H'=>TLB X ops R rest e' σ' H') k).at hw ha λe' σ' H' a' w' hk hw' ha'=>hK a' w' (hk w' a' hw' ha')
theorem TLB.op(hg:o.guard=none)(h:OpOk X o e σ H (TLB X ops R rest)):TLB X ops R (o::rest) e σ H:=λw a hw ha=>
  wpListIn_plain hg λK hK=>h.at hw ha λe' σ' H' a' w' hk hw' ha'=>hK a' w' (hk w' a' hw' ha')
theorem TLB.dfr{P:Program}{w0:World}{C:List Nat}{σ0:ak}{n:Nat}{f:FuncId}{cap first:Array Value}{x:Operand}{opds:Array Operand}{ts:Array TypeId}{dargs:List Value}
    (hg:o.guard=none) (hop:o.op= .defer {callee:= .value x,args:=opds,argTypes:=ts}) (hx:ev e x= .func (.func f) first cap) (hd:o.dst=none) (ha:first.toList++opds.toList.map (ev e)=dargs)
    (hK: ∀a w,RM ⟨P,w0,C,σ0,n,none,some [⟨.fn (.func f) cap,dargs.toArray⟩]⟩ a σ w H->St n e a->R .normal a w):
    TLB ⟨P,w0,C,σ0,n,none,some []⟩ ops R [o] e σ H:=λw a hw hst=>by
  have ha':first++opds.map (ev e)=dargs.toArray:=by apply Array.ext';rw [<-ha];simp
  refine wpListIn_plain hg λK hK'=>⟨(λ_ _=>trivial),?_⟩;have hs:(o.semAt (fence none).round a.eval).run P w= .ok (.defer ⟨.fn (.func f) cap,dargs.toArray⟩) w:=by
    rw [hst.eval',<-ha'];simp [Oper.semAt,execOp,hop,resolve,hx,Deferred.ofValue]
  show Oper.uponIn _ _ _ _ _ _ _ ((o.semAt (fence none).round a.eval).run P w);rw [hs,Oper.uponIn_defer,hd];have h0:a.defers=[]:=hw.marks.is _ rfl;refine hK' _ _ (hK _ _ ⟨?_,⟨(λh=>by cases h),(λl h=> ?_),λ_ h=>by cases h⟩⟩ ⟨hst.size,hst.get⟩)
  · exact hw.toReach
  cases h;show _::a.defers=_;rw [h0]
theorem TB.seqD{id:Nat}{l:List Oper}(h:TLB X l.toArray (λex a w=>match ex with| .normal=>c2.wpIn (fence X.rnd) 0 X.P R a w|ex=>R ex a w) l e σ H):TB X R (.seq (.region id l.toArray false) c2) e σ H:=λw a hw ha=>
  Go.wpIn_seq (Go.wpIn_mono (wpIn_region_lit (h w a hw ha)) λex a' w' hq=>by cases ex<;>exact hq)
end rules
end Go.E
end
