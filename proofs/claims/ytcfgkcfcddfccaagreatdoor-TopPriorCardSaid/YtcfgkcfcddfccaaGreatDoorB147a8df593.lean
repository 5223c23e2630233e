/- Parts of a proof, one behind the other: what a machine reaches, functions decompiled, plain lemmas. Conditions stand with each lemma. -/
import Derived.Shelf.SlSortCmp.NoneTotal
import Derived.Shelf.Sort.Plain
import Derived.Test.YtcfgkcfcddfccaaGreatDoorChecked
import Derived.ProofKit
import Derived.OrdersHeld
import Derived.Laws.AppendOwn
import Derived.Laws.OwnMore
import Derived.Laws.MakeOwn
import Derived.Laws.StructEq
import Derived.Maps.OwnSet
import Derived.Maps.OwnOps
import Derived.RangeFuncNested
import Derived.RangeFuncLeaves
import Derived.OrdersIn
import Derived.TacticsIn
import Derived.Laws.IdiomStrings
import Derived.Laws.Strings2
import Derived.Scope
import Derived.KernelRfl
import Derived.Laws.Strings3
import Derived.Laws.Concat
import Derived.MapKept
import Derived.Lib.AppendZerosOnto
import Derived.Maps.RangeRun
import Derived.Laws.BytesArg
import Derived.Lib.Bytealg
import Derived.Shelf.Slices.In.SortNone
import Derived.Test.YtcfgkcfcddfccaaGreatDoorProg

namespace Go.E
theorem z {α : Sort _} {a : α} : a = a := rfl
theorem vN {k:IntKind}{x:Int}(h:0<=x):Value.int k x=Value.int k ((x.toNat:Nat):Int):=by rw [Int.toNat_of_nonneg h]
abbrev T_1:=List UInt8
abbrev bC:=List T_1
abbrev iC:=List bC
abbrev ah:=List Int
abbrev aO:=List ah
abbrev B_1:=List Bool
theorem iK{α:Type _}{xs ys:List α}:(xs++ys).length=xs.length+ys.length:=List.length_append
theorem fV{α:Type _}{xs:List α}{i:Nat}{a:α}:(xs.set i a).length=xs.length:=List.length_set
theorem jm{α:Type _}{a:α}:[a].length=1:=List.length_singleton
theorem iU{α:Type _}{a:α}{l:List α}:a∈a::l:=List.mem_cons_self
theorem JC{α:Type _}{a b:α}:a∈[b]↔a=b:=List.mem_singleton
theorem nI(n:Nat):(n:Int).toNat=n:=Int.toNat_natCast n
theorem FV{α:Type _}{l:List α}:l.length=0->l=[]:=List.eq_nil_of_length_eq_zero
theorem Xf{p:Prop}[inst:Decidable p]:decide p=true->p:=of_decide_eq_true
theorem df_{p:Prop}[inst:Decidable p]:decide p=false->¬p:=of_decide_eq_false
theorem rM{α:Type _}(y:α){a:α}{l:List α}:a∈l->a∈y::l:=List.mem_cons_of_mem y
theorem iL{p:Prop}[inst:Decidable p]:(decide p=true)=p:=decide_eq_true_eq
theorem oI{α:Type _}{n:Nat}{a:α}:(List.replicate n a).length=n:=List.length_replicate
theorem Gf{α:Type _}(xs ys zs:List α):xs++ys++zs=xs++(ys++zs):=List.append_assoc xs ys zs
end Go.E

set_option linter.unusedVariables false
set_option linter.unusedSimpArgs false
set_option linter.unusedSectionVars false
set_option maxRecDepth 100000
set_option maxHeartbeats 8000000

noncomputable section
namespace Go.Proofs.YtcfgkcfcddfccaaGreatDoor
open Go Go.Shelf
def v2_:Go.Shelf.Ren:=⟨fun|189=>128|125=>176|257=>175|128=>206|129=>207|294=>197|295=>198|296=>199|297=>200|298=>201|299=>202|216=>203|300=>204|301=>205|328=>230|329=>231|330=>232|331=>233|332=>234|215=>190|343=>251|n=>n,fun|28=>31|3=>3|46=>181|0=>0|51=>263|53=>45|4=>4|183=>257|182=>256|131=>158|5=>5|9=>9|218=>276|222=>280|228=>293|229=>294|n=>n,fun|n=>n⟩
theorem layInt:Go.Proofs.Lays.n189 Tryz.prog v2_:={
  mixed:=by kernel_rfl,
  f125:=Tryz.func176.trans (congrArg some (by kernel_rfl)),
  f128:=Tryz.func206.trans (congrArg some (by kernel_rfl)),
  f129:=Tryz.func207.trans (congrArg some (by kernel_rfl)),
  f189:=Tryz.func128.trans (congrArg some (by kernel_rfl)),
  f215:=Tryz.func190.trans (congrArg some (by kernel_rfl)),
  f216:=Tryz.func203.trans (congrArg some (by kernel_rfl)),
  f257:=Tryz.func175.trans (congrArg some (by kernel_rfl)),
  f294:=Tryz.func197.trans (congrArg some (by kernel_rfl)),
  f295:=Tryz.func198.trans (congrArg some (by kernel_rfl)),
  f296:=Tryz.func199.trans (congrArg some (by kernel_rfl)),
  f297:=Tryz.func200.trans (congrArg some (by kernel_rfl)),
  f298:=Tryz.func201.trans (congrArg some (by kernel_rfl)),
  f299:=Tryz.func202.trans (congrArg some (by kernel_rfl)),
  f300:=Tryz.func204.trans (congrArg some (by kernel_rfl)),
  f301:=Tryz.func205.trans (congrArg some (by kernel_rfl)),
  f328:=Tryz.func230.trans (congrArg some (by kernel_rfl)),
  f329:=Tryz.func231.trans (congrArg some (by kernel_rfl)),
  f330:=Tryz.func232.trans (congrArg some (by kernel_rfl)),
  f331:=Tryz.func233.trans (congrArg some (by kernel_rfl)),
  f332:=Tryz.func234.trans (congrArg some (by kernel_rfl)),
  f343:=Tryz.func251.trans (congrArg some (by kernel_rfl)),
  t0:=Tryz.underlying0,
  a0:=Tryz.isAgg0,
  z0:=Tryz.sizeOf0,
  v0:=Tryz.zeroValue0,
  t3:=Tryz.underlying3,
  a3:=Tryz.isAgg3,
  z3:=Tryz.sizeOf3,
  v3:=Tryz.zeroValue3,
  t4:=Tryz.underlying4,
  a4:=Tryz.isAgg4,
  z4:=Tryz.sizeOf4,
  v4:=Tryz.zeroValue4,
  t5:=Tryz.underlying5,
  a5:=Tryz.isAgg5,
  z5:=Tryz.sizeOf5,
  v5:=Tryz.zeroValue5,
  t9:=Tryz.underlying9,
  a9:=Tryz.isAgg9,
  z9:=Tryz.sizeOf9,
  v9:=Tryz.zeroValue9,
  t28:=Tryz.underlying31,
  a28:=Tryz.isAgg31,
  z28:=Tryz.sizeOf31,
  v28:=Tryz.zeroValue31,
  t46:=Tryz.underlying181,
  a46:=Tryz.isAgg181,
  z46:=Tryz.sizeOf181,
  v46:=Tryz.zeroValue181,
  t51:=Tryz.underlying263,
  a51:=Tryz.isAgg263,
  z51:=Tryz.sizeOf263,
  v51:=Tryz.zeroValue263,
  t53:=Tryz.underlying45,
  a53:=Tryz.isAgg45,
  z53:=Tryz.sizeOf45,
  v53:=Tryz.zeroValue45,
  t131:=Tryz.underlying158,
  a131:=Tryz.isAgg158,
  z131:=Tryz.sizeOf158,
  v131:=Tryz.zeroValue158,
  t182:=Tryz.underlying256,
  a182:=Tryz.isAgg256,
  z182:=Tryz.sizeOf256,
  v182:=Tryz.zeroValue256,
  t183:=Tryz.underlying257,
  a183:=Tryz.isAgg257,
  z183:=Tryz.sizeOf257,
  v183:=Tryz.zeroValue257,
  t218:=Tryz.underlying276,
  a218:=Tryz.isAgg276,
  z218:=Tryz.sizeOf276,
  v218:=Tryz.zeroValue276,
  t222:=Tryz.underlying280,
  a222:=Tryz.isAgg280,
  z222:=Tryz.sizeOf280,
  v222:=Tryz.zeroValue280,
  t228:=Tryz.underlying293,
  a228:=Tryz.isAgg293,
  z228:=Tryz.sizeOf293,
  v228:=Tryz.zeroValue293,
  t229:=Tryz.underlying294,
  a229:=Tryz.isAgg294,
  z229:=Tryz.sizeOf294,
  v229:=Tryz.zeroValue294}
end Go.Proofs.YtcfgkcfcddfccaaGreatDoor
end

noncomputable section
namespace Go.E
open Go
theorem Ol(w:World)(o:Obj)(k:Nat)(h:k<w.heap.size):(w.alloc o).heap[k]? =w.heap[k]? :=by
  show (w.heap.push o)[k]? =w.heap[k]?;rw [Array.getElem?_push,if_neg (Nat.ne_of_lt h)]
abbrev Env:=Nat->Value
abbrev aj:=Nat->Option Obj
def upd(e:Env)(d:Nat)(v:Value):Env:=λt=>if t=d then v else e t
def mask(M:List Nat)(j e:Env):Env:=λt=>if M.contains t then j t else e t
def ev(e:Env):Operand->Value
  | .tmp t=>e t
  | .const v=>v
  | .global g=> .pointer (some ⟨g,0,none⟩)
  | .func f=> .func (.func f) #[] #[]
structure St (n:Nat) (e:Env) (a:Act):Prop where
  size:a.tmps.size=n
  get: ∀t,a.tmps.getD t undef=e t
theorem St.eval{n:Nat}{e:Env}{a:Act}(h:St n e a)(x:Operand):a.eval x=ev e x:=by
  cases x with
  |tmp t=>exact h.get t
  |_=>rfl
theorem St.eval'{n:Nat}{e:Env}{a:Act}(h:St n e a):a.eval=ev e:=funext h.eval
theorem St.put{n:Nat}{e:Env}{a:Act}(h:St n e a){d:Nat}(hd:d<n)(v:Value):St n (upd e d v) (a.put (some d) v):=by
  refine ⟨by simp [Act.put,h.size],λt=> ?_⟩;have hg:=h.get t;have hs:=h.size;simp only [Act.put,upd,Array.getD_eq_getD_getElem?,Array.getElem?_setIfInBounds]at *
  by_cases ht:t=d
  · subst ht;simp [hs,hd]
  have: ¬ d=t:=λx=>ht x.symm;simp [this,ht,hg]
structure StD (n:Nat) (e:Env) (a0 a:Act):Prop extends St n e a where
  same:a.defers=a0.defers
theorem St.d{n:Nat}{e:Env}{a:Act}(h:St n e a):StD n e a a:=⟨h,rfl⟩
structure Res where
  bl:List Nat
  holds:World->Prop
  lt: ∀w b,b∈bl->holds w->b<w.heap.size
  keep: ∀w w',(∀b,b∈bl->w'.heap[b]? =w.heap[b]?)->holds w->holds w'
theorem Res.d4_{r:Res}{w w':World}(h: ∀b,b<w.heap.size->b∈r.bl->w'.heap[b]? =w.heap[b]?)(hr:r.holds w):r.holds w':=
  r.keep w w' (λb hb=>h b (r.lt w b hb hr) hb) hr
abbrev fJ(H:List Res):List Nat:=H.flatMap Res.bl
def aj.le(σ τ:aj):Prop:= ∀b o,σ b=some o->τ b=some o
theorem aj.le.refl(σ:aj):σ.le σ:=λ_ _ h=>h
theorem aj.le.trans{a b c:aj}(h:a.le b)(k:b.le c):a.le c:=λi o hi=>k i o (h i o hi)
structure Reach (w0:World) (C:List Nat) (σ0 σ:aj) (w:World) (H:List Res):Prop where
  os:w.os=w0.os
  tape:w.tape=w0.tape
  output:w.output=w0.output
  size:w0.heap.size<=w.heap.size
  frame: ∀k,k<w0.heap.size->k∉C->w.heap[k]? =w0.heap[k]?
  le:σ0.le σ
  fit: ∀b o,σ b=some o->w.heap[b]? =some o
  fresh: ∀b o,σ b=some o->σ0 b=some o\/b∈C\/w0.heap.size<=b
  holds: ∀r∈H,r.holds w
  own: ∀r∈H, ∀b,b∈r.bl->b∈C\/w0.heap.size<=b
  nodup:(fJ H).Nodup
  apart: ∀r∈H, ∀b,b∈r.bl->σ b=none
  drawn:w0.drawn<=w.drawn
def Con(P:Program)(f:FuncId)(args:Array Value)(σ:aj)(H:List Res)(Post:Value->aj->List Res->Prop):Prop:=
  ∀w,Reach w (fJ H) σ σ w H->Calls P f args w λe w'=> ∃r σ' H',e= .returned r/\Post r σ' H'/\Reach w (fJ H) σ σ' w' H'
theorem Reach.self{w0:World}{C:List Nat}{σ0 σ:aj}{w:World}{H:List Res}(h:Reach w0 C σ0 σ w H):Reach w (fJ H) σ σ w H:=
  ⟨rfl,rfl,rfl,Nat.le_refl _,λ_ _ _=>rfl,aj.le.refl _,h.fit,λ_ _ hb=> .inl hb,h.holds,λr hr b hb=> .inl (by simp only [fJ,List.mem_flatMap];exact ⟨r,hr,hb⟩),h.nodup,h.apart,Nat.le_refl _⟩
theorem xk{H:List Res}{b:Nat}:b∈fJ H↔ ∃r∈H,b∈r.bl:=by simp [fJ,List.mem_flatMap]
theorem Reach.block_lt{w0:World}{C:List Nat}{σ0 σ:aj}{w:World}{H:List Res}(h:Reach w0 C σ0 σ w H){r:Res}(hr:r∈H){b:Nat}(hb:b∈r.bl):b<w.heap.size:=
  r.lt w b hb (h.holds r hr)
theorem Yz{a b:List Nat}:(a++b).Nodup↔a.Nodup/\b.Nodup/\ ∀x∈a,x∉b:=by
  rw [List.nodup_append];constructor
  · rintro ⟨h1,h2,h3⟩;exact ⟨h1,h2,λx hx hy=>h3 x hx x hy rfl⟩
  rintro ⟨h1,h2,h3⟩;exact ⟨h1,h2,λx hx y hy hxy=>h3 x hx (hxy▸hy)⟩
theorem Reach.call{w0:World}{C:List Nat}{σ0 σ σ':aj}{w w':World}{H1 F Jv:List Res}(h:Reach w0 C σ0 σ w (H1++F))
    (k:Reach w (fJ H1) σ σ' w' Jv):Reach w0 C σ0 σ' w' (Jv++F):=by
  have hnd:(fJ H1++fJ F).Nodup:=by have:=h.nodup;simpa [fJ,List.flatMap_append]using this
  obtain ⟨n1,n2,n3⟩:=Yz.1 hnd;have hF: ∀r∈F, ∀b,b∈r.bl->b<w.heap.size/\b∉fJ H1:=λr hr b hb=>
    ⟨h.block_lt (List.mem_append_right _ hr) hb,λhx=>n3 b hx (xk.2 ⟨r,hr,hb⟩)⟩
  have hC: ∀b∈fJ H1,b∈C\/w0.heap.size<=b:=λb hb=>by
    obtain ⟨r,hr,hrb⟩:=xk.1 hb;exact h.own r (List.mem_append_left _ hr) b hrb
  refine ⟨k.os.trans h.os,k.tape.trans h.tape,k.output.trans h.output,Nat.le_trans h.size k.size,?_,h.le.trans k.le,k.fit,?_,?_,?_,?_,?_,Nat.le_trans h.drawn k.drawn⟩
  · intro i hi hiC
    rw [k.frame i (Nat.lt_of_lt_of_le hi h.size) (λhx=> ?_),h.frame i hi hiC];rcases hC i hx with hc|hc
    · exact hiC hc
    omega
  · intro b o hb
    rcases k.fresh b o hb with h1|h1|h1
    · exact h.fresh b o h1
    · exact .inr (hC b h1)
    exact .inr (.inr (Nat.le_trans h.size h1))
  · intro r hr
    rcases List.mem_append.1 hr with hr|hr
    · exact k.holds r hr
    exact r.d4_ (λb hb hrb=>k.frame b hb (hF r hr b hrb).2) (h.holds r (List.mem_append_right _ hr))
  · intro r hr b hb
    rcases List.mem_append.1 hr with hr|hr
    · rcases k.own r hr b hb with h1|h1
      · exact hC b h1
      exact .inr (Nat.le_trans h.size h1)
    exact h.own r (List.mem_append_right _ hr) b hb
  · have:fJ (Jv++F)=fJ Jv++fJ F:=by simp [fJ,List.flatMap_append]
    rw [this,Yz];refine ⟨k.nodup,n2,λx hx hxF=> ?_⟩;obtain ⟨r,hr,hrb⟩:=xk.1 hx;obtain ⟨r',hr',hrb'⟩:=xk.1 hxF;have:=hF r' hr' x hrb';rcases k.own r hr x hrb with h1|h1
    · exact this.2 h1
    omega
  intro r hr b hb;rcases List.mem_append.1 hr with hr|hr
  · exact k.apart r hr b hb
  cases hs:σ' b with
  |none=>rfl
  |some o=>
    have h0:=h.apart r (List.mem_append_right _ hr) b hb;have hf:=hF r hr b hb;rcases k.fresh b o hs with h1|h1|h1
    · rw [h0]at h1;cases h1
    · exact absurd h1 hf.2
    omega
theorem Reach.drew{w0:World}{C:List Nat}{σ0 σ:aj}{w:World}{H:List Res}(h:Reach w0 C σ0 σ w H):Reach w0 C σ0 σ w.drew H:=by
  have hk: ∀r∈H,r.holds w.drew:=λr hr=>r.keep w w.drew (λ_ _=>rfl) (h.holds r hr);exact ⟨h.os,h.tape,h.output,h.size,h.frame,h.le,h.fit,h.fresh,hk,h.own,h.nodup,h.apart,Nat.le_trans h.drawn (Nat.le_succ _)⟩
theorem sub_blks{H H':List Res}(h:H'.Sublist H):(fJ H').Sublist (fJ H):=by
  induction h with
  |slnil=>exact List.Sublist.refl _
  |cons a _ ih=>simp only [fJ,List.flatMap_cons]at ih ⊢;exact ih.trans (List.sublist_append_right _ _)
  |cons_cons a _ ih=>simp only [fJ,List.flatMap_cons]at ih ⊢;exact (List.Sublist.refl _).append ih
theorem xm_{H H':List Res}(h:H'.Perm H):(fJ H').Perm (fJ H):=h.flatMap_right _
theorem Reach.sub{w0:World}{C:List Nat}{σ0 σ:aj}{w:World}{H H':List Res}(h:Reach w0 C σ0 σ w H)(hs:H'.Sublist H):Reach w0 C σ0 σ w H':=by
  have hm: ∀r∈H',r∈H:=λr hr=>hs.subset hr;exact ⟨h.os,h.tape,h.output,h.size,h.frame,h.le,h.fit,h.fresh,λr hr=>h.holds r (hm r hr),λr hr=>h.own r (hm r hr),(sub_blks hs).nodup h.nodup,λr hr=>h.apart r (hm r hr),h.drawn⟩
theorem Reach.perm{w0:World}{C:List Nat}{σ0 σ:aj}{w:World}{H H':List Res}(h:Reach w0 C σ0 σ w H)(hp:H'.Perm H):Reach w0 C σ0 σ w H':=by
  have hm: ∀r∈H',r∈H:=λr hr=>hp.subset hr;exact ⟨h.os,h.tape,h.output,h.size,h.frame,h.le,h.fit,h.fresh,λr hr=>h.holds r (hm r hr),λr hr=>h.own r (hm r hr),(xm_ hp).nodup_iff.2 h.nodup,λr hr=>h.apart r (hm r hr),h.drawn⟩
theorem Reach.turn{w0:World}{C:List Nat}{σ0 σ:aj}{w w':World}{r r':Res}{F:List Res}(h:Reach w0 C σ0 σ w (r::F))
    (hos:w'.os=w.os) (ht:w'.tape=w.tape) (ho:w'.output=w.output) (hs:w.heap.size<=w'.heap.size) (hdr:w.drawn<=w'.drawn)
    (hb: ∀k,k<w.heap.size->k∉r.bl->w'.heap[k]? =w.heap[k]?)
    (hh:r'.holds w') (hbk: ∀b,b∈r'.bl->b∈r.bl\/w.heap.size<=b) (hnd:r'.bl.Nodup):Reach w0 C σ0 σ w' (r'::F):=by
  have hC: ∀k,k∈fJ [r]↔k∈r.bl:=λk=>by simp [fJ]
  refine Reach.call (H1:=[r]) (Jv:=[r']) h ⟨hos,ht,ho,hs,λk hk hkn=>hb k hk (λhx=>hkn ((hC k).2 hx)),aj.le.refl _,?_,λb o hb=> .inl hb,?_,?_,?_,?_,hdr⟩
  · intro b o hbo
    have h1:=h.fit b o hbo;rw [hb b (Array.getElem?_eq_some_iff.1 h1).1 (λhx=> ?_),h1];have:=h.apart r (iU ..) b hx;rw [this]at hbo;cases hbo
  · intro x hx;simp at hx;subst hx;exact hh
  · intro x hx b hxb;simp at hx;subst hx
    rcases hbk b hxb with h1|h1
    · exact .inl ((hC b).2 h1)
    exact .inr h1
  · simpa [fJ]using hnd
  intro x hx b hxb;simp at hx;subst hx;rcases hbk b hxb with h1|h1
  · exact h.apart r (iU ..) b h1
  cases hs':σ b with
  |none=>rfl
  |some o=>have:=(Array.getElem?_eq_some_iff.1 (h.fit b o hs')).1;omega
def Res.no:Res:=⟨[],λ_=>True,λ_ _ h=>by simp at h,λ_ _ _ _=>trivial⟩
theorem Reach.no{w0:World}{C:List Nat}{σ0 σ:aj}{w:World}{H:List Res}(h:Reach w0 C σ0 σ w H):Reach w0 C σ0 σ w (Res.no::H):=
  ⟨h.os,h.tape,h.output,h.size,h.frame,h.le,h.fit,h.fresh,
    λr hr => by    rcases List.mem_cons.1 hr with rfl | hr; · trivial
                   · exact h.holds r hr,
    λr hr b hb => by    rcases List.mem_cons.1 hr with rfl | hr; · simp [Res.no] at hb
                        · exact h.own r hr b hb,
    by have:=h.nodup;simpa [fJ,Res.no]using this,
    λr hr b hb => by    rcases List.mem_cons.1 hr with rfl | hr; · simp [Res.no] at hb
                        · exact h.apart r hr b hb,h.drawn⟩
theorem Reach.gain{w0:World}{C:List Nat}{σ0 σ:aj}{w w':World}{r':Res}{H:List Res}(h:Reach w0 C σ0 σ w H)
    (hos:w'.os=w.os) (ht:w'.tape=w.tape) (ho:w'.output=w.output) (hs:w.heap.size<=w'.heap.size) (hdr:w.drawn<=w'.drawn)
    (hb: ∀k,k<w.heap.size->w'.heap[k]? =w.heap[k]?)
    (hh:r'.holds w') (hbk: ∀b,b∈r'.bl->w.heap.size<=b) (hnd:r'.bl.Nodup):Reach w0 C σ0 σ w' (r'::H):=
  h.no.turn hos ht ho hs hdr (λk hk _=>hb k hk) hh (λb hb=> .inr (hbk b hb)) hnd
theorem Reach.F7{w0:World}{C:List Nat}{σ0 σ:aj}{w w':World}{r r':Res}{F:List Res}(o o':Option Nat)(h:Reach w0 C σ0 σ w (r::F))(e:r.bl=o.toList)(e':r'.bl=o'.toList)
    (hos:w'.os=w.os) (ht:w'.tape=w.tape) (ho:w'.output=w.output) (hs:w.heap.size<=w'.heap.size) (hdr:w.drawn<=w'.drawn)
    (hb: ∀k,k<w.heap.size->o≠some k->w'.heap[k]? =w.heap[k]?)
    (hh:r'.holds w') (hbk: ∀b,o'=some b->o=some b\/w.heap.size<=b):Reach w0 C σ0 σ w' (r'::F):=
  h.turn hos ht ho hs hdr (λk hk hn=>hb k hk λhx=>hn (by rw [e,hx];simp)) hh (λb hb'=>by
    rw [e',Option.mem_toList]at hb';rcases hbk b hb' with h1|h1
    · exact .inl (by rw [e,h1];simp)
    exact .inr h1) (by rw [e'];cases o'<;>simp)
theorem Reach.OT{w0:World}{C:List Nat}{σ0 σ:aj}{w w':World}{r':Res}{H:List Res}(o':Option Nat)(h:Reach w0 C σ0 σ w H)(e':r'.bl=o'.toList)
    (hos:w'.os=w.os) (ht:w'.tape=w.tape) (ho:w'.output=w.output) (hs:w.heap.size<=w'.heap.size) (hdr:w.drawn<=w'.drawn)
    (hb: ∀k,k<w.heap.size->w'.heap[k]? =w.heap[k]?)
    (hh:r'.holds w') (hbk: ∀b,o'=some b->w.heap.size<=b):Reach w0 C σ0 σ w' (r'::H):=
  h.gain hos ht ho hs hdr hb hh (λb hb'=>hbk b (by rw [e',Option.mem_toList]at hb';exact hb')) (by rw [e'];cases o'<;>simp)
def Res.star(H:List Res):Res where
  bl:=fJ H
  holds w:= ∀r∈H,r.holds w
  lt w b hb h:=by obtain ⟨r,hr,hrb⟩:=xk.1 hb;exact r.lt w b hrb (h r hr)
  keep w w' hb h r hr:=r.keep w w' (λb hrb=>hb b (xk.2 ⟨r,hr,hrb⟩)) (h r hr)
theorem Reach.cc_{w0:World}{C:List Nat}{σ0 σ:aj}{w:World}{G F:List Res}(h:Reach w0 C σ0 σ w (Res.star G::F)):Reach w0 C σ0 σ w (G++F):=by
  have hm: ∀r∈G, ∀b∈r.bl,b∈(Res.star G).bl:=λr hr b hb=>xk.2 ⟨r,hr,hb⟩;have hS:=iU (a:=Res.star G) (l:=F);refine ⟨h.os,h.tape,h.output,h.size,h.frame,h.le,h.fit,h.fresh,λr hr=> ?_,λr hr b hb=> ?_,?_,λr hr b hb=> ?_,h.drawn⟩
  · rcases List.mem_append.1 hr with hr|hr
    · exact h.holds _ hS r hr
    exact h.holds r (rM _ hr)
  · rcases List.mem_append.1 hr with hr|hr
    · exact h.own _ hS b (hm r hr b hb)
    exact h.own r (rM _ hr) b hb
  · have:=h.nodup
    simpa [fJ,Res.star]using this
  rcases List.mem_append.1 hr with hr|hr
  · exact h.apart _ hS b (hm r hr b hb)
  exact h.apart r (rM _ hr) b hb
theorem Reach.star{w0:World}{C:List Nat}{σ0 σ:aj}{w:World}{G F:List Res}(h:Reach w0 C σ0 σ w (G++F)):Reach w0 C σ0 σ w (Res.star G::F):=by
  refine ⟨h.os,h.tape,h.output,h.size,h.frame,h.le,h.fit,h.fresh,λr hr=> ?_,λr hr b hb=> ?_,?_,λr hr b hb=> ?_,h.drawn⟩
  · rcases List.mem_cons.1 hr with rfl|hr
    · exact λr hr=>h.holds r (List.mem_append_left _ hr)
    exact h.holds r (List.mem_append_right _ hr)
  · rcases List.mem_cons.1 hr with rfl|hr
    · obtain ⟨r,hr,hrb⟩:=xk.1 hb;exact h.own r (List.mem_append_left _ hr) b hrb
    exact h.own r (List.mem_append_right _ hr) b hb
  · have:=h.nodup
    simpa [fJ,Res.star]using this
  rcases List.mem_cons.1 hr with rfl|hr
  · obtain ⟨r,hr,hrb⟩:=xk.1 hb;exact h.apart r (List.mem_append_left _ hr) b hrb
  exact h.apart r (List.mem_append_right _ hr) b hb
def aj.with(σ:aj)(b:Nat)(o:Obj):aj:=λk=>if k=b then some o else σ k
theorem aj.d1_{σ:aj}{b:Nat}{o:Obj}(h:σ b=none):σ.le (σ.with b o):=λk x hk=>by
  unfold aj.with
  split
  · subst_vars;rw [h]at hk;cases hk
  exact hk
theorem Reach.sealB{w0:World}{C:List Nat}{σ0 σ:aj}{w:World}{r:Res}{F:List Res}(h:Reach w0 C σ0 σ w (r::F)){b:Nat}{o:Obj}(hb:r.bl=[b])(ho:w.heap[b]? =some o):
    Reach w0 C σ0 (σ.with b o) w F/\σ.le (σ.with b o):=by
  have hbm:b∈r.bl:=by rw [hb];exact List.mem_singleton.2 rfl
  have h0:=h.apart r (iU ..) b hbm;have hle:=aj.d1_ (o:=o) h0;have hF:=h.sub (List.sublist_cons_self r F);refine ⟨⟨hF.os,hF.tape,hF.output,hF.size,hF.frame,h.le.trans hle,?_,?_,hF.holds,hF.own,hF.nodup,?_,hF.drawn⟩,hle⟩
  · intro k x hk
    unfold aj.with at hk
    split at hk
    · subst_vars;rw [ho];exact hk
    exact h.fit k x hk
  · intro k x hk
    unfold aj.with at hk
    split at hk
    · subst_vars;exact .inr (h.own r (iU ..) _ hbm)
    exact h.fresh k x hk
  intro r' hr' k hk;unfold aj.with
  split
  · subst_vars
    have hnd:=h.nodup;simp only [fJ,List.flatMap_cons,hb,List.singleton_append,List.nodup_cons]at hnd;exact absurd (xk.2 ⟨r',hr',hk⟩) hnd.1
  exact hF.apart r' hr' k hk
structure Ctx where
  P:Program
  w0:World
  C:List Nat
  σ0:aj
  n:Nat
  rnd:Option Nat:=none
  own:Option (List Deferred):=none
@[reducible]def fence(r:Option Nat):Fence:={fn:=λ_=>True,depth:=none,alive:=false,round:=r}
theorem hm_{r:Option Nat}{n:Nat}{P:Program}{f:FuncId}{args:Array Value}{w:World}{R:Ending->World->Prop}:CallsIn (fence r) n P f args w R↔Calls P f args w R:=(callsIn_wide (n:=n)).symm.symm
structure MarksOk (w0:World) (rnd:Option Nat) (own:Option (List Deferred)) (ds:List Deferred) (σ:aj) (H:List Res) (w:World):Prop where
  ex:own=none-> ∃Ds:List Nat,ds=Ds.map (λD=>{target:= .collected D,args:= #[]})/\Ds.Nodup/\ ∀D∈Ds,w.heap[D]? =some (.deferred (some []))/\w0.heap.size<=D/\D∉fJ H/\σ D=none
  is: ∀l,own=some l->ds=l
  rc: ∀l,rnd=some l->ds=[]/\(∃r,w.heap[l]? =some (.loop r))/\l∉fJ H/\σ l=none
theorem MarksOk.nil{w0:World}{σ:aj}{H:List Res}{w:World}:MarksOk w0 none none [] σ H w:=⟨λ_=>⟨[],rfl,List.nodup_nil,by simp⟩,(λ_ h=>by cases h),λ_ h=>by cases h⟩
theorem Reach.far{σ σ':aj}{H H':List Res}{w w':World}(k:Reach w (fJ H) σ σ' w' H'){D:Nat}{o:Obj}(g1:w.heap[D]? =some o)(g3:D∉fJ H)(g4:σ D=none):w'.heap[D]? =some o/\D∉fJ H'/\σ' D=none:=by
  have hlt:=(Array.getElem?_eq_some_iff.1 g1).1;refine ⟨by rw [k.frame D hlt g3];exact g1,λhx=> ?_,?_⟩
  · obtain ⟨r,hr,hb⟩:=xk.1 hx
    rcases k.own r hr D hb with h4|h4
    · exact g3 h4
    omega
  cases hs:σ' D with
  |none=>rfl
  |some o=>
    rcases k.fresh D o hs with h4|h4|h4
    · rw [g4]at h4;cases h4
    · exact absurd h4 g3
    omega
theorem MarksOk.step{w0:World}{rnd:Option Nat}{own:Option (List Deferred)}{ds:List Deferred}{σ σ':aj}{H H':List Res}{w w':World}(h:MarksOk w0 rnd own ds σ H w)(k:Reach w (fJ H) σ σ' w' H'):MarksOk w0 rnd own ds σ' H' w':=by
  refine ⟨λho=> ?_,h.is,λl hl=> ?_⟩
  · obtain ⟨Ds,h1,h2,h3⟩:=h.ex ho
    refine ⟨Ds,h1,h2,λD hD=> ?_⟩;obtain ⟨g1,g2,g3,g4⟩:=h3 D hD;obtain ⟨k1,k2,k3⟩:=k.far g1 g3 g4;exact ⟨k1,g2,k2,k3⟩
  obtain ⟨g0,⟨r,g1⟩,g3,g4⟩:=h.rc l hl;obtain ⟨k1,k2,k3⟩:=k.far g1 g3 g4;exact ⟨g0,⟨r,k1⟩,k2,k3⟩
structure RM (X:Ctx) (a:Act) (σ:aj) (w:World) (H:List Res):Prop extends Reach X.w0 X.C X.σ0 σ w H where
  marks:MarksOk X.w0 X.rnd X.own a.defers σ H w
theorem RM.step{X:Ctx}{a a':Act}{σ σ':aj}{H H':List Res}{w w':World}(h:RM X a σ w H)(k:Reach w (fJ H) σ σ' w' H')(hd:a'.defers=a.defers):RM X a' σ' w' H':=by
  refine ⟨?_,by rw [hd];exact h.marks.step k⟩;have h1:Reach X.w0 X.C X.σ0 σ w (H++[]):=by rw [List.append_nil];exact h.toReach
  have:=h1.call k
  rwa [List.append_nil]at this
theorem RM.by{X:Ctx}{a:Act}{σ σ':aj}{H H':List Res}{w:World}(h:RM X a σ w H)(f: ∀{u0 C0 τ0} w,Reach u0 C0 τ0 σ w H->Reach u0 C0 τ0 σ' w H'):RM X a σ' w H':=h.step (f w h.self) rfl
theorem RM.perm{X:Ctx}{a:Act}{σ:aj}{H H':List Res}{w:World}(h:RM X a σ w H)(hp:H'.Perm H):RM X a σ w H':=h.by λ_ k=>k.perm hp
theorem RM.sub{X:Ctx}{a:Act}{σ:aj}{H H':List Res}{w:World}(h:RM X a σ w H)(hs:H'.Sublist H):RM X a σ w H':=h.by λ_ k=>k.sub hs
theorem RM.drew{X:Ctx}{a:Act}{σ:aj}{H:List Res}{w:World}(h:RM X a σ w H):RM X a σ w.drew H:=h.step h.self.drew rfl
abbrev QP:=Exit->Env->aj->List Res->Prop
def low(X:Ctx)(Q:QP):Exit->Act->World->Prop:=λex a w=>
  ∃e σ H,St X.n e a/\RM X a σ w H/\Q ex e σ H
def TC(X:Ctx)(Q:QP)(c:Code)(e:Env)(σ:aj)(H:List Res):Prop:=
  ∀w a,RM X a σ w H->St X.n e a->c.wpIn (fence X.rnd) 0 X.P (low X Q) a w
def TL(X:Ctx)(ops:Array Oper)(Q:QP)(l:List Oper)(e:Env)(σ:aj)(H:List Res):Prop:=
  ∀w a,RM X a σ w H->St X.n e a->wpListIn (fence X.rnd) 0 X.P ops (low X Q) l a w
def OpOk (X : Ctx) (o : Oper) (e : Env) (σ : aj) (H : List Res) (K : Env -> aj -> List Res -> Prop) : Prop :=
  ∀(u0:World) (C0:List Nat) (τ0:aj) w a,Reach u0 C0 τ0 σ w H->St X.n e a-> ∀(K':Act->World->Prop) (Q:Exit->Act->World->Prop),
    (∀e' σ' H' a' w',K e' σ' H'->Reach u0 C0 τ0 σ' w' H'->StD X.n e' a a'->K' a' w')->o.wpIn (fence X.rnd) 0 X.P a w K' Q
theorem OpOk.at{X:Ctx}{o:Oper}{e:Env}{σ:aj}{H:List Res}{K:Env->aj->List Res->Prop}(h:OpOk X o e σ H K){w:World}{a:Act}(hw:RM X a σ w H)(ha:St X.n e a){K':Act->World->Prop}{Q:Exit->Act->World->Prop}
    (k: ∀e' σ' H' a' w',K e' σ' H'->RM X a' σ' w' H'->St X.n e' a'->K' a' w'):o.wpIn (fence X.rnd) 0 X.P a w K' Q:=
  h w (fJ H) σ w a hw.self ha K' Q λe' σ' H' a' w' hk hw' ha'=>k e' σ' H' a' w' hk (hw.step hw' ha'.same) ha'.toSt
def kH(σ:aj)(H:List Res)(w:World):Prop:=(∀b o,σ b=some o->w.heap[b]? =some o)/\ ∀r∈H,r.holds w
theorem Reach.sees{w0:World}{C:List Nat}{σ0 σ:aj}{w:World}{H:List Res}(h:Reach w0 C σ0 σ w H):kH σ H w:=⟨h.fit,h.holds⟩
def OpVal(P:Program)(n:Nat)(o:Oper)(e:Env)(σ:aj)(H:List Res)(v:Value):Prop:=
  ∀w,kH σ H w->(execOp (ev e) o).run P w= .ok (.value v) w
theorem aax_{P:Program}{ρ:Operand->Value}{o:Oper}{w w':World}{x:Next}(h:(execOp ρ o).run P w= .ok x w')(hx: ∀d,x≠ .defer d): ∀c,o.op≠ .defer c:=λc hc=>by
  unfold execOp at h;rw [hc]at h;simp only [Sem.run_bind]at h;cases hr:(resolve ρ c o.type).run P w with
  |ok d w2=>rw [hr]at h;simp only [Result.andThen_ok,Sem.run_pure]at h;injection h with h1 _;exact hx d h1.symm
  |halt y w2=>rw [hr]at h;simp [Result.andThen]at h
theorem Oper.b9_{r:Option Nat}{P:Program}{o:Oper}{a:Act}{w w':World}{x:Next}{K:Act->World->Prop}{Q:Exit->Act->World->Prop}
    (h:(execOp a.eval o).run P w= .ok x w') (hx: ∀d,x≠ .defer d) (k:o.uponIn (fence r) 0 P a K Q (.ok x w')):o.wpIn (fence r) 0 P a w K Q:=by
  refine ⟨λ_ _=>trivial,?_⟩;rw [Oper.semAt_eq _ _ _ (aax_ h hx),h];exact k
theorem Oper.wG{r:Option Nat}{P:Program}{o:Oper}{a:Act}{w w':World}{v:Value}{K:Act->World->Prop}{Q:Exit->Act->World->Prop}
    (h:(execOp a.eval o).run P w= .ok (.value v) w') (k:K (a.put o.dst v) w'):o.wpIn (fence r) 0 P a w K Q:=Oper.b9_ h (λ_=>by simp) k
theorem Oper.a1_{r:Option Nat}{P:Program}{o:Oper}{a:Act}{w w':World}{K:Act->World->Prop}{Q:Exit->Act->World->Prop}
    (h:(execOp a.eval o).run P w= .ok .skip w') (k:K (a.put o.dst undef) w'):o.wpIn (fence r) 0 P a w K Q:=Oper.b9_ h (λ_=>by simp) k
theorem Oper.ce_{r:Option Nat}{P:Program}{o:Oper}{a:Act}{w w':World}{f:FuncId}{args:Array Value}{K:Act->World->Prop}{Q:Exit->Act->World->Prop}{R:Ending->World->Prop}
    (h:(execOp a.eval o).run P w= .ok (.enter f args) w') (hc:Calls P f args w' R) (k: ∀e w'',R e w''-> ∃v,e= .returned v/\K (a.put o.dst v) w''):o.wpIn (fence r) 0 P a w K Q:=by
  refine Oper.b9_ h (λ_=>by simp) ⟨λh=>(by cases h),hm_.2 (hc.mono λe w'' he=> ?_)⟩;obtain ⟨v,rfl,hv⟩:=k e w'' he;exact hv
theorem nh_(a:Act)(d:Option Tmp)(v:Value):(a.put d v).defers=a.defers:=by cases d<;>rfl
theorem OpVal.ok{X:Ctx}{o:Oper}{e:Env}{σ:aj}{H:List Res}{v:Value}{d:Nat}{K:Env->aj->List Res->Prop}
    (h:OpVal X.P X.n o e σ H v) (hd:o.dst=some d) (hn:Nat.blt d X.n=true) (k:K (upd e d v) σ H):OpOk X o e σ H K:=by
  intro u0 C0 τ0 w a hw ha K' Q hK;refine Oper.wG (w':=w) (v:=v) (by rw [ha.eval'];exact h w hw.sees) (hK _ _ _ _ _ k hw ⟨?_,nh_ _ _ _⟩);rw [hd];exact ha.put (by simpa [Nat.blt_eq]using hn) v
section rules
variable {X:Ctx} {ops:Array Oper} {Q:QP} {e:Env} {σ:aj} {H:List Res} {o:Oper} {rest:List Oper}
theorem TL.nil(h:Q .normal e σ H):TL X ops Q [] e σ H:=λw a hw ha=>⟨e,σ,H,ha,hw,h⟩
theorem φ(hg:o.guard=none)(h:OpOk X o e σ H (TL X ops Q rest)):TL X ops Q (o::rest) e σ H:=λw a hw ha=>
  wpListIn_plain hg λK hK=>h.at hw ha λe' σ' H' a' w' hk hw' ha'=>hK a' w' (hk w' a' hw' ha')
theorem Xc{n:Nat}{e:Env}{a:Act}(ha:St n e a){ops:Array Oper}{j dj:Nat}{oj:Oper}(hj:ops[j]? =some oj)(hd:oj.dst=some dj)(hn:Nat.blt dj n=true):
    yielded ops a.tmps j=match e dj with| .bool b=>some b|_=>none:=by
  have hlt:dj<a.tmps.size:=by rw [ha.size];simpa [Nat.blt_eq]using hn
  have hg:=ha.get dj;rw [Array.getD_eq_getD_getElem?,Array.getElem?_eq_getElem hlt,Option.getD_some]at hg;unfold yielded;rw [hj];simp only [Option.bind_some,hd,Array.getElem?_eq_getElem hlt,hg];generalize e dj=v;cases v<;>rfl
theorem TL.gon{j dj:Nat}{b:Bool}{oj:Oper}(hg:o.guard=some (j,b))(hj:ops[j]? =some oj)(hd:oj.dst=some dj)(hn:Nat.blt dj X.n=true)(hb:e dj= .bool b)
    (h:OpOk X o e σ H (TL X ops Q rest)):TL X ops Q (o::rest) e σ H:=λw a hw ha=>
  wpListIn_step λK hK=>by
    rw [if_pos (by simp [Region.wanted,hg,Xc ha hj hd hn,hb])];exact h.at hw ha λe' σ' H' a' w' hk hw' ha'=>hK a' w' (hk w' a' hw' ha')
theorem TL.goff{j dj d:Nat}{b b':Bool}{oj:Oper}(hg:o.guard=some (j,b))(hj:ops[j]? =some oj)(hd:oj.dst=some dj)(hn:Nat.blt dj X.n=true)(hb:e dj= .bool b')(hbb:b'= !b)
    (ho:o.dst=some d) (hdn:Nat.blt d X.n=true) (h:TL X ops Q rest (upd e d undef) σ H):TL X ops Q (o::rest) e σ H:=λw a hw ha=>
  wpListIn_step λK hK=>by
    rw [if_neg (by simp [Region.wanted,hg,Xc ha hj hd hn,hb,hbb])];rw [ho];exact ⟨λ_ _=>trivial,hK _ _ (h w _ (hw.step hw.self (nh_ _ _ _)) (ha.put (by simpa [Nat.blt_eq]using hdn) undef))⟩
theorem TL.ZI{j dj d:Nat}{b:Bool}{oj:Oper}(hg:o.guard=some (j,b))(hj:ops[j]? =some oj)(hd:oj.dst=some dj)(hn:Nat.blt dj X.n=true)(hb:e dj=undef)
    (ho:o.dst=some d) (hdn:Nat.blt d X.n=true) (h:TL X ops Q rest (upd e d undef) σ H):TL X ops Q (o::rest) e σ H:=λw a hw ha=>
  wpListIn_step λK hK=>by
    rw [if_neg (by simp [Region.wanted,hg,Xc ha hj hd hn,hb,undef])];rw [ho];exact ⟨λ_ _=>trivial,hK _ _ (h w _ (hw.step hw.self (nh_ _ _ _)) (ha.put (by simpa [Nat.blt_eq]using hdn) undef))⟩
variable {c c1 c2:Code}
theorem Ξ{id:Nat}{l:List Oper}(h:TL X l.toArray Q l e σ H):TC X Q (.region id l.toArray false) e σ H:=λw a hw ha=>
  wpIn_region_lit (h w a hw ha)
theorem TC.weak{Q':QP}(h:TC X Q c e σ H)(hq: ∀ex e σ H,Q ex e σ H->Q' ex e σ H):TC X Q' c e σ H:=λw a hw ha=>
  Go.wpIn_mono (h w a hw ha) λex a' w' ⟨e',σ',H',h1,h2,h3⟩=>⟨e',σ',H',h1,h2,hq _ _ _ _ h3⟩
@[reducible]def seqQ(K:Env->aj->List Res->Prop)(Q:QP):QP:=λex=>match ex with
  | .normal=>K
  |ex=>Q ex
theorem TC.seq(h:TC X (seqQ (TC X Q c2) Q) c1 e σ H):TC X Q (.seq c1 c2) e σ H:=λw a hw ha=>
  Go.wpIn_seq (Go.wpIn_mono (h w a hw ha) λex a' w' ⟨e',σ',H',h1,h2,h3⟩=>by
    cases ex
    case normal=>exact h3 w' a' h2 h1
    all_goals exact ⟨e',σ',H',h1,h2,h3⟩)
theorem TC.cut(J:Env->aj->List Res->Prop)(h:TC X (seqQ J Q) c1 e σ H)(k: ∀e' σ' H',J e' σ' H'->TC X Q c2 e' σ' H'):TC X Q (.seq c1 c2) e σ H:=
  TC.seq (h.weak λex e' σ' H' hq=>by cases ex<;>first|exact k _ _ _ hq|exact hq)
theorem TC.skip(h:Q .normal e σ H):TC X Q .skip e σ H:=λw a hw ha=>Go.wpIn_skip ⟨e,σ,H,ha,hw,h⟩
theorem TC.exit{id:Nat}(h:Q (.exit id) e σ H):TC X Q (.exit id) e σ H:=λw a hw ha=>Go.wpIn_exit ⟨e,σ,H,ha,hw,h⟩
theorem η(h:Q .ret e σ H):TC X Q .ret e σ H:=λw a hw ha=>Go.wpIn_ret ⟨e,σ,H,ha,hw,h⟩
theorem TC.cond{x:Operand}{t:Bool}(hc:ev e x= .bool t)(ht:t=true->TC X Q c1 e σ H)(hf:t=false->TC X Q c2 e σ H):TC X Q (.cond x c1 c2) e σ H:=λw a hw ha=>
  Go.wpIn_cond_split (t:=t) (by rw [ha.eval];exact hc) (λh=>ht h w a hw ha) (λh=>hf h w a hw ha)
theorem TC.ZH{x:Operand}{p:Prop}[Decidable p](hc:ev e x= .bool (decide p))(ht:p->TC X Q c1 e σ H)(hf: ¬ p->TC X Q c2 e σ H):TC X Q (.cond x c1 c2) e σ H:=
  TC.cond hc (λh=>ht (Xf h)) (λh=>hf (df_ h))
@[reducible]def blkQ(id:Nat)(Q:QP):QP:=λex=>match ex with
  | .exit i=>if i=id then Q .normal else Q (.exit i)
  |ex=>Q ex
theorem TC.block{id:Nat}(h:TC X (blkQ id Q) c e σ H):TC X Q (.block id c) e σ H:=λw a hw ha=>
  Go.wpIn_block (Go.wpIn_mono (h w a hw ha) λex a' w' ⟨e',σ',H',h1,h2,h3⟩=>by
    cases ex with
    |exit i=>
      simp only [Exit.inBlock]
      by_cases hi:i=id
      · rw [if_pos hi];simp only [blkQ,if_pos hi]at h3;exact ⟨e',σ',H',h1,h2,h3⟩
      rw [if_neg hi];simp only [blkQ,if_neg hi]at h3;exact ⟨e',σ',H',h1,h2,h3⟩
    |normal=>exact ⟨e',σ',H',h1,h2,h3⟩
    |goto l=>exact ⟨e',σ',H',h1,h2,h3⟩
    |ret=>exact ⟨e',σ',H',h1,h2,h3⟩
    |panic l=>exact ⟨e',σ',H',h1,h2,h3⟩
    |outgrown=>exact ⟨e',σ',H',h1,h2,h3⟩)
theorem TC.a8_{id:Nat}(h:Q .normal e σ H):blkQ id Q (.exit id) e σ H:=by simp only [blkQ,if_true];exact h
theorem TC.exitOn{id i:Nat}(hi:Nat.beq i id=false)(h:Q (.exit i) e σ H):blkQ id Q (.exit i) e σ H:=by
  have:i≠id:=λhx=>by simp [hx]at hi
  simp only [blkQ,this,if_false];exact h
theorem ni_{p:Nat->Prop}(h: ∃k,p k): ∃k,p k/\ ∀j,p j->k<=j:=by
  obtain ⟨k,hk⟩:=h
  induction k using Nat.strongRecOn with
  | _ k ih =>
    by_cases hx: ∃j,j<k/\p j
    · obtain ⟨j,hj,hp⟩:=hx
      exact ih j hj hp
    exact ⟨k,hk,λj hj=>Nat.le_of_not_lt λhlt=>hx ⟨j,hlt,hj⟩⟩
theorem TC.loop(I:Nat->Env->aj->List Res->Prop)(k0:Nat)(h0:I k0 e σ H)
    (round: ∀k e' σ' H',I k e' σ' H'->TC X (seqQ (λe'' σ'' H''=> ∃k',k'<k/\I k' e'' σ'' H'') Q) c e' σ' H'):TC X Q (.loop c) e σ H:=by
  intro w a hw ha
  classical
  have hex: ∃k, ∃e' σ' H',St X.n e' a/\RM X a σ' w H'/\I k e' σ' H':=⟨k0,e,σ,H,ha,hw,h0⟩
  let G:Act->World->Nat->Prop:=λa w k=> ∃e' σ' H',St X.n e' a/\RM X a σ' w H'/\I k e' σ' H'
  let μ:Act->World->Nat:=λa w=>if h: ∃k,G a w k then Classical.choose (ni_ h) else 0
  have hμ: ∀a w,(∃k,G a w k)->G a w (μ a w)/\ ∀j,G a w j->μ a w<=j:=λa w h=>by
    have:=Classical.choose_spec (ni_ h);simp only [μ,h,dif_pos];exact this
  refine Go.wpIn_loop (λa w=> ∃k,G a w k) μ hex λa w hI=> ?_;obtain ⟨⟨e',σ',H',h1,h2,h3⟩,hmin⟩:=hμ a w hI;refine Go.wpIn_mono (round _ e' σ' H' h3 w a h2 h1) λex a' w' ⟨e'',σ'',H'',k1,k2,k3⟩=> ?_;cases ex
  case normal=>
    obtain ⟨k',hlt,hk'⟩:=k3;have hg:G a' w' k':=⟨e'',σ'',H'',k1,k2,hk'⟩;exact ⟨⟨k',hg⟩,Nat.lt_of_le_of_lt ((hμ a' w' ⟨k',hg⟩).2 k' hg) hlt⟩
  all_goals exact ⟨e'',σ'',H'',k1,k2,k3⟩
theorem TC.perm{H':List Res}(hs:H'.Perm H)(h:TC X Q c e σ H'):TC X Q c e σ H:=λw a hw ha=>h w a (hw.perm hs) ha
theorem TL.sub{H':List Res}{l:List Oper}(hs:H'.Sublist H)(h:TL X ops Q l e σ H'):TL X ops Q l e σ H:=λw a hw ha=>h w a (hw.sub hs) ha
theorem TL.perm{H':List Res}{l:List Oper}(hs:H'.Perm H)(h:TL X ops Q l e σ H'):TL X ops Q l e σ H:=λw a hw ha=>h w a (hw.perm hs) ha
theorem PX{α:Type}{H F:List α}{r:α}{i:Nat}(hi:H[i]? =some r)(hF:H.eraseIdx i=F):(r::F).Perm H:=by
  subst hF
  induction H generalizing i with
  |nil=>simp at hi
  |cons x H ih=>
    cases i with
    |zero=>simp at hi;subst hi;exact List.Perm.refl _
    |succ i=>simp at hi;exact (List.Perm.swap x r _).trans ((ih hi).cons x)
theorem TC.front(i:Nat){r:Res}{F:List Res}(hi:H[i]? =some r)(hF:H.eraseIdx i=F)(h:TC X Q c e σ (r::F)):TC X Q c e σ H:=TC.perm (PX hi hF) h
theorem TL.front(i:Nat){r:Res}{F:List Res}{l:List Oper}(hi:H[i]? =some r)(hF:H.eraseIdx i=F)(h:TL X ops Q l e σ (r::F)):TL X ops Q l e σ H:=TL.perm (PX hi hF) h
end rules
def LC(args:List Value):Env:=λt=>(args[t]?).getD undef
def EJ(P:Program)(fn:Func)(n:Nat)(e:Env)(H:List Res)(r:Value):Prop:=
  ∀w a,St n e a->(∀s∈H,s.holds w)->(results fn a.tmps).run P w= .ok r w
structure RetOk (P:Program) (fn:Func) (n:Nat) (Post:Value->aj->List Res->Prop) (ex:Exit) (e:Env) (σ:aj) (H:List Res):Prop where
  ex:ex= .ret\/ex= .normal
  val: ∃r H',EJ P fn n e H r/\H'.Sublist H/\Post r σ H'
@[reducible]def retQ(P:Program)(fn:Func)(n:Nat)(Post:Value->aj->List Res->Prop):QP:=RetOk P fn n Post
theorem ml_{P:Program}{fn:Func}{n:Nat}{tmps:Array Value}{R:Ending->World->Prop}{v:Value}{rs:World->Prop}(hR: ∀w,rs w->(results fn tmps).run P w= .ok v w/\R (.returned v) w):
    ∀(Ds:List Nat) (w:World),Ds.Nodup->(∀D∈Ds,w.heap[D]? =some (.deferred (some [])))->(∀(w:World) (D:Nat),D∈Ds->rs w->w.heap[D]? =some (.deferred (some []))->rs (w.putObj D (.deferred none)))->rs w->
    LeavesInM (fence none) n P fn tmps R (Ds.map λD=>{target:= .collected D,args:= #[]}) .returning w
  |[],w,_,_,_,h=>by
    have:=hR w h;exact ⟨_,this.1,this.2⟩
  |D::Ds,w,hn,hd,hk,h=>by
    rw [List.nodup_cons]at hn;have h1:=hd D (iU ..);refine ⟨by simp,.inl ⟨D,_,rfl,run_takeDeferred h1,ml_ hR Ds _ hn.2 (λE hE=> ?_) (λw E hE=>hk w E (rM _ hE)) (hk w D (iU ..) h h1)⟩⟩;rw [World.putObj_heap_other (λe=>hn.1 (by rw [<-e];exact hE))];exact hd E (rM _ hE)
theorem Reach.other{w0:World}{C:List Nat}{σ0 σ:aj}{w:World}{H:List Res}{D:Nat}{o:Obj}(h:Reach w0 C σ0 σ w H)(hD:w0.heap.size<=D)(hb:D∉fJ H)(hs:σ D=none):Reach w0 C σ0 σ (w.putObj D o) H:=by
  have hh: ∀k,k≠D->(w.putObj D o).heap[k]? =w.heap[k]? :=λk hk=>World.putObj_heap_other hk;refine ⟨h.os,h.tape,h.output,by simpa [World.putObj]using h.size,λk hk hkC=> ?_,h.le,λb o' hb'=> ?_,h.fresh,λr hr=> ?_,h.own,h.nodup,h.apart,h.drawn⟩
  · rw [hh k (by omega)];exact h.frame k hk hkC
  · rw [hh b (λe=>by subst e;rw [hs]at hb';cases hb')];exact h.fit b o' hb'
  exact r.keep w _ (λb hbr=>hh b λe=>hb (e▸xk.2 ⟨r,hr,hbr⟩)) (h.holds r hr)
theorem Con.mk{P:Program}{f:FuncId}{fn:Func}{c:Code}{args:List Value}{n:Nat}{σ:aj}{H:List Res}{Post:Value->aj->List Res->Prop}
    (hf:P.funcs[f]? =some fn) (hb:fn.body=some c) (hn:fn.ntmps=n) (ha:Nat.ble args.length n=true)
    (h: ∀w0,TC ⟨P,w0,fJ H,σ,n,none,none⟩ (retQ P fn n Post) c (LC args) σ H):Con P f args.toArray σ H Post:=by
  intro w hw;refine hm_.1 (callsIn_of_wp_marks (F:=fence none) (n:=0) hf hb trivial (Go.wpIn_mono (h w w _ ⟨hw,MarksOk.nil⟩ ⟨?_,?_⟩) ?_))
  · have:=Nat.le_of_ble_eq_true ha
    simp [hn];omega
  · intro t
    have:=Nat.le_of_ble_eq_true ha;simp only [Array.getD_eq_getD_getElem?,Array.getElem?_append,LC,List.getElem?_toArray,List.size_toArray,Array.getElem?_replicate]
    split
    · rfl
    rename_i hlt
    rw [List.getElem?_eq_none (by omega)]
    split<;>rfl
  rintro ex a w' ⟨e',σ',H',h1,h2,⟨hex,r,H'',h3,h4,h5⟩⟩;obtain ⟨Ds,hds,hnd,hD⟩:=h2.marks.ex rfl;have hfin:LeavesInM (fence none) 0 P fn a.tmps (λe w'=> ∃r σ' H',e= .returned r/\Post r σ' H'/\Reach w (fJ H) σ σ' w' H') a.defers .returning w':=by
    rw [hds];refine ml_ (rs:=λu=>Reach w (fJ H) σ σ' u H') (v:=r) (λu hu=>⟨h3 u a h1 hu.holds,r,σ',H'',rfl,h5,hu.sub h4⟩) Ds w' hnd (λD hd=>(hD D hd).1) (λu D hd hu _=> ?_) h2.toReach;obtain ⟨_,g2,g3,g4⟩:=hD D hd;exact hu.other g2 g3 g4
  rcases hex with rfl|rfl
  · exact hfin
  exact hfin
section ret
variable {P:Program} {fn:Func} {n:Nat} {Post:Value->aj->List Res->Prop} {e:Env} {σ:aj} {H:List Res}
theorem RetOk.of{ex:Exit}{r:Value}(H':List Res)(hex:ex= .ret\/ex= .normal)(h:EJ P fn n e H r)(hs:H'.Sublist H)(hp:Post r σ H'):RetOk P fn n Post ex e σ H:=⟨hex,r,H',h,hs,hp⟩
theorem EJ.eq{r r':Value}(h:EJ P fn n e H r)(hr:r=r'):EJ P fn n e H r':=hr▸h
theorem EJ.none(hr:fn.results= #[]):EJ P fn n e H (.tuple #[]):=λw a ha _=>results_none hr _ _ _
theorem EJ.one{t:Nat}(hr:fn.results= #[.tmp t]):EJ P fn n e H (e t):=λw a ha _=>by
  rw [results_tmp hr,ha.get]
end ret
def szOf(P:Program)(E:TypeId):Option Nat:=(P.info? E).map (·.size)
def byOf(P:Program)(E:TypeId):Option Nat:=(P.info? E).map (·.bytes)
def zeroOf(P:Program)(E:TypeId):Option Value:=(P.info? E).bind (·.zero)
def aggOf(P:Program)(E:TypeId):Option Bool:=(P.underlying E).map fun| .struct _=>true| .array _ _=>true|_=>false
def foOf(P:Program)(T i:Nat):Option Nat:=match P.underlying T with
  |some (.struct fs)=>(fs[i]?).bind λf=>(szOf P f.type).bind λs=>if s=0 then none else some f.offset
  |_=>none
def plOf(P:Program)(T:TypeId):Option (Array (Nat×Nat)):=match P.underlying T with
  |some (.struct fs)=>fs.toList.mapM (λf=>(szOf P f.type).map λs=>(f.offset,s)) |>.map List.toArray
  |_=>none
def plainF(P:Program)(f:FuncId):Bool:=match P.funcs[f]? with
  | some fn => !(fn.name == "runtime.NumGoroutine") && !fn.body.isNone
  |none=>false
theorem PY{P:Program}{E s:Nat}(h:szOf P E=some s): ∃i,P.info? E=some i/\i.size=s:=by
  simpa [szOf]using h
theorem xX{P:Program}{E s:Nat}(h:szOf P E=some s)(w:World):(sizeOf E).run P w= .ok s w:=by
  obtain ⟨i,hi,rfl⟩:=PY h;simp [sizeOf,typeInfo,hi]
theorem PZ{P:Program}{E:Nat}{z:Value}(h:zeroOf P E=some z)(w:World):(zeroValue E).run P w= .ok z w:=by
  unfold zeroOf at h;cases hi:P.info? E with
  |none=>simp [hi]at h
  |some i=>simp [hi]at h;simp [zeroValue,typeInfo,hi,h]
theorem jp_{P:Program}{E:Nat}{b:Bool}(h:aggOf P E=some b)(w:World):(isAgg E).run P w= .ok b w:=by
  unfold aggOf at h;cases hu:P.underlying E with
  |none=>simp [hu]at h
  |some d=>
    simp [hu]at h;subst h;simp only [isAgg,Sem.run_bind,run_underlying hu,Result.andThen_ok];cases d<;>rfl
theorem Rk{P:Program}{f:FuncId}(h:plainF P f=true)(args:Array Value)(w:World):(callFunc f args).run P w= .ok (.enter f args) w:=by
  unfold plainF at h;cases hf:P.funcs[f]? with
  |none=>simp [hf]at h
  |some fn=>
    simp only [hf,Bool.and_eq_true,Bool.not_eq_true']at h
    have h1 : ¬ fn.name = "runtime.NumGoroutine" := by simpa using h.1
    have h2: ¬ fn.body=none:=λhx=>by have:=h.2;simp [hx]at this
    simp [callFunc,hf,h1,h2]
def loc(b k:Nat):Value:= .pointer (some ⟨b,k,none⟩)
def lF(v:Value)(k:Nat):Value:=match v with
  | .slice (some a) _ _=> .pointer (some (a.add k))
  |_=>undef
def uo(v:Value)(n:Nat):Prop:= ∃a c,v= .slice a n c/\(a=none->n=0/\c=0)/\n<=c
theorem uo.some{v:Value}{n:Nat}(h:uo v n){i:Nat}(hi:i<n): ∃a c,v= .slice (some a) n c/\n<=c:=by
  obtain ⟨a,c,rfl,h0,hc⟩:=h;cases a with
  |none=>have:=(h0 rfl).1;omega
  |some a=>exact ⟨a,c,rfl,hc⟩
theorem Yv(a:Addr)(m n:Nat):(a.add m).add n=a.add (m+n):=by
  unfold Addr.add
  by_cases hm:m=0<;>by_cases hn:n=0<;>simp [hm,hn,Nat.add_assoc]
theorem EK(b k n:Nat):(⟨b,k,none⟩:Addr).add n=⟨b,k+n,none⟩:=by
  unfold Addr.add;split<;>simp_all
def ω(b:Nat)(cs:Array Value)(E:TypeId):Res where
  bl:=[b]
  holds w:=w.heap[b]? =some (.cells cs E (0,0))
  lt w k hk h:=by rw [List.mem_singleton.1 hk];exact (Array.getElem?_eq_some_iff.1 h).1
  keep w w' hb h:=by rw [hb b (List.mem_singleton.2 rfl)];exact h
def Res.row (E size : Nat) (v : Value) (n : Nat) (xs : List Value) : Res where
  bl:=v.ownBlock.toList
  holds w:=w.ownsRow 0 E size v n xs/\(∀u∈xs,u.oneCell'=true)/\n<=281474976710656
  lt w k hk h:=(h.1.lt k (Option.mem_toList.1 hk)).2
  keep w w' hb h:=by
    obtain ⟨h,ho⟩:=h;refine ⟨⟨h.1,?_⟩,ho⟩;rcases h.2 with hn|⟨g,cap,cur,rfl,h0,hg,rest⟩
    · exact .inl hn
    exact .inr ⟨g,cap,cur,rfl,h0,by rw [hb g (Option.mem_toList.2 rfl)];exact hg,rest⟩
def aj.cell(σ:aj)(a:Addr):Option Value:=match σ a.block with
  |some (.cells c _ _)=>if a.spot.isSome then none else c[a.off]?
  |_=>none
theorem kH.cell{σ:aj}{H:List Res}{w:World}(h:kH σ H w){a:Addr}{v:Value}(hc:σ.cell a=some v):w.cell? a=some v:=by
  unfold aj.cell at hc;unfold World.cell?;cases hb:σ a.block with
  |none=>simp [hb]at hc
  |some o=>rw [h.1 _ _ hb];rw [hb]at hc;exact hc
theorem aj.le.cell{σ τ:aj}(h:σ.le τ){a:Addr}{v:Value}(hc:σ.cell a=some v):τ.cell a=some v:=by
  unfold aj.cell at *;cases hb:σ a.block with
  |none=>simp [hb]at hc
  |some o=>rw [h _ _ hb];rw [hb]at hc;exact hc
structure RV (σ:aj) (size:Nat) (v:Value) (n:Nat) (xs:List Value):Prop where
  sl:uo v n
  len:xs.length=n * size
  cell: ∀a m c,v= .slice (some a) m c-> ∀j u,xs[j]? =some u->σ.cell (a.add j)=some u
  one: ∀u∈xs,u.oneCell'=true
  big:n<=281474976710656
theorem RV.mono{σ τ:aj}{size:Nat}{v:Value}{n:Nat}{xs:List Value}(h:RV σ size v n xs)(hle:σ.le τ):RV τ size v n xs:=
  ⟨h.sl,h.len,λa m c hv j u hj=>hle.cell (h.cell a m c hv j u hj),h.one,h.big⟩
theorem RV.nil(σ:aj)(size:Nat):RV σ size (.slice none 0 0) 0 []:=⟨⟨none,0,rfl,λ_=>⟨rfl,rfl⟩,Nat.le_refl _⟩,by simp,(λ_ _ _ h=>by cases h),by simp,Nat.zero_le _⟩
theorem isSl_row{w:World}{E size:Nat}{v:Value}{n:Nat}{xs:List Value}(h:w.ownsRow 0 E size v n xs):uo v n:=by
  rcases h.2 with ⟨rfl,rfl⟩|⟨g,cap,cur,rfl,_,_,h1,h2,_⟩
  · exact ⟨none,0,rfl,λ_=>⟨rfl,rfl⟩,Nat.le_refl _⟩
  exact ⟨some _,cap,rfl,by simp,h1⟩
section opval
variable {P:Program} {n:Nat} {e:Env} {σ:aj} {H:List Res} {o:Oper} {x y:Operand}
theorem OpVal.move(ho:o.op= .move x):OpVal P n o e σ H (ev e x):=λw _=>by simp [execOp,ho]
theorem OpVal.assign(ho:o.op= .assign x):OpVal P n o e σ H (ev e x):=λw _=>by simp [execOp,ho]
theorem OpVal.pickT{c a b:Operand}{t:Bool}{v:Value}(ho:o.op= .pick c a b)(hc:ev e c= .bool t)(ht:t=true)(hv:ev e a=v):OpVal P n o e σ H v:=λw _=>by
  subst ht hv;simp [execOp,ho,hc,asBool]
theorem OpVal.pickF{c a b:Operand}{t:Bool}{v:Value}(ho:o.op= .pick c a b)(hc:ev e c= .bool t)(ht:t=false)(hv:ev e b=v):OpVal P n o e σ H v:=λw _=>by
  subst ht hv;simp [execOp,ho,hc,asBool]
theorem f6_(op:BinOp)(t:TypeId)(x y:Operand)(k k':IntKind)(a b:Int)(w:World):(eqGuard op t x y (.int k a) (.int k' b)).run P w= .ok () w:=by
  cases op<;>simp [eqGuard]
theorem OpVal.bin{op:BinOp}{T T':TypeId}{k:IntKind}{a b:Int}{v:Value}(ho:o.op= .binOp op T x y T')(hx:ev e x= .int k a)(hy:ev e y= .int k b)
    (hr: ∀w,(binOp op T (.int k a) (.int k b)).run P w= .ok v w):OpVal P n o e σ H v:=λw _=>by
  simp [execOp,ho,hx,hy,f6_,hr]
section
variable {T T':TypeId} {k:IntKind} {a b:Int}
theorem OpVal.addW(ho:o.op= .binOp .add T x y T')(hx:ev e x= .int k a)(hy:ev e y= .int k b):OpVal P n o e σ H (.int k (k.wrap (a+b))):= .bin ho hx hy λw=>by simp [binOp,Op.intArith]
theorem OpVal.subW(ho:o.op= .binOp .sub T x y T')(hx:ev e x= .int k a)(hy:ev e y= .int k b):OpVal P n o e σ H (.int k (k.wrap (a - b))):= .bin ho hx hy λw=>by simp [binOp,Op.intArith]
theorem OpVal.mulW(ho:o.op= .binOp .mul T x y T')(hx:ev e x= .int k a)(hy:ev e y= .int k b):OpVal P n o e σ H (.int k (k.wrap (a * b))):= .bin ho hx hy λw=>by simp [binOp,Op.intArith]
theorem OpVal.lss(ho:o.op= .binOp .lss T x y T')(hx:ev e x= .int k a)(hy:ev e y= .int k b):OpVal P n o e σ H (.bool (decide (a<b))):= .bin ho hx hy λw=>by simp [binOp,Op.intCmp]
theorem OpVal.leq(ho:o.op= .binOp .leq T x y T')(hx:ev e x= .int k a)(hy:ev e y= .int k b):OpVal P n o e σ H (.bool (decide (a<=b))):= .bin ho hx hy λw=>by simp [binOp,Op.intCmp]
theorem OpVal.gtr(ho:o.op= .binOp .gtr T x y T')(hx:ev e x= .int k a)(hy:ev e y= .int k b):OpVal P n o e σ H (.bool (decide (b<a))):= .bin ho hx hy λw=>by simp [binOp,Op.intCmp]
theorem OpVal.geq(ho:o.op= .binOp .geq T x y T')(hx:ev e x= .int k a)(hy:ev e y= .int k b):OpVal P n o e σ H (.bool (decide (b<=a))):= .bin ho hx hy λw=>by simp [binOp,Op.intCmp]
theorem OpVal.eql(ho:o.op= .binOp .eql T x y T')(hx:ev e x= .int k a)(hy:ev e y= .int k b):OpVal P n o e σ H (.bool (decide (a=b))):= .bin ho hx hy λw=>by
  simp [binOp,Op.intCmp,BEq.beq]
theorem OpVal.neq(ho:o.op= .binOp .neq T x y T')(hx:ev e x= .int k a)(hy:ev e y= .int k b):OpVal P n o e σ H (.bool (decide (a≠b))):= .bin ho hx hy λw=>by
  simp [binOp,Op.intCmp,bne,BEq.beq]
end
theorem Ja{a:Int}(h0: -9223372036854775808<=a)(h1:a<=9223372036854775807):IntKind.i64.wrap a=a:=by rw [IntKind.wrap_i64];omega
section
variable {T T':TypeId} {a b:Int}
theorem OpVal.add(ho:o.op= .binOp .add T x y T')(hx:ev e x= .int .i64 a)(hy:ev e y= .int .i64 b)(h0: -9223372036854775808<=a+b)(h1:a+b<=9223372036854775807):OpVal P n o e σ H (.int .i64 (a+b)):=by
  have:=OpVal.addW (P:=P) (n:=n) (σ:=σ) (H:=H) ho hx hy;rwa [Ja h0 h1]at this
theorem OpVal.sub(ho:o.op= .binOp .sub T x y T')(hx:ev e x= .int .i64 a)(hy:ev e y= .int .i64 b)(h0: -9223372036854775808<=a - b)(h1:a - b<=9223372036854775807):OpVal P n o e σ H (.int .i64 (a - b)):=by
  have:=OpVal.subW (P:=P) (n:=n) (σ:=σ) (H:=H) ho hx hy;rwa [Ja h0 h1]at this
theorem OpVal.succ{k:Nat}(ho:o.op= .binOp .add T x y T')(hx:ev e x= .int .i64 (k:Nat))(hy:ev e y= .int .i64 1)(h1:k<9223372036854775807):OpVal P n o e σ H (.int .i64 ((k+1:Nat):Int)):=by
  have:=OpVal.add (P:=P) (n:=n) (σ:=σ) (H:=H) ho hx hy (by omega) (by omega);simpa using this
end
theorem OpVal.not{T:TypeId}{b:Bool}(ho:o.op= .unOp .not T x)(hx:ev e x= .bool b):OpVal P n o e σ H (.bool (!b)):=λw _=>by
  simp [execOp,ho,hx,Op.unary]
theorem OpVal.extract{i:Nat}{vs:Array Value}{v:Value}(ho:o.op= .extract x i)(hx:ev e x= .tuple vs)(hv:vs[i]? =some v):OpVal P n o e σ H v:=λw _=>by
  simp [execOp,ho,hx,Instr.extract,hv]
theorem OpVal.nilCheck{a:Addr}(ho:o.op= .nilCheck x)(hx:ev e x= .pointer (some a)):OpVal P n o e σ H (.pointer (some a)):=λw _=>by
  simp [execOp,ho,hx]
theorem OpVal.makeFunc{f:FuncId}{first cap:Array Operand}(ho:o.op= .makeFunc (.func f) first cap):OpVal P n o e σ H (.func (.func f) (first.map (ev e)) (cap.map (ev e))):=λw _=>by
  simp [execOp,ho,Instr.makeFunc]
theorem OpVal.lenStr{t:TypeId}{s:ByteArray}(ho:o.op= .call {callee:= .builtin .len,args:= #[x],argTypes:= #[t]})(ht:P.underlying t=some .string)(hx:ev e x= .string s):
    OpVal P n o e σ H (.int .i64 (s.size:Nat)):=λw _=>by
  simp [execOp,ho,resolve,invoke,builtin,hx,Builtin.len_,run_underlying ht,goInt]
theorem ym_{T i off:Nat}(h:foOf P T i=some off): ∃fs f s,P.underlying T=some (.struct fs)/\fs[i]? =some f/\szOf P f.type=some s/\s≠0/\f.offset=off:=by
  unfold foOf at h
  split at h
  · rename_i fs hu
    cases hf:fs[i]? with
    |none=>simp [hf]at h
    |some f=>
      cases hs:szOf P f.type with
      |none=>simp [hf,hs]at h
      |some s=>simp [hf,hs]at h;exact ⟨fs,f,s,hu,hf,hs,h.1,h.2⟩
  cases h
theorem OpVal.fieldAddr{T i off:Nat}{a:Addr}(ho:o.op= .fieldAddr T x i)(hf:foOf P T i=some off)(hx:ev e x= .pointer (some a)):OpVal P n o e σ H (.pointer (some (a.add off))):=λw _=>by
  obtain ⟨fs,f,s,hu,hfi,hs,h0,rfl⟩:=ym_ hf;simp [execOp,ho,hx,Instr.fieldAt,run_underlying hu,hfi,Instr.sureAddr,fieldPlace,xX hs,h0]
theorem OpVal.Gi{T i off b k:Nat}(ho:o.op= .fieldAddr T x i)(hf:foOf P T i=some off)(hx:ev e x=loc b k):OpVal P n o e σ H (loc b (k+off)):=by
  have:=OpVal.fieldAddr (P:=P) (n:=n) (σ:=σ) (H:=H) ho hf hx
  rwa [EK]at this
theorem OpVal.c3_{T i off m k:Nat}{v:Value}(ho:o.op= .fieldAddr T x i)(hf:foOf P T i=some off)(hx:ev e x=lF v k)(hs:uo v m)(hj:0<m):OpVal P n o e σ H (lF v (k+off)):=by
  obtain ⟨a,c,rfl,_⟩:=hs.some hj;have:=OpVal.fieldAddr (P:=P) (n:=n) (σ:=σ) (H:=H) ho hf hx
  rwa [Yv]at this
theorem OpVal.index{T E size m:Nat}{k:IntKind}{i:Int}{v:Value}(ho:o.op= .indexAddr T x y)(ht:P.underlying T=some (.slice E))(hz:szOf P E=some size)(hx:ev e x=v)(hy:ev e y= .int k i)
    (hs:uo v m) (h0:0<=i) (h1:i<m):OpVal P n o e σ H (lF v (i.toNat * size)):=λw _=>by
  obtain ⟨a,c,rfl,_⟩:=hs.some (i:=i.toNat) (by omega);simp [execOp,ho,hx,hy,Instr.indexAt,asIntOf,run_underlying ht,xX hz,h0,h1,lF]
theorem OpVal.A_{T E size m:Nat}{k:IntKind}{i:Nat}{v:Value}(ho:o.op= .indexAddr T x y)(ht:P.underlying T=some (.slice E))(hz:szOf P E=some size)(hx:ev e x=v)(hy:ev e y= .int k (i:Nat))
    (hs:uo v m) (h1:i<m):OpVal P n o e σ H (lF v (i * size)):=by
  have:=OpVal.index (P:=P) (n:=n) (σ:=σ) (H:=H) ho ht hz hx hy hs (by omega) (by omega);simpa using this
theorem OpVal.dn_{T E size m b q:Nat}{k:IntKind}{i:Int}(ho:o.op= .indexAddr T x y)(ht:P.underlying T=some (.array m E))(hz:szOf P E=some size)(hx:ev e x=loc b q)(hy:ev e y= .int k i)
    (h0:0<=i) (h1:i<m):OpVal P n o e σ H (loc b (q+i.toNat * size)):=λw _=>by
  simp [execOp,ho,hx,hy,Instr.indexAt,asIntOf,run_underlying ht,xX hz,h0,h1,loc,Instr.sureAddr,EK]
theorem OpVal.indexStr{T:Nat}{k:IntKind}{i:Int}{s:ByteArray}{u:UInt8}(ho:o.op= .index T x y)(ht:P.underlying T=some .string)(hx:ev e x= .string s)(hy:ev e y= .int k i)
    (h0:0<=i) (hu:s.data.toList[i.toNat]? =some u):OpVal P n o e σ H (.int .u8 (u.toNat:Nat)):=λw _=>by
  have hs:s[i.toNat]? =some u:=by
    obtain ⟨h,hu'⟩:=List.getElem?_eq_some_iff.1 hu;have hlt:i.toNat<s.size:=h;rw [getElem?_pos s i.toNat hlt];rw [<-hu'];rfl
  simp [execOp,ho,hx,hy,Instr.index,asIntOf,run_underlying ht,h0,hs]
theorem OpVal.c0_{T:Nat}{k:IntKind}{i:Nat}{s:ByteArray}{u:UInt8}(ho:o.op= .index T x y)(ht:P.underlying T=some .string)(hx:ev e x= .string s)(hy:ev e y= .int k (i:Nat))
    (hu:s.data.toList[i]? =some u):OpVal P n o e σ H (.int .u8 (u.toNat:Nat)):=
  OpVal.indexStr ho ht hx hy (by omega) (by simpa using hu)
theorem f7_{T:TypeId}(hA:aggOf P T=some false){a:Addr}{u:Value}{w:World}(hc:w.cell? a=some u):(loadVar T a).run P w= .ok u w:=by
  simp [loadVar,jp_ hA,hc]
theorem hf_{T s:TypeId}(hA:aggOf P T=some true)(hz:szOf P T=some s){a:Addr}{us:List Value}{w:World}(hl:us.length=s)(hc: ∀j u,us[j]? =some u->w.cell? (a.add j)=some u):
    (loadVar T a).run P w= .ok (.agg us.toArray) w:=by
  have:=run_loadCells_list (P:=P) w a us hc;subst hl;simp [loadVar,jp_ hA,xX hz,this]
theorem h6_{w:World}{b:Nat}{cs:Array Value}{E k:Nat}{u:Value}(h:w.heap[b]? =some (.cells cs E (0,0)))(hk:cs[k]? =some u):w.cell? ⟨b,k,none⟩=some u:=by
  simp [World.cell?,h,hk]
theorem OpVal.Aj{T b k E i:Nat}{cs:Array Value}{u:Value}(ho:o.op= .load T x)(hA:aggOf P T=some false)(hx:ev e x=loc b k)(hi:H[i]? =some (ω b cs E))(hk:cs[k]? =some u):OpVal P n o e σ H u:=λw hw=>by
  have hm:ω b cs E∈H:=List.mem_of_getElem? hi;have hc:=h6_ (hw.2 _ hm) hk;simp [execOp,ho,hx,Instr.loadAt,Instr.sureAddr,loc,f7_ hA hc]
theorem OpVal.bu_{T b k E i s:Nat}{cs:Array Value}{us:List Value}(ho:o.op= .load T x)(hA:aggOf P T=some true)(hz:szOf P T=some s)(hx:ev e x=loc b k)(hi:H[i]? =some (ω b cs E))
    (hl:us.length=s) (hk:(cs.toList.drop k).take s=us):OpVal P n o e σ H (.agg us.toArray):=λw hw=>by
  have hm:ω b cs E∈H:=List.mem_of_getElem? hi;have hh:=hw.2 _ hm;have hc: ∀j u,us[j]? =some u->w.cell? ((⟨b,k,none⟩:Addr).add j)=some u:=λj u hj=>by
    rw [EK];refine h6_ hh ?_;rw [<-hk,List.getElem?_take]at hj
    split at hj
    · simpa [List.getElem?_drop]using hj
    cases hj
  simp [execOp,ho,hx,Instr.loadAt,Instr.sureAddr,loc,hf_ hA hz hl hc]
theorem OpVal.loadEl{T k size m:Nat}{v u:Value}{xs:List Value}(ho:o.op= .load T x)(hA:aggOf P T=some false)(hx:ev e x=lF v k)(hR:RV σ size v m xs)(hk:xs[k]? =some u):OpVal P n o e σ H u:=λw hw=>by
  have hlt:k<xs.length:=(List.getElem?_eq_some_iff.1 hk).1;have hm:0<m:=by rw [hR.len]at hlt;exact Nat.pos_of_ne_zero λh=>by simp [h]at hlt
  obtain ⟨a,c,rfl,_⟩:=hR.sl.some hm;have hc:=hw.cell (hR.cell a m c rfl k u hk);simp [execOp,ho,hx,Instr.loadAt,Instr.sureAddr,lF,f7_ hA hc]
theorem OpVal.cx_{T k size m s:Nat}{v:Value}{xs us:List Value}(ho:o.op= .load T x)(hA:aggOf P T=some true)(hz:szOf P T=some s)(hx:ev e x=lF v k)(hR:RV σ size v m xs)(hs:0<s)
    (hl:us.length=s) (hk:(xs.drop k).take s=us):OpVal P n o e σ H (.agg us.toArray):=λw hw=>by
  have hlt:k<xs.length:=by
    rcases Nat.lt_or_ge k xs.length with h|h
    · exact h
    rw [List.drop_eq_nil_of_le h]at hk;simp at hk;subst hk;simp at hl;omega
  have hm:0<m:=by rw [hR.len]at hlt;exact Nat.pos_of_ne_zero λh=>by simp [h]at hlt
  obtain ⟨a,c,rfl,_⟩:=hR.sl.some hm;have hc: ∀j u,us[j]? =some u->w.cell? ((a.add k).add j)=some u:=λj u hj=>by
    rw [Yv];refine hw.cell (hR.cell a m c rfl (k+j) u ?_);rw [<-hk,List.getElem?_take]at hj
    split at hj
    · simpa [List.getElem?_drop]using hj
    cases hj
  simp [execOp,ho,hx,Instr.loadAt,Instr.sureAddr,lF,hf_ hA hz hl hc]
theorem OpVal.loadRow{T k E size m i:Nat}{v u:Value}{xs:List Value}(ho:o.op= .load T x)(hA:aggOf P T=some false)(hx:ev e x=lF v k)(hi:H[i]? =some (Res.row E size v m xs))(hk:xs[k]? =some u):OpVal P n o e σ H u:=λw hw=>by
  have hm':Res.row E size v m xs∈H:=List.mem_of_getElem? hi;have hR:w.ownsRow 0 E size v m xs:=(hw.2 _ hm').1;have hlt:k<xs.length:=(List.getElem?_eq_some_iff.1 hk).1;have hm:0<m:=by rw [hR.1]at hlt;exact Nat.pos_of_ne_zero λh=>by simp [h]at hlt
  rcases hR.2 with ⟨_,h0⟩|⟨g,cap,cur,rfl,_⟩
  · omega
  have hc:=hR.cells (g:=g) rfl k u hk;simp [execOp,ho,hx,Instr.loadAt,Instr.sureAddr,lF,f7_ hA hc]
theorem OpVal.dj_{T k E size m i s:Nat}{v:Value}{xs us:List Value}(ho:o.op= .load T x)(hA:aggOf P T=some true)(hz:szOf P T=some s)(hx:ev e x=lF v k)(hi:H[i]? =some (Res.row E size v m xs))(hs:0<s)
    (hl:us.length=s) (hk:(xs.drop k).take s=us):OpVal P n o e σ H (.agg us.toArray):=λw hw=>by
  have hm':Res.row E size v m xs∈H:=List.mem_of_getElem? hi;have hR:w.ownsRow 0 E size v m xs:=(hw.2 _ hm').1;have hlt:k<xs.length:=by
    rcases Nat.lt_or_ge k xs.length with h|h
    · exact h
    rw [List.drop_eq_nil_of_le h]at hk;simp at hk;subst hk;simp at hl;omega
  have hm:0<m:=by rw [hR.1]at hlt;exact Nat.pos_of_ne_zero λh=>by simp [h]at hlt
  rcases hR.2 with ⟨_,h0⟩|⟨g,cap,cur,rfl,_⟩
  · omega
  have hc: ∀j u,us[j]? =some u->w.cell? (((⟨g,0,none⟩:Addr).add k).add j)=some u:=λj u hj=>by
    rw [Yv];refine hR.cells (g:=g) rfl (k+j) u ?_;rw [<-hk,List.getElem?_take]at hj
    split at hj
    · simpa [List.getElem?_drop]using hj
    cases hj
  simp [execOp,ho,hx,Instr.loadAt,Instr.sureAddr,lF,hf_ hA hz hl hc]
theorem om_ {fs : List Field} {pl : List (Nat × Nat)} (h : fs.mapM (λf => (szOf P f.type).map λs => (f.offset, s)) = some pl) (w : World) :
    (fs.mapM (m:=Sem) λf=>Prod.mk f.offset <$> sizeOf f.type).run P w= .ok pl w:=by
  induction fs generalizing pl with
  |nil=>simp at h;subst h;simp
  |cons f fs ih=>
    simp only [List.mapM_cons]at h ⊢;cases hs:szOf P f.type with
    |none=>simp [hs]at h
    |some s=>
      simp [hs]at h;cases ht:fs.mapM (λf=>(szOf P f.type).map λs=>(f.offset,s))with
      |none=>rw [ht]at h;simp at h
      |some q=>
        rw [ht]at h;simp at h;subst h;simp [xX hs,ih ht]
theorem OpVal.build{T:TypeId}{parts:Array (Nat×Operand)}{pl:Array (Nat×Nat)}{z:Value}{cs:Array Value}(ho:o.op= .build T parts)(hp:plOf P T=some pl)(hz:zeroOf P T=some z)
    (hf:Instr.fill (pl[·]?) z.cells (parts.toList.map λx=>(x.1,ev e x.2))=some cs):OpVal P n o e σ H (.agg cs):=λw _=>by
  unfold plOf at hp
  split at hp
  · rename_i fs hu
    cases hm:fs.toList.mapM (λf=>(szOf P f.type).map λs=>(f.offset,s))with
    |none=>simp [hm]at hp
    |some q=>
      simp [hm]at hp;subst hp;have hr:=om_ (P:=P) hm w;simp only [execOp,ho,Sem.run_bind,Instr.build,PZ hz,Result.andThen_ok,run_underlying hu];rw [Array.mapM_eq_mapM_toList];simp only [List.getElem?_toArray]at hf;simp [hr,hf]
  cases hp
theorem OpVal.do_{T E s m:TypeId}{parts:Array (Nat×Operand)}{z:Value}{cs:Array Value}(ho:o.op= .build T parts)(hu:P.underlying T=some (.array m E))(hs:szOf P E=some s)(hz:zeroOf P T=some z)
    (hf:Instr.fill (λi=>some (i * s,s)) z.cells (parts.toList.map λx=>(x.1,ev e x.2))=some cs):OpVal P n o e σ H (.agg cs):=λw _=>by
  simp [execOp,ho,Instr.build,PZ hz,run_underlying hu,xX hs,hf]
theorem OpVal.bx_{S T:TypeId}{k k':IntKind}{a:Int}{d:TypeDesc}(ho:o.op= .convert S T x)(hs:P.underlying S=some d)(ht:P.underlying T=some (.int k'))(hx:ev e x= .int k a):OpVal P n o e σ H (.int k' (k'.wrap a)):=λw _=>by
  simp [execOp,ho,hx,convert,run_underlying hs,run_underlying ht,Conv.intToInt]
end opval
def Exit.c2_(Q:Exit->Act->World->Prop):Exit->Act->World->Prop
  | .panic _,_,_=>False
  |e,a,w=>Q e a w
def pI(cs:List Value)(k:Nat)(vs:List Value):List Value:=cs.take k++vs++cs.drop (k+vs.length)
def Lh (place : Nat -> Option (Nat × Nat)) (cells : List Value) : List (Nat × Value) -> Option (List Value)
  |[]=>some cells
  |(i,v)::rest=>
    match place i with
    |none=>none
    |some (off,size)=>
      if v.cells.toList.length≠size || off+v.cells.toList.length>cells.length then none
      else Lh place (pI cells off v.cells.toList) rest
theorem Ng_(l:List Value): ∀(j off:Nat) (cs:Array Value),off+j+l.length<=cs.size->
    ((l.zipIdx j).foldl (λ(cs:Array Value) (x:Value×Nat)=>cs.setIfInBounds (off+x.2) x.1) cs).toList=pI cs.toList (off+j) l:=by
  induction l with
  |nil=>intro j off cs _;simp [pI]
  |cons v l ih=>
    intro j off cs h;simp only [List.length_cons]at h;rw [List.zipIdx_cons,List.foldl_cons,ih (j+1) off _ (by simp;omega)];simp only [pI,Array.toList_setIfInBounds,List.length_cons];apply List.ext_getElem?;intro q;simp only [List.getElem?_append,List.length_take,fV,iK,List.getElem?_take,List.getElem?_set,List.length_cons,List.getElem?_drop,Array.length_toList];have hm:min (off+(j+1)) cs.size=off+j+1:=by omega
    have hm2:min (off+j) cs.size=off+j:=by omega
    simp only [hm,hm2]
    by_cases h1:q<off+j
    · have a1:q<off+j+1:=by omega
      have a2:q<off+(j+1):=by omega
      have a3: ¬ off+j=q:=by omega
      have a4:q<off+j+1+l.length:=by omega
      have a5:q<off+j+(l.length+1):=by omega
      simp [h1,a1,a2,a3,a4,a5]
    by_cases h2:q=off+j
    · subst h2
      have a1:off+j<off+(j+1):=by omega
      have a2:off+j<cs.size:=by omega
      have a3:off+j<off+j+1+l.length:=by omega
      simp [a1,a2,a3]
    by_cases h3:q<off+j+(l.length+1)
    · have a1: ¬ q<off+j+1:=by omega
      have a2:q<off+j+1+l.length:=by omega
      have a3:q - (off+j)=(q - (off+j+1))+1:=by omega
      simp [h1,h3,a1,a2,a3]
    have a1: ¬ q<off+j+1+l.length:=by omega
    have a3: ¬ off+j=off+(j+1)+l.length+(q - (off+j+1+l.length)):=by omega
    have a4:off+(j+1)+l.length+(q - (off+j+1+l.length))=off+j+(l.length+1)+(q - (off+j+(l.length+1))):=by omega
    rw [if_neg (by omega),if_neg (by omega),if_neg (by omega),a4]
theorem q1_(place:Nat->Option (Nat×Nat)): ∀(parts:List (Nat×Value)) (cells:Array Value),Instr.fill place cells parts=(Lh place cells.toList parts).map List.toArray
  |[],cells=>by simp [Instr.fill,Lh]
  |(i,v)::rest,cells=>by
    unfold Instr.fill Lh;cases hp:place i with
    |none=>rfl
    |some x=>
      obtain ⟨off,size⟩:=x;simp only [Array.length_toList]
      by_cases hc:(decide (v.cells.size≠size) || decide (off+v.cells.size>cells.size))=true
      · simp only [hc,if_true];rfl
      simp only [hc];simp only [ne_eq,Bool.or_eq_true,iL,not_or,Decidable.not_not,gt_iff_lt,Nat.not_lt]at hc;rw [q1_ place rest];congr 2;have:=Ng_ v.cells.toList 0 off cells (by simp;omega);simp only [Nat.add_zero]at this;rw [<-this,<-Array.foldl_toList];simp
section
variable {X:Ctx} {e:Env} {σ:aj} {H F:List Res} {o:Oper} {x y:Operand} {K:Env->aj->List Res->Prop}
theorem xR{n:Nat}{a:Act}(ha:St n e a){d:Nat}(hd:o.dst=some d)(hn:Nat.blt d n=true)(v:Value):StD n (upd e d v) a (a.put o.dst v):=by
  rw [hd];exact ⟨ha.put (by simpa [Nat.blt_eq]using hn) v,rfl⟩
theorem jx_{n:Nat}{a:Act}(ha:St n e a)(hd:o.dst=none)(v:Value):StD n e a (a.put o.dst v):=by
  rw [hd];exact ha.d
theorem Reach.b1_{w0:World}{C:List Nat}{σ0:aj}{w:World}(h:Reach w0 C σ0 σ w H)(cs:Array Value)(E:TypeId):Reach w0 C σ0 σ (w.alloc (.cells cs E)) (ω w.heap.size cs E::H):=
  h.OT (some _) rfl rfl rfl rfl (by simp) (Nat.le_refl _) (λk hk=>Ol w _ k hk) (heap_alloc_new w _) (λb hb=>by cases hb;exact Nat.le_refl _)
theorem OpOk.box{E d:Nat}{v:Value}(ho:o.op= .box E x)(hd:o.dst=some d)(hn:Nat.blt d X.n=true)(hx:ev e x=v)(k: ∀b,K (upd e d (loc b 0)) σ (ω b v.cells E::H)):OpOk X o e σ H K:=by
  subst hx;intro u0 C0 τ0 w a hw ha K' Q hK;refine Oper.wG (w':=w.alloc (.cells (ev e x).cells E)) (v:=loc w.heap.size 0) ?_ (hK _ _ _ _ _ (k w.heap.size) (hw.b1_ _ _) (xR ha hd hn _));rw [ha.eval'];simp [execOp,ho,Instr.box,newVar,newRow,loc]
theorem OpOk.alloc{E d:Nat}{z:Value}(ho:o.op= .alloc E)(hz:zeroOf X.P E=some z)(hd:o.dst=some d)(hn:Nat.blt d X.n=true)(k: ∀b,K (upd e d (loc b 0)) σ (ω b z.cells E::H)):OpOk X o e σ H K:=by
  intro u0 C0 τ0 w a hw ha K' Q hK;refine Oper.wG (w':=w.alloc (.cells z.cells E)) (v:=loc w.heap.size 0) ?_ (hK _ _ _ _ _ (k w.heap.size) (hw.b1_ _ _) (xR ha hd hn _));simp [execOp,ho,Instr.alloc,PZ hz,newVar,newRow,loc]
theorem Reach.setCells{w0:World}{C:List Nat}{σ0:aj}{w:World}{b:Nat}{cs cs':Array Value}{E:TypeId}(h:Reach w0 C σ0 σ w (ω b cs E::F)):Reach w0 C σ0 σ (w.setRow b cs') (ω b cs' E::F):=
  h.F7 (some _) (some _) rfl rfl rfl rfl rfl (by simp) (Nat.le_refl _) (λk hk hne=>setRow_other w b k cs' (λhx=>hne (by subst hx;rfl))) (setRow_heap w b cs cs' E _ (h.holds _ (iU ..))) (λk hk=> .inl (by cases hk;rfl))
theorem OpOk.store{T b k s:Nat}{E:TypeId}{cs cs':Array Value}{v:Value}(ho:o.op= .store T x y)(hs:szOf X.P T=some s)(hd:o.dst=none)(hx:ev e x=loc b k)(hv:ev e y=v)(hvs:v.cells.size=s)
    (h1: ∀u∈v.cells.toList,u.oneCell'=true) (hfit:Nat.ble (k+s) cs.size=true) (hcs:(pI cs.toList k v.cells.toList).toArray=cs') (kk:K e σ (ω b cs' E::F)):OpOk X o e σ (ω b cs E::F) K:=by
  subst hv hcs;intro u0 C0 τ0 w a hw ha K' Q hK;have hb:w.heap[b]? =some (.cells cs E (0,0)):=hw.holds _ (iU ..);have hfit':=Nat.le_of_ble_eq_true hfit;have hst:=run_storeCells_at X.P b k E (ev e y).cells.toList 0 cs w hb (by simp [hvs];omega) h1;refine Oper.a1_ (w':=w.setRow b (pI cs.toList k (ev e y).cells.toList).toArray) ?_ (hK _ _ _ _ _ kk hw.setCells (jx_ ha hd _));rw [ha.eval'];simp only [Nat.add_zero]at hst;simp [execOp,ho,hx,loc,Instr.storeAt,Instr.sureAddr,storeVar,xX hs,hvs,pI,hst]
theorem OpOk.store1{T b k:Nat}{E:TypeId}{cs cs':Array Value}{v:Value}(ho:o.op= .store T x y)(hs:szOf X.P T=some 1)(hd:o.dst=none)(hx:ev e x=loc b k)(hv:ev e y=v)(hc:v.cells= #[v])(h1:v.oneCell'=true)
    (hfit:Nat.ble (k+1) cs.size=true) (hcs:(pI cs.toList k [v]).toArray=cs') (kk:K e σ (ω b cs' E::F)):OpOk X o e σ (ω b cs E::F) K:=
  OpOk.store (s:=1) ho hs hd hx hv (by rw [hc];rfl) (by rw [hc];intro u hu;simp at hu;subst hu;exact h1) hfit (by rw [hc];exact hcs) kk
section
variable {T b k:Nat} {E:TypeId} {cs cs':Array Value} (ho:o.op= .store T x y) (hs:szOf X.P T=some 1) (hd:o.dst=none) (hx:ev e x=loc b k) (hfit:Nat.ble (k+1) cs.size=true)
include ho hs hd hx hfit
theorem OpOk.c9_{q:IntKind}{i:Int}(hv:ev e y= .int q i)(hcs:(pI cs.toList k [.int q i]).toArray=cs')(kk:K e σ (ω b cs' E::F)):OpOk X o e σ (ω b cs E::F) K:=OpOk.store1 ho hs hd hx hv rfl rfl hfit hcs kk
theorem OpOk.storeB{i:Bool}(hv:ev e y= .bool i)(hcs:(pI cs.toList k [.bool i]).toArray=cs')(kk:K e σ (ω b cs' E::F)):OpOk X o e σ (ω b cs E::F) K:=OpOk.store1 ho hs hd hx hv rfl rfl hfit hcs kk
theorem OpOk.iH{a:Option Addr}{m c:Nat}(hv:ev e y= .slice a m c)(hcs:(pI cs.toList k [.slice a m c]).toArray=cs')(kk:K e σ (ω b cs' E::F)):OpOk X o e σ (ω b cs E::F) K:=OpOk.store1 ho hs hd hx hv rfl rfl hfit hcs kk
theorem OpOk.cm_{g m:Nat}(hv:ev e y=loc g m)(hcs:(pI cs.toList k [loc g m]).toArray=cs')(kk:K e σ (ω b cs' E::F)):OpOk X o e σ (ω b cs E::F) K:=OpOk.store1 ho hs hd hx hv rfl rfl hfit hcs kk
theorem OpOk.cn_{g:ByteArray}(hv:ev e y= .string g)(hcs:(pI cs.toList k [.string g]).toArray=cs')(kk:K e σ (ω b cs' E::F)):OpOk X o e σ (ω b cs E::F) K:=OpOk.store1 ho hs hd hx hv rfl rfl hfit hcs kk
end
theorem World.ownsRow.spliced{w:World}{base E size:Nat}{g n cap:Nat}{xs vs:List Value}{k:Nat}(P:Program)(h:w.ownsRow base E size (.slice (some ⟨g,0,none⟩) n cap) n xs)(hk:k+vs.length<=xs.length)(h1: ∀u∈vs,u.oneCell'=true):
    ∃w',(storeCells ⟨g,k,none⟩ vs 0).run P w= .ok () w'/\w'.ownsRow base E size (.slice (some ⟨g,0,none⟩) n cap) n (pI xs k vs)/\w.grownBy w' (some g)/\w.drawn<=w'.drawn:=by
  rcases h.2 with ⟨h',_⟩|⟨g',cap',cur,h',hb,hg,hnc,hcm,hcs,htake⟩
  · simp at h'
  simp only [Value.slice.injEq,Option.some.injEq,Addr.mk.injEq,and_true,true_and]at h';obtain ⟨rfl,rfl⟩:=h';have hxl:xs.length<=cur.size:=by rw [<-htake];simp;omega
  have hst:=run_storeCells_at P g k E vs 0 cur w hg (by omega) h1;simp only [Nat.add_zero]at hst;refine ⟨_,hst,⟨?_,.inr ⟨g,cap,_,rfl,hb,setRow_heap w g cur _ E _ hg,hnc,hcm,?_,?_⟩⟩,⟨rfl,rfl,rfl,by simp,λk' _ hk'=>setRow_other w g k' _ (λe=>hk' (by simp [e]))⟩,Nat.le_refl _⟩
  · simp only [pI,iK,List.length_take,List.length_drop]
    have:=h.1;omega
  · simp only [List.size_toArray,iK,List.length_take,List.length_drop,Array.length_toList]
    omega
  have hx:=h.1;have hlen:(cur.toList.take k++vs).length=k+vs.length:=by simp;omega
  rw [List.take_append,hlen,<-htake,pI,List.take_take,List.drop_take];rw [List.take_of_length_le (by rw [hlen];omega),Nat.min_eq_left (by omega)]
theorem pj_{xs vs:List Value}{k:Nat}(h: ∀u∈xs,u.oneCell'=true)(h': ∀u∈vs,u.oneCell'=true): ∀u∈pI xs k vs,u.oneCell'=true:=by
  intro u hu;simp only [pI,List.mem_append]at hu;rcases hu with (hu|hu)|hu
  · exact h u (List.mem_of_mem_take hu)
  · exact h' u hu
  exact h u (List.mem_of_mem_drop hu)
theorem OpOk.cr_{T k s E size m:Nat}{v u:Value}{xs:List Value}(ho:o.op= .store T x y)(hs:szOf X.P T=some s)(hd:o.dst=none)(hx:ev e x=lF v k)(hv:ev e y=u)(hus:u.cells.size=s)
    (h1: ∀c∈u.cells.toList,c.oneCell'=true) (h0:0<s) (hk:k+s<=xs.length) (kk:K e σ (Res.row E size v m (pI xs k u.cells.toList)::F)):OpOk X o e σ (Res.row E size v m xs::F) K:=by
  subst hv;intro u0 C0 τ0 w a hw ha K' Q hK;obtain ⟨hown,hone,hbg⟩:=hw.holds _ (iU ..);rcases id hown.2 with ⟨hv,hm⟩|⟨g,cap,cur,rfl,_⟩
  · exfalso;have h2:xs.length=0:=by rw [hown.1,hm];simp
    omega
  obtain ⟨w',hst,hown',hgr,hdr⟩:=World.ownsRow.spliced X.P hown (k:=k) (vs:=(ev e y).cells.toList) (by simp only [Array.length_toList];omega) h1;have hR:Reach u0 C0 τ0 σ w' (Res.row E size (.slice (some ⟨g,0,none⟩) m cap) m (pI xs k (ev e y).cells.toList)::F):=
    hw.F7 (some g) (some g) rfl rfl hgr.os hgr.tape hgr.output hgr.size hdr (λq hq hne=>hgr.block q hq (λhx=>hne (by simp [Res.row,Value.ownBlock];cases hx;rfl))) ⟨hown',pj_ hone h1,hbg⟩ (λq hq=> .inl hq)
  refine Oper.a1_ (w':=w') ?_ (hK _ _ _ _ _ kk hR (jx_ ha hd _));rw [ha.eval'];have hadd:(⟨g,0,none⟩:Addr).add k=⟨g,k,none⟩:=by rw [EK];simp
  simp [execOp,ho,hx,lF,Instr.storeAt,Instr.sureAddr,storeVar,xX hs,hus,hadd,hst]
theorem OpOk.make{T E size jY d m:Nat}{kl kc:IntKind}{z:Value}{zs:List Value}(ho:o.op= .makeSlice T x y)(ht:X.P.underlying T=some (.slice E))(hs:szOf X.P E=some size)(hby:byOf X.P E=some jY)(hz:zeroOf X.P E=some z)
    (hd:o.dst=some d) (hn:Nat.blt d X.n=true) (hx:ev e x= .int kl (m:Nat)) (hy:ev e y= .int kc (m:Nat)) (hb:jY * m<=281474976710656) (lW:0<jY)
    (hzs:(madeCells z.cells (m * size)).toList=zs) (h1: ∀u∈zs,u.oneCell'=true) (k: ∀a c,K (upd e d (.slice a m c)) σ (Res.row E size (.slice a m c) m zs::H)):OpOk X o e σ H K:=by
  subst hzs;obtain ⟨i,hi,hsz⟩:=PY hs;have hiz:i.zero=some z:=by simpa [zeroOf,hi]using hz
  have hib:i.bytes=jY:=by simpa [byOf,hi]using hby
  have hm:m<=281474976710656:=Nat.le_trans (Nat.le_mul_of_pos_left m lW) hb;intro u0 C0 τ0 w a hw ha K' Q hK;obtain ⟨w',hr,hown,hg⟩:=run_make_full (P:=X.P) w 0 T E i z size ht hi hiz hsz kl kc m (by rw [hib];exact hb) (by unfold maxLen;omega) (Nat.zero_le _);have hdr:w.drawn<=w'.drawn:=by
    have h:=run_make (P:=X.P) w T E i z ht hi hiz kl kc (m:Nat) (m:Nat) (by omega) (Int.le_refl _) (by rw [hib,<-Int.natCast_mul];omega) (by omega);rw [hr]at h
    injection h with _ h;rw [h];exact Nat.le_refl _
  refine Oper.wG (w':=w') ?_ (hK _ _ _ _ _ (k _ _) (hw.OT (some _) rfl hg.os hg.tape hg.output hg.size hdr (λq hq=>hg.block q hq (by simp)) ⟨hown,h1,hm⟩ (λb hb=>by cases hb;exact Nat.le_refl _)) (xR ha hd hn _));rw [ha.eval'];simp [execOp,ho,hx,hy,hr]
theorem OpOk.make0{T E size jY d m:Nat}{kl kc:IntKind}{z:Value}(ho:o.op= .makeSlice T x y)(ht:X.P.underlying T=some (.slice E))(hs:szOf X.P E=some size)(hby:byOf X.P E=some jY)(hz:zeroOf X.P E=some z)
    (hd:o.dst=some d) (hn:Nat.blt d X.n=true) (hx:ev e x= .int kl 0) (hy:ev e y= .int kc (m:Nat)) (hb:jY * m<=281474976710656) (lW:0<jY)
    (k: ∀a c,K (upd e d (.slice a 0 c)) σ (Res.row E size (.slice a 0 c) 0 []::H)):OpOk X o e σ H K:=by
  obtain ⟨i,hi,hsz⟩:=PY hs;have hiz:i.zero=some z:=by simpa [zeroOf,hi]using hz
  have hib:i.bytes=jY:=by simpa [byOf,hi]using hby
  have hm:m<=281474976710656:=Nat.le_trans (Nat.le_mul_of_pos_left m lW) hb;intro u0 C0 τ0 w a hw ha K' Q hK;obtain ⟨w',hr,hown,hg⟩:=run_make_own (P:=X.P) w 0 T E i z size ht hi hiz hsz kl kc m (by rw [hib];exact hb) (by unfold maxLen;omega) (Nat.zero_le _);have hdr:w.drawn<=w'.drawn:=by
    have h:=run_make (P:=X.P) w T E i z ht hi hiz kl kc 0 (m:Nat) (by omega) (by omega) (by rw [hib,<-Int.natCast_mul];omega) (by omega);rw [hr]at h
    injection h with _ h;rw [h];exact Nat.le_refl _
  refine Oper.wG (w':=w') ?_ (hK _ _ _ _ _ (k _ _) (hw.OT (some _) rfl hg.os hg.tape hg.output hg.size hdr (λq hq=>hg.block q hq (by simp)) ⟨hown,by simp,Nat.zero_le _⟩ (λb hb=>by cases hb;exact Nat.le_refl _)) (xR ha hd hn _));rw [ha.eval'];simp [execOp,ho,hx,hy,hr]
theorem Reach.nilRow{w0:World}{C:List Nat}{σ0:aj}{w:World}(h:Reach w0 C σ0 σ w H)(E size:Nat):Reach w0 C σ0 σ w (Res.row E size (.slice none 0 0) 0 []::H):=
  h.OT none rfl rfl rfl rfl (Nat.le_refl _) (Nat.le_refl _) (λ_ _=>rfl) ⟨World.ownsRow_nil w 0 E size,by simp,Nat.zero_le _⟩ (λb hb=>by cases hb)
def vr_(σ:aj)(H:List Res)(size:Nat)(u:Value)(m:Nat)(ys:List Value):Prop:=
  RV σ size u m ys\/ ∃(E:TypeId) (i:Nat),H[i]? =some (Res.row E size u m ys)
theorem vr_.spec{size m:Nat}{u:Value}{ys:List Value}(h:vr_ σ H size u m ys){w:World}(hw:kH σ H w):
    (u= .slice none 0 0/\m=0/\ys=[])\/ ∃ad c,u= .slice (some ad) m c/\ys.length=m * size/\(∀j q,ys[j]? =some q->w.cell? (ad.add j)=some q)/\ ∀q∈ys,q.oneCell'=true:=by
  rcases h with h|⟨E,i,hi⟩
  · obtain ⟨a,c,rfl,h0,hc⟩:=h.sl
    cases a with
    |none=>
      obtain ⟨rfl,rfl⟩:=h0 rfl;exact .inl ⟨rfl,rfl,FV (by simpa using h.len)⟩
    |some ad=>exact .inr ⟨ad,c,rfl,h.len,λj q hj=>hw.cell (h.cell ad _ c rfl j q hj),h.one⟩
  obtain ⟨hown,hone,_⟩:=hw.2 _ (List.mem_of_getElem? hi);rcases id hown.2 with ⟨rfl,rfl⟩|⟨g,cap,cur,rfl,_⟩
  · exact .inl ⟨rfl,rfl,FV (by simpa using hown.1)⟩
  exact .inr ⟨_,cap,rfl,hown.1,hown.cells (g:=g) rfl,hone⟩
theorem pz_ {P : Program} {w w' : World} (base : Nat) (t ty e : TypeId) (i : TypeInfo) (z : Value) (size bytes : Nat) (ht : P.underlying t = some (.slice e)) (hi : P.info? e = some i) (hz : i.zero = some z)
    (hsize:i.size=size) (hby:i.bytes=bytes) {v v':Value} {n:Nat} {xs:List Value} (hown:w.ownsRow base e size v n xs)
    (a:Addr) (m c:Nat) (news:List Value) (hl:news.length=m * size) (hnews: ∀j u,news[j]? =some u->w.cell? (a.add j)=some u) (h1: ∀u∈news,u.oneCell'=true)
    (h63:n+m<=maxLen) (hbytes:(n+m) * bytes<=140737488355328) (hrun:(Builtin.append_ #[t,t] ty #[v,.slice (some a) m c]).run P w= .ok v' w'):
    (v'.ownBlock=v.ownBlock\/v'.ownBlock=some w.heap.size)/\w.drawn<=w'.drawn:=by
  subst hsize hby;have hsmall:n+m<=9223372036854775807:=by simp only [maxLen]at h63;omega
  rcases hown.2 with ⟨rfl,rfl⟩|⟨g,cap,cur,rfl,hbg,hg,hnc,hcm,hcs,htake⟩
  · by_cases hm:m=0
    · subst hm
      have hr:(Builtin.append_ #[t,t] ty #[.slice none 0 0,.slice (some a) 0 c]).run P w= .ok (.slice none 0 0) w:=by
        simp [Builtin.append_,run_underlying ht,sizeOf,typeInfo,hi,Builtin.lenOf,Builtin.firstCells,loadCells,loadCellsFrom]
      rw [hrun]at hr;cases hr;exact ⟨.inl rfl,Nat.le_refl _⟩
    have hr:=run_append_nil (P:=P) w t ty e i z ht hi hz a m c news hl hnews (by omega) (by omega) (by have hb:=hbytes;simp only [Nat.zero_add]at hb;omega);rw [hrun]at hr;cases hr;exact ⟨.inr rfl,Nat.le_succ _⟩
  by_cases hroom:n+m<=cap
  · have hfit:n * i.size+news.length<=cur.size:=by rw [hl,hcs,<-Nat.add_mul];exact Nat.mul_le_mul_right _ hroom
    have hr:=run_append_room (P:=P) w t ty e i ht hi g n cap cur hg a m c news hl hnews h1 hroom hfit;rw [hrun]at hr;cases hr;exact ⟨.inl rfl,Nat.le_refl _⟩
  have holds: ∀j u,xs[j]? =some u->w.cell? ((⟨g,0,none⟩:Addr).add j)=some u:=hown.cells (g:=g) rfl;have hr:=run_append_grow (P:=P) w t ty e i z ht hi hz ⟨g,0,none⟩ n cap xs hown.1 holds a m c news hl hnews (by omega) (by omega) (growslice_fits (by omega) hbytes);rw [hrun]at hr;cases hr;exact ⟨.inr rfl,Nat.le_succ _⟩
theorem OpOk.append{T E size jY d m n:Nat}{z v u:Value}{xs ys:List Value}{ty:TypeId}(ho:o.op= .call {callee:= .builtin .append,args:= #[x,y],argTypes:= #[T,ty]})(hty:ty=T)(ht:X.P.underlying T=some (.slice E))(hs:szOf X.P E=some size)(hby:byOf X.P E=some jY)(hz:zeroOf X.P E=some z)
    (hd:o.dst=some d) (hn:Nat.blt d X.n=true) (hsz:0<size) (hzs:z.cells.size=size) (hx:ev e x=v) (hy:ev e y=u) (hsrc:vr_ σ F size u m ys) (hb0:(n+m) * jY<=140737488355328) (lW:0<jY)
    (k: ∀a c,K (upd e d (.slice a (n+m) c)) σ (Res.row E size (.slice a (n+m) c) (n+m) (xs++ys)::F)):OpOk X o e σ (Res.row E size v n xs::F) K:=by
  subst hty;obtain ⟨i,hi,hsi⟩:=PY hs;have hiz:i.zero=some z:=by simpa [zeroOf,hi]using hz
  have hib:i.bytes=jY:=by simpa [byOf,hi]using hby
  have hm0:n+m<=140737488355328:=Nat.le_trans (Nat.le_mul_of_pos_right _ lW) hb0;have hm:n+m<=maxLen:=by unfold maxLen;omega
  intro u0 C0 τ0 w a hw ha K' Q hK;obtain ⟨hown,hone,hbg⟩:=hw.holds _ (iU ..);have hF:kH σ F w:=⟨hw.fit,λr hr=>hw.holds r (rM _ hr)⟩;rcases hsrc.spec hF with ⟨rfl,rfl,rfl⟩|⟨ad,c,rfl,hl,hc,h1⟩
  · have hr:=run_append_owned_none (P:=X.P) (w:=w) 0 ty o.type E i size ht hi v n xs hown
    obtain ⟨av,cv,rfl,_,_⟩:=isSl_row hown;have hk:=k av cv;rw [List.append_nil,Nat.add_zero]at hk;refine Oper.wG (w':=w) (v:= .slice av n cv) ?_ (hK _ _ _ _ _ hk hw (xR ha hd hn _));rw [ha.eval'];simp [execOp,ho,resolve,invoke,builtin,hx,hy,hr]
  obtain ⟨v',w',hr,hown',hg,_⟩:=run_append_own (P:=X.P) w 0 ty o.type E i z size jY ht hi hiz hsi hib hzs hsz v n xs hown ad m c ys hl hc h1 hm hb0 (Nat.zero_le _);have hdr:w.drawn<=w'.drawn:=(pz_ 0 ty o.type E i z size jY ht hi hiz hsi hib hown ad m c ys hl hc h1 hm hb0 hr).2;have hone': ∀q∈xs++ys,q.oneCell'=true:=λq hq=>by
    rcases List.mem_append.1 hq with hq|hq
    · exact hone q hq
    exact h1 q hq
  have hbk: ∀b,v'.ownBlock=some b->v.ownBlock=some b\/w.heap.size<=b:=λb hb=>by
    rcases Nat.lt_or_ge b w.heap.size with hlt|hge
    · refine .inl (Classical.byContradiction λhne=> ?_)
      rcases (pz_ 0 ty o.type E i z size jY ht hi hiz hsi hib hown ad m c ys hl hc h1 hm hb0 hr).1 with h2|h2
      · exact hne (h2▸hb)
      rw [h2]at hb;cases hb;omega
    exact .inr hge
  have hR:Reach u0 C0 τ0 σ w' (Res.row E size v' (n+m) (xs++ys)::F):=
    hw.F7 (Value.ownBlock v) (Value.ownBlock v') rfl rfl hg.os hg.tape hg.output hg.size hdr (λq hq hne=>hg.block q hq (λhx=>hne hx.symm)) ⟨hown',hone',by omega⟩ hbk
  obtain ⟨av,cv,rfl,_,_⟩:=isSl_row hown';refine Oper.wG (w':=w') (v:= .slice av (n+m) cv) ?_ (hK _ _ _ _ _ (k av cv) hR (xR ha hd hn _));rw [ha.eval'];simp [execOp,ho,resolve,invoke,builtin,hx,hy,hr]
theorem OpOk.buildSlice{T E size d m:Nat}{parts:Array (Nat×Operand)}{z:Value}{cs:Array Value}(ho:o.op= .buildSlice T m parts)(ht:X.P.underlying T=some (.slice E))(hs:szOf X.P E=some size)(hz:zeroOf X.P E=some z)
    (hd:o.dst=some d) (hn:Nat.blt d X.n=true) (h0:m * size≠0) (hbig:m * size<=16777216)
    (hf:Instr.fill (λi=>some (i * size,size)) ((Array.range (m * size)).map (z.cells[· % z.cells.size]!)) (parts.toList.map λx=>(x.1,ev e x.2))=some cs) (hcs:cs.size=m * size) (hmax:m<=281474976710656) (h1: ∀u∈cs.toList,u.oneCell'=true)
    (k: ∀a c,K (upd e d (.slice a m c)) σ (Res.row E size (.slice a m c) m cs.toList::H)):OpOk X o e σ H K:=by
  intro u0 C0 τ0 w a hw ha K' Q hK;have hR:Reach u0 C0 τ0 σ (w.alloc (.cells cs E)) (Res.row E size (.slice (some ⟨w.heap.size,0,none⟩) m m) m cs.toList::H):=
    hw.OT (some _) rfl rfl rfl rfl (by simp) (Nat.le_refl _) (λk hk=>Ol w _ k hk)
      ⟨⟨by simpa using hcs,.inr ⟨w.heap.size,m,cs,rfl,Nat.zero_le _,heap_alloc_new w _,Nat.le_refl _,(by unfold maxLen;omega),hcs,by rw [<-hcs,<-Array.length_toList,List.take_length]⟩⟩,h1,hmax⟩ (λb hb=>by cases hb;exact Nat.le_refl _)
  refine Oper.wG (w':=w.alloc (.cells cs E)) (v:= .slice (some ⟨w.heap.size,0,none⟩) m m) ?_ (hK _ _ _ _ _ (k _ _) hR (xR ha hd hn _));rw [ha.eval'];have hbig': ¬ (16777216<m * size):=by omega
  simp [execOp,ho,Instr.buildSlice,run_underlying ht,xX hs,hbig',PZ hz,h0,hf,newRow]
theorem OpOk.call{f d:Nat}{opds:Array Operand}{ts:Array TypeId}{first cap:Array Value}{args:List Value}{Post:Value->aj->List Res->Prop}{H1:List Res}(hc:Con X.P f args.toArray σ H1 Post)(ho:o.op= .call {callee:= .value x,args:=opds,argTypes:=ts})
    (hx:ev e x= .func (.func f) first cap) (hp:plainF X.P f=true) (hargs:first.toList++(opds.toList.map (ev e)++cap.toList)=args) (hd:o.dst=some d) (hn:Nat.blt d X.n=true) (hH:H1++F=H)
    (k: ∀r σ' Jv,σ.le σ'->Post r σ' Jv->K (upd e d r) σ' (Jv++F)):OpOk X o e σ H K:=by
  subst hargs hH;intro u0 C0 τ0 w a hw ha K' Q hK;have hr:(execOp a.eval o).run X.P w= .ok (.enter f (first.toList++(opds.toList.map (ev e)++cap.toList)).toArray) w:=by
    rw [ha.eval'];have hl:(first.toList++(opds.toList.map (ev e)++cap.toList)).toArray=first++(opds.map (ev e)++cap):=by
      apply Array.ext';simp
    rw [hl];simp [execOp,ho,resolve,hx,Deferred.ofValue,invoke,Rk hp,Array.append_assoc]
  refine Oper.ce_ hr (hc w (hw.sub (List.sublist_append_left H1 F)).self) λex w' ⟨r,σ',H',he,hpost,hreach⟩=>⟨r,he,?_⟩;exact hK _ _ _ _ _ (k r σ' H' hreach.le hpost) (hw.call hreach) (xR ha hd hn _)
end
theorem Reach.O4{w0:World}{C:List Nat}{σ0 σ:aj}{w:World}{F:List Res}{E size n:Nat}{v:Value}{xs:List Value}(h:Reach w0 C σ0 σ w (Res.row E size v n xs::F)):
    ∃σ',Reach w0 C σ0 σ' w F/\σ.le σ'/\RV σ' size v n xs:=by
  obtain ⟨hown,hone,hbg⟩:=h.holds _ (iU ..);have hsl:=isSl_row hown;rcases id hown.2 with ⟨rfl,rfl⟩|⟨g,cap,cur,rfl,_,hg,h1,h2,h3,h4⟩
  · have hx:xs=[]:=FV (by simpa using hown.1)
    subst hx;exact ⟨σ,h.sub (List.sublist_cons_self _ _),aj.le.refl _,RV.nil σ size⟩
  obtain ⟨hr,hle⟩:=h.sealB (b:=g) rfl hg;refine ⟨_,hr,hle,⟨hsl,hown.1,?_,hone,hbg⟩⟩;intro a m c hv j u hj;cases hv;rw [EK];unfold aj.cell;simp only [aj.with,if_true];rw [<-h4,List.getElem?_take]at hj
  split at hj
  · simpa using hj
  cases hj
section
variable {X:Ctx} {ops:Array Oper} {Q:QP} {e:Env} {σ:aj} {F:List Res} {c:Code} {l:List Oper} {E size n:Nat} {v:Value} {xs:List Value}
theorem TC.O4(k: ∀σ',σ.le σ'->RV σ' size v n xs->TC X Q c e σ' F):TC X Q c e σ (Res.row E size v n xs::F):=λw a hw ha=>by
  obtain ⟨σ',h1,h2,h3⟩:=hw.self.O4;exact k σ' h2 h3 w a (hw.step h1 rfl) ha
theorem TL.O4(k: ∀σ',σ.le σ'->RV σ' size v n xs->TL X ops Q l e σ' F):TL X ops Q l e σ (Res.row E size v n xs::F):=λw a hw ha=>by
  obtain ⟨σ',h1,h2,h3⟩:=hw.self.O4;exact k σ' h2 h3 w a (hw.step h1 rfl) ha
theorem TC.nilRow(E size:Nat){H:List Res}(k:TC X Q c e σ (Res.row E size (.slice none 0 0) 0 []::H)):TC X Q c e σ H:=λw a hw ha=>k w a (hw.by λ_ h=>h.nilRow E size) ha
theorem TL.nilRow(E size:Nat){H:List Res}(k:TL X ops Q l e σ (Res.row E size (.slice none 0 0) 0 []::H)):TL X ops Q l e σ H:=λw a hw ha=>k w a (hw.by λ_ h=>h.nilRow E size) ha
theorem TC.isSl{H:List Res}{i:Nat}(hi:H[i]? =some (Res.row E size v n xs))(k:uo v n->n<=281474976710656->xs.length=n * size->TC X Q c e σ H):TC X Q c e σ H:=λw a hw ha=>by
  have h:=hw.holds _ (List.mem_of_getElem? hi);exact k (isSl_row h.1) h.2.2 h.1.1 w a hw ha
theorem TL.isSl{H:List Res}{i:Nat}(hi:H[i]? =some (Res.row E size v n xs))(k:uo v n->n<=281474976710656->xs.length=n * size->TL X ops Q l e σ H):TL X ops Q l e σ H:=λw a hw ha=>by
  have h:=hw.holds _ (List.mem_of_getElem? hi);exact k (isSl_row h.1) h.2.2 h.1.1 w a hw ha
end
def after? (ops : Array Oper) : Nat -> Nat -> Nat -> Bool
  |0,_,_=>false
  |f+1,j,i=>match ops[j]? with
    |some o=>o.after.toList.any λe=>Region.binds .any e && (e.on == i || after? ops f e.on i)
    |none=>false
section lateness
variable {r:Option Nat} {P:Program} {ops:Array Oper} {Q:Exit->Act->World->Prop} {S:World->Prop} {late:List Nat}
theorem i6_{i:Nat}{o:Oper}{v:Value}{a:Act}(hi:ops[i]? =some o)(hy:YieldsIf P ops S o v a){K:Act->World->Prop}{w:World}(hS:S w)(h:K (a.put o.dst v) w):wpOpIn (fence r) 0 P ops Q i K a w:=by
  unfold wpOpIn;simp only [hi];rcases hy with ⟨hw,hv⟩|⟨hw,rfl⟩
  · simp only [hw,if_true];exact Oper.wG (hv w hS) h
  simp only [hw,Bool.false_eq_true,if_false];exact ⟨λ_ _=>trivial,h⟩
theorem nt_{i:Nat}{o:Oper}{v:Value}{a:Act}(hi:ops[i]? =some o)(hy:Yields P ops o v a){K:Act->World->Prop}{w:World}(h:K (a.put o.dst v) w):wpOpIn (fence r) 0 P ops Q i K a w:=
  i6_ (S:=λ_=>True) hi hy.yieldsIf trivial h
theorem sb_ {C : Act -> Prop} {j : Nat} {oi oj : Oper} {v : Value} (hj : ops[j]? = some oj) (hap : oi.apart ops oj = true) (hsi : ∀ cs b, oi.op ≠ .select cs b) (hsj : ∀ cs b, oj.op ≠ .select cs b) (hnd : ∀ c, oj.op ≠ .defer c)
    (hQ: ∀c a w,Q (.panic c) (a.put oi.dst v) w->Q (.panic c) a w) {K:Act->World->Prop} {a:Act} {w:World}
    (keep: ∀u,C (a.put oj.dst u)) (keepD: ∀d,C ({a with defers:=d::a.defers}.put oj.dst undef)) (h:wpOpIn (fence r) 0 P ops Q j K (a.put oi.dst v) w):
    wpOpIn (fence r) 0 P ops Q j (λa' w'=>C a'/\K (a'.put oi.dst v) w') a w:=by
  obtain ⟨h1,h2,h3⟩:=Oper.apart_spec hap;unfold wpOpIn at *;simp only [hj]at *;rw [wanted_put oj a oi.dst v h1]at h
  split
  · rename_i hw
    simp only [hw,if_true]at h;unfold Oper.wpIn at *;refine ⟨λ_ _=>trivial,?_⟩;have h:=h.2;rw [Oper.semAt_eq _ _ _ hnd,execOp_put oj hsj a oi.dst v h1]at h;rw [Oper.semAt_eq _ _ _ hnd];generalize (execOp a.eval oj).run P w=q at *;cases q with
    |ok x w'=>
      cases x<;>simp only [Oper.uponIn]at h ⊢
      case value u=>exact ⟨keep u,by rw [<-Act.put_comm a v u h2];exact h⟩
      case skip=>exact ⟨keep _,by rw [<-Act.put_comm a v undef h2];exact h⟩
      case enter f args=>
        refine ⟨h.1,CallsIn.mono h.2 λe w'' he=> ?_⟩;cases e with
        |returned u=>exact ⟨keep u,by rw [<-Act.put_comm a v u h2];exact he⟩
        |panicked c=>exact hQ _ _ _ he
        |outgrown=>exact he
      case row row args=>exact ⟨h.1,RowsIn.mono h.2 λu w'' he=>⟨keep u,by rw [<-Act.put_comm a v u h2];exact he⟩⟩
      case round l f tmps assign body=>
        refine ⟨h.1,RoundIn.mono h.2 λe w'' he=> ?_⟩;cases e with
        |returned u=>exact ⟨keep u,by rw [<-Act.put_comm a v u h2];exact he⟩
        |panicked c=>exact hQ _ _ _ he
        |outgrown=>exact he
      case defer d=>
        refine ⟨keepD d,?_⟩;rw [<-Act.put_comm _ v undef h2,<-Act.put_defers];exact h
    |halt x w'=>
      cases x<;>simp only [Oper.uponIn]at h ⊢
      case panic u=>exact hQ _ _ _ h
  rename_i hw
  simp only [hw]at h;exact ⟨λ_ _=>trivial,keep _,by rw [<-Act.put_comm a v undef h2];exact h.2⟩
theorem wo_{j:Nat}{oi oj:Oper}{v:Value}(hj:ops[j]? =some oj)(hap:oi.apart ops oj=true)(hsi: ∀cs b,oi.op≠ .select cs b)(hsj: ∀cs b,oj.op≠ .select cs b)(hnd: ∀c,oj.op≠ .defer c)
    (hQ: ∀c a w,Q (.panic c) (a.put oi.dst v) w->Q (.panic c) a w) {K:Act->World->Prop} {a:Act} {w:World}
    (hy:YieldsIf P ops S oi v a) (h:wpOpIn (fence r) 0 P ops Q j K (a.put oi.dst v) w):
    wpOpIn (fence r) 0 P ops Q j (λa' w'=>YieldsIf P ops S oi v a'/\K (a'.put oi.dst v) w') a w:=by
  obtain ⟨h1,h2,h3⟩:=Oper.apart_spec hap;have keep: ∀(a:Act),YieldsIf P ops S oi v a-> ∀u,YieldsIf P ops S oi v (a.put oj.dst u):=λa hy u=>hy.of_same (execOp_put oi hsi a oj.dst u h3) (wanted_put oi a oj.dst u h3);exact sb_ (C:=YieldsIf P ops S oi v) hj hap hsi hsj hnd hQ (keep a hy) (λd=>keep {a with defers:=d::a.defers} (hy.of_same rfl rfl) undef) h
theorem wpOp_put{j:Nat}{oi oj:Oper}{v:Value}(hj:ops[j]? =some oj)(hap:oi.apart ops oj=true)(hsi: ∀cs b,oi.op≠ .select cs b)(hsj: ∀cs b,oj.op≠ .select cs b)(hnd: ∀c,oj.op≠ .defer c)
    (hQ: ∀c a w,Q (.panic c) (a.put oi.dst v) w->Q (.panic c) a w) {K:Act->World->Prop} {a:Act} {w:World}
    (hy:Yields P ops oi v a) (h:wpOpIn (fence r) 0 P ops Q j K (a.put oi.dst v) w):
    wpOpIn (fence r) 0 P ops Q j (λa' w'=>Yields P ops oi v a'/\K (a'.put oi.dst v) w') a w:=by
  obtain ⟨h1,h2,h3⟩:=Oper.apart_spec hap;have keep: ∀(a:Act),Yields P ops oi v a-> ∀u,Yields P ops oi v (a.put oj.dst u):=λa hy u=>hy.of_same (execOp_put oi hsi a oj.dst u h3) (wanted_put oi a oj.dst u h3);exact sb_ (C:=Yields P ops oi v) hj hap hsi hsj hnd hQ (keep a hy) (λd=>keep {a with defers:=d::a.defers} (hy.of_same rfl rfl) undef) h
def ne_(ops:Array Oper):Bool:=ops.all λo=>match o.op with| .defer _=>false|_=>true
def nv_(ops:Array Oper):Prop:= ∀(j:Nat) (o:Oper),ops[j]? =some o-> ∀c,o.op≠ .defer c
theorem pv_(h:ne_ ops=true):nv_ ops:=λj o ho c hc=>by
  have:=Array.all_eq_true_iff_forall_mem.1 h o (Array.mem_of_getElem? ho);simp [hc]at this
def UN (r : Option Nat) (P : Program) (ops : Array Oper) (Q : Exit -> Act -> World -> Prop) (S : World -> Prop) (late : List Nat) : Nat -> Array Bool -> Act -> World -> Prop
  |0,listed,a,w=>Region.ready .any ops listed=[]/\Q .normal a w
  |fuel+1,listed,a,w=>
    (Region.ready .any ops listed=[]->Q .normal a w)/\
    ∀i∈Region.ready .any ops listed,wpOpIn (fence r) 0 P ops Q i (λa' w'=>(late.contains i=false->S w->S w')/\UN r P ops Q S late fuel (listed.setIfInBounds i true) a' w') a w
theorem i9_: ∀(fuel:Nat) (listed:Array Bool) (a:Act) (w:World),UN r P ops Q S late fuel listed a w->wpAnyIn (fence r) 0 P .any ops Q fuel listed a w
  |0,_,_,_,h=>h
  |fuel+1,_,_,_,h=>⟨h.1,λi hi=>wpOpIn_mono (λa' w' h'=>i9_ fuel _ a' w' h'.2) (h.2 i hi)⟩
def QY(ops:Array Oper)(listed:Array Bool):Prop:= ∀k o,ops[k]? =some o->listed.getD k false=true-> ∀e∈o.after,Region.binds .any e=true->listed.getD e.on false=true
theorem mg_(ops:Array Oper)(n:Nat):QY ops (Array.replicate n false):=λk o _ h=>by
  simp only [Array.getD_eq_getD_getElem?,Array.getElem?_replicate]at h
  split at h<;>simp at h
theorem s2_{l:Array Bool}{i:Nat}(h:l.getD i false=true):i<l.size:=by
  rcases Nat.lt_or_ge i l.size with h'|h'
  · exact h'
  simp [Array.getD_eq_getD_getElem?,Array.getElem?_eq_none h']at h
theorem p3_{listed:Array Bool}{j:Nat}(h:j∈Region.ready .any ops listed): ∃o,ops[j]? =some o/\ ∀e∈o.after,Region.binds .any e=true->listed.getD e.on false=true:=by
  obtain ⟨_,oj,hoj,hall⟩:=mem_ready.1 h;exact ⟨oj,hoj,λe he hb=>by have:=hall e he hb;simpa using this⟩
theorem QY.step{listed:Array Bool}(hc:QY ops listed){j:Nat}(hj:j∈Region.ready .any ops listed):QY ops (listed.setIfInBounds j true):=by
  have up: ∀i,listed.getD i false=true->(listed.setIfInBounds j true).getD i false=true:=λi hi=>getD_set_true hi;obtain ⟨o',ho',hdeps⟩:=p3_ hj;intro k o hk hl e he hb
  by_cases hkj:j=k
  · subst hkj
    rw [ho']at hk;cases hk;exact up _ (hdeps e he hb)
  rw [getD_set_ne false hkj]at hl;exact up _ (hc k o hk hl e he hb)
theorem QY.after{listed:Array Bool}(hc:QY ops listed): ∀(f j i:Nat),(∀o,ops[j]? =some o-> ∀e∈o.after,Region.binds .any e=true->listed.getD e.on false=true)->after? ops f j i=true->listed.getD i false=true
  |0,_,_,_,h=>by simp [after?]at h
  | f + 1, j, i, hd, h => by
    unfold after? at h
    split at h
    · rename_i o ho
      simp only [List.any_eq_true,Bool.and_eq_true,Bool.or_eq_true,beq_iff_eq]at h;obtain ⟨e,he,hb,h⟩:=h;have he':e∈o.after:=by simpa using he
      have hl:=hd o ho e he' hb;rcases h with rfl|h
      · exact hl
      exact hc.after f e.on i (λo' ho' e' he'' hb'=>hc e.on o' ho' hl e' he'' hb') h
    cases h
theorem mn_ {i : Nat} {oi : Oper} {v : Value} (hi : ops[i]? = some oi) (hsel : ∀ (j : Nat) (o : Oper) cs b, ops[j]? = some o -> o.op ≠ .select cs b) (hnd : nv_ ops)
    (hQ: ∀c a w,Q (.panic c) (a.put oi.dst v) w->Q (.panic c) a w) (hlate: ∀j∈late, ∃f,after? ops f j i=true):
    ∀(fuel:Nat) (listed:Array Bool) (a:Act) (w:World),QY ops listed->
      (∀j oj,ops[j]? =some oj->j≠i->listed.getD j true=false->(∀e∈oj.after,Region.binds .any e=true->e.on≠i)->oi.apart ops oj=true)->
      i∈Region.ready .any ops listed->YieldsIf P ops S oi v a->S w->
      UN r P ops Q S late fuel (listed.setIfInBounds i true) (a.put oi.dst v) w->UN r P ops Q S late (fuel+1) listed a w:=by
  intro fuel
  induction fuel with
  |zero=>
    intro listed a w _ _ hr hy hS H;refine ⟨λh=>(by rw [h]at hr;cases hr),λj hj=> ?_⟩
    by_cases hji:j=i
    · subst hji;exact i6_ hi hy hS ⟨λ_ h=>h,H⟩
    have:=ready_mono hj hji;rw [H.1]at this;cases this
  |succ fuel ih=>
    intro listed a w hcl hfree hr hy hS H;refine ⟨λh=>(by rw [h]at hr;cases hr),λj hj=> ?_⟩
    by_cases hji:j=i
    · subst hji;exact i6_ hi hy hS ⟨λ_ h=>h,H⟩
    have hnl:late.contains j=false:=by
      cases hl:late.contains j with
      |false=>rfl
      |true=>
        obtain ⟨f,hf⟩:=hlate j (by simpa using hl);obtain ⟨oj,hoj,hd⟩:=p3_ hj;have h1:=hcl.after f j i (λo ho=>by rw [hoj]at ho;cases ho;exact hd) hf;have h0:=(mem_ready.1 hr).1;have hlt:=s2_ h1;simp [Array.getD_eq_getD_getElem?,hlt]at h0 h1;rw [h0]at h1;cases h1
    have h1:=H.2 j (ready_mono hj hji);obtain ⟨hjun,oj,hoj,hall⟩:=mem_ready.1 hj;have hnot: ∀e∈oj.after,Region.binds .any e=true->e.on≠i:=λe he hb heq=>by
      have h1:=hall e he hb;have h0:=(mem_ready.1 hr).1;rw [heq]at h1;rcases Nat.lt_or_ge i listed.size with h'|h'
      · simp [h']at h0 h1;rw [h0]at h1;cases h1
      simp [Array.getElem?_eq_none h']at h1
    have h2:=wo_ hoj (hfree j oj hoj hji hjun hnot) (λcs b=>hsel i oi cs b hi) (λcs b=>hsel j oj cs b hoj) (hnd j oj hoj) hQ hy h1;have hfree': ∀k ok,ops[k]? =some ok->k≠i->(listed.setIfInBounds j true).getD k true=false->
        (∀e∈ok.after,Region.binds .any e=true->e.on≠i)->oi.apart ops ok=true:=λk ok hk hki hun hno=>by
      refine hfree k ok hk hki ?_ hno
      by_cases hjk:j=k
      · subst hjk;exact hjun
      rw [getD_set_ne true hjk]at hun;exact hun
    refine wpOpIn_mono (λa' w' h3=>⟨h3.2.1,ih (listed.setIfInBounds j true) a' w' (hcl.step hj) hfree' (ready_mono hr (Ne.symm hji)) h3.1 (h3.2.1 hnl hS) ?_⟩) h2;rw [Array.setIfInBounds_comm _ _ hji];exact h3.2.2
theorem q0_ {i : Nat} {oi : Oper} {v : Value} (hi : ops[i]? = some oi) (hsel : ∀ (j : Nat) (o : Oper) cs b, ops[j]? = some o -> o.op ≠ .select cs b) (hnd : nv_ ops)
    (hQ: ∀c a w,Q (.panic c) (a.put oi.dst v) w->Q (.panic c) a w):
    ∀(fuel:Nat) (listed:Array Bool) (a:Act) (w:World),QY ops listed->
      (∀j oj,ops[j]? =some oj->j≠i->listed.getD j true=false->(∀e∈oj.after,Region.binds .any e=true->e.on≠i)->oi.apart ops oj=true)->
      i∈Region.ready .any ops listed->Yields P ops oi v a->
      UN r P ops Q S late fuel (listed.setIfInBounds i true) (a.put oi.dst v) w->UN r P ops Q S late (fuel+1) listed a w:=by
  intro fuel
  induction fuel with
  |zero=>
    intro listed a w _ _ hr hy H;refine ⟨λh=>(by rw [h]at hr;cases hr),λj hj=> ?_⟩
    by_cases hji:j=i
    · subst hji;exact nt_ hi hy ⟨λ_ h=>h,H⟩
    have:=ready_mono hj hji;rw [H.1]at this;cases this
  |succ fuel ih=>
    intro listed a w hcl hfree hr hy H;refine ⟨λh=>(by rw [h]at hr;cases hr),λj hj=> ?_⟩
    by_cases hji:j=i
    · subst hji;exact nt_ hi hy ⟨λ_ h=>h,H⟩
    have h1:=H.2 j (ready_mono hj hji);obtain ⟨hjun,oj,hoj,hall⟩:=mem_ready.1 hj;have hnot: ∀e∈oj.after,Region.binds .any e=true->e.on≠i:=λe he hb heq=>by
      have h1:=hall e he hb;have h0:=(mem_ready.1 hr).1;rw [heq]at h1;rcases Nat.lt_or_ge i listed.size with h'|h'
      · simp [h']at h0 h1;rw [h0]at h1;cases h1
      simp [Array.getElem?_eq_none h']at h1
    have h2:=wpOp_put hoj (hfree j oj hoj hji hjun hnot) (λcs b=>hsel i oi cs b hi) (λcs b=>hsel j oj cs b hoj) (hnd j oj hoj) hQ hy h1;have hfree': ∀k ok,ops[k]? =some ok->k≠i->(listed.setIfInBounds j true).getD k true=false->
        (∀e∈ok.after,Region.binds .any e=true->e.on≠i)->oi.apart ops ok=true:=λk ok hk hki hun hno=>by
      refine hfree k ok hk hki ?_ hno
      by_cases hjk:j=k
      · subst hjk;exact hjun
      rw [getD_set_ne true hjk]at hun;exact hun
    refine wpOpIn_mono (λa' w' h3=>⟨h3.2.1,ih (listed.setIfInBounds j true) a' w' (hcl.step hj) hfree' (ready_mono hr (Ne.symm hji)) h3.1 ?_⟩) h2;rw [Array.setIfInBounds_comm _ _ hji];exact h3.2.2
end lateness
def TA(X:Ctx)(ops:Array Oper)(Q:QP)(σr:aj)(Hr:List Res)(late:List Nat)(fuel:Nat)(listed:Array Bool)(e:Env)(σ:aj)(H:List Res):Prop:=
  nv_ ops-> ∀w a,RM X a σ w H->kH σr Hr w->QY ops listed->St X.n e a->UN X.rnd X.P ops (Exit.c2_ (low X Q)) (kH σr Hr) late fuel listed a w
def TZ(X:Ctx)(ops:Array Oper)(Q:QP)(σr:aj)(Hr:List Res)(late:List Nat)(fuel:Nat)(listed:Array Bool)(e:Env)(σ:aj)(H:List Res):Prop:=
  nv_ ops-> ∀w a,RM X a σ w H->St X.n e a->UN X.rnd X.P ops (Exit.c2_ (low X Q)) (kH σr Hr) late fuel listed a w
section draw
variable {X:Ctx} {ops:Array Oper} {Q:QP} {e:Env} {σ σr:aj} {H Hr:List Res} {late:List Nat} {fuel:Nat} {listed:Array Bool}
theorem TC.draw{id:Nat}(late:List Nat)(hm:X.P.follows .mixedOrders=true)(h:TA X ops Q σ H late ops.size (Array.replicate ops.size false) e σ H)(hnd:ne_ ops=true:=by kernel_rfl):TC X Q (.region id ops true) e σ H:=λw a hw ha=>
  Go.wpIn_mono (wpIn_region_any hm (i9_ _ _ _ _ (h (pv_ hnd) w.drew a hw.drew hw.drew.sees (mg_ _ _) ha))) λex a w h=>by
    cases ex<;>first|exact h|exact h.elim
theorem TA.take(i:Nat){oi:Oper}{v:Value}{d:Nat}(hi:ops[i]? =some oi)(hs:Region.noSelect ops=true)(hf:Region.free .any ops listed i=true)(hr:(Region.ready .any ops listed).contains i=true)
    (hl:late.all (λj=>after? ops ops.size j i)=true) (hg:oi.guard=none) (hv:OpVal X.P X.n oi e σr Hr v) (hd:oi.dst=some d) (hn:Nat.blt d X.n=true)
    (k:TA X ops Q σr Hr late fuel (listed.setIfInBounds i true) (upd e d v) σ H):TA X ops Q σr Hr late (fuel+1) listed e σ H:=λhnd w a hw hS hcl ha=>by
  have hr':i∈Region.ready .any ops listed:=by simpa using hr
  refine mn_ hi (Region.noSelect_spec hs) hnd (λc a w h=>h.elim) (λj hj=>⟨ops.size,(List.all_eq_true.1 hl) j hj⟩) fuel listed a w hcl (Region.free_spec hi hf) hr'
    (.inl ⟨by simp [Region.wanted,hg],λw' hw'=>by rw [ha.eval'];exact hv w' hw'⟩) hS ?_
  rw [hd];exact k hnd w _ (hw.step hw.self rfl) hS (hcl.step hr') (ha.put (by simpa [Nat.blt_eq]using hn) v)
theorem TA.OU(i:Nat){oi:Oper}{v:Value}{d:Nat}(hi:ops[i]? =some oi)(hs:Region.noSelect ops=true)(hf:Region.free .any ops listed i=true)(hr:(Region.ready .any ops listed).contains i=true)
    (hg:oi.guard=none) (hv:OpVal X.P X.n oi e (λ_=>none) [] v) (hd:oi.dst=some d) (hn:Nat.blt d X.n=true)
    (k:TA X ops Q σr Hr late fuel (listed.setIfInBounds i true) (upd e d v) σ H):TA X ops Q σr Hr late (fuel+1) listed e σ H:=λhnd w a hw hS hcl ha=>by
  have hr':i∈Region.ready .any ops listed:=by simpa using hr
  refine q0_ hi (Region.noSelect_spec hs) hnd (λc a w h=>h.elim) fuel listed a w hcl (Region.free_spec hi hf) hr'
    (.inl ⟨by simp [Region.wanted,hg],λw'=>by rw [ha.eval'];exact hv w' ⟨λ_ _ h=>(by cases h),λ_ h=>(by cases h)⟩⟩) ?_
  rw [hd];exact k hnd w _ (hw.step hw.self rfl) hS (hcl.step hr') (ha.put (by simpa [Nat.blt_eq]using hn) v)
theorem qp_{r:Option Nat}{P:Program}{Q:Exit->Act->World->Prop}{i:Nat}{oi:Oper}{a:Act}{w:World}{K:Act->World->Prop}(hi:ops[i]? =some oi)(hg:oi.guard=none)(h:oi.wpIn (fence r) 0 P a w K Q):wpOpIn (fence r) 0 P ops Q i K a w:=by
  unfold wpOpIn;simp only [hi,Region.wanted,hg,if_true];exact h
theorem TA.act(i:Nat){oi:Oper}(hr:Region.ready .any ops listed=[i])(hi:ops[i]? =some oi)(hg:oi.guard=none)
    (h:OpOk X oi e σ H λe' σ' H'=>(∀w,kH σ' H' w->kH σr Hr w)/\TA X ops Q σr Hr late fuel (listed.setIfInBounds i true) e' σ' H'):TA X ops Q σr Hr late (fuel+1) listed e σ H:=λhnd w a hw hS hcl ha=>by
  refine ⟨λh0=>(by rw [hr]at h0;cases h0),λj hj=> ?_⟩;have hst:=hcl.step hj;rw [hr]at hj;simp at hj;subst hj;exact qp_ hi hg (h.at hw ha λe' σ' H' a' w' ⟨hs,hk⟩ hw' ha'=>⟨λ_ _=>hs w' hw'.sees,hk hnd w' a' hw' (hs w' hw'.sees) hst ha'⟩)
theorem TA.last(i:Nat){oi:Oper}(hr:Region.ready .any ops listed=[i])(hl:late.contains i=true)(hi:ops[i]? =some oi)(hg:oi.guard=none)
    (h:OpOk X oi e σ H λe' σ' H'=>TZ X ops Q σr Hr late fuel (listed.setIfInBounds i true) e' σ' H'):TA X ops Q σr Hr late (fuel+1) listed e σ H:=λhnd w a hw hS hcl ha=>by
  refine ⟨λh0=>(by rw [hr]at h0;cases h0),λj hj=> ?_⟩;rw [hr]at hj;simp at hj;subst hj;exact qp_ hi hg (h.at hw ha λe' σ' H' a' w' hk hw' ha'=>⟨λh0=>(by rw [hl]at h0;cases h0),hk hnd w' a' hw' ha'⟩)
theorem TZ.last(i:Nat){oi:Oper}(hr:Region.ready .any ops listed=[i])(hl:late.contains i=true)(hi:ops[i]? =some oi)(hg:oi.guard=none)
    (h:OpOk X oi e σ H λe' σ' H'=>TZ X ops Q σr Hr late fuel (listed.setIfInBounds i true) e' σ' H'):TZ X ops Q σr Hr late (fuel+1) listed e σ H:=λhnd w a hw ha=>by
  refine ⟨λh0=>(by rw [hr]at h0;cases h0),λj hj=> ?_⟩;rw [hr]at hj;simp at hj;subst hj;exact qp_ hi hg (h.at hw ha λe' σ' H' a' w' hk hw' ha'=>⟨λh0=>(by rw [hl]at h0;cases h0),hk hnd w' a' hw' ha'⟩)
theorem TA.front(i:Nat){r:Res}{F:List Res}(hi:H[i]? =some r)(hF:H.eraseIdx i=F)(h:TA X ops Q σr Hr late fuel listed e σ (r::F)):TA X ops Q σr Hr late fuel listed e σ H:=λhnd w a hw hS hc ha=>h hnd w a (hw.perm (PX hi hF)) hS hc ha
theorem TZ.front(i:Nat){r:Res}{F:List Res}(hi:H[i]? =some r)(hF:H.eraseIdx i=F)(h:TZ X ops Q σr Hr late fuel listed e σ (r::F)):TZ X ops Q σr Hr late fuel listed e σ H:=λhnd w a hw ha=>h hnd w a (hw.perm (PX hi hF)) ha
theorem TA.isSl{E size n:Nat}{v:Value}{xs:List Value}{i:Nat}(hi:H[i]? =some (Res.row E size v n xs))(k:uo v n->n<=281474976710656->xs.length=n * size->TA X ops Q σr Hr late fuel listed e σ H):TA X ops Q σr Hr late fuel listed e σ H:=λhnd w a hw=>by
  have h:=hw.holds _ (List.mem_of_getElem? hi);exact k (isSl_row h.1) h.2.2 h.1.1 hnd w a hw
theorem TZ.done(hr:Region.ready .any ops listed=[])(h:Q .normal e σ H):TZ X ops Q σr Hr late fuel listed e σ H:=λhnd w a hw ha=>by
  have hq:low X Q .normal a w:=⟨e,σ,H,ha,hw,h⟩;cases fuel with
  |zero=>exact ⟨hr,hq⟩
  |succ f=>exact ⟨λ_=>hq,by rw [hr];simp⟩
theorem TA.done(hr:Region.ready .any ops listed=[])(h:Q .normal e σ H):TA X ops Q σr Hr late fuel listed e σ H:=λhnd w a hw _ _ ha=>TZ.done hr h hnd w a hw ha
theorem qj{σ σ':aj}{H H':List Res}(hle:σ.le σ')(hs: ∀r∈H,r∈H')(w:World)(h:kH σ' H' w):kH σ H w:=
  ⟨λb o hb=>h.1 b o (hle b o hb),λr hr=>h.2 r (hs r hr)⟩
end draw
section
variable {P:Program} {n:Nat} {e:Env} {σ:aj} {H:List Res} {o:Oper} {x y:Operand}
theorem TL.v{X:Ctx}{ops:Array Oper}{Q:QP}{rest:List Oper}{v:Value}{d:Nat}(hg:o.guard=none)(h:OpVal X.P X.n o e σ H v)(hd:o.dst=some d)(hn:Nat.blt d X.n=true)(k:TL X ops Q rest (upd e d v) σ H):
    TL X ops Q (o::rest) e σ H:=φ hg (h.ok hd hn k)
theorem TL.gv{X:Ctx}{ops:Array Oper}{Q:QP}{rest:List Oper}{v:Value}{d j dj:Nat}{b:Bool}{oj:Oper}(hg:o.guard=some (j,b))(hj:ops[j]? =some oj)(hdj:oj.dst=some dj)(hnj:Nat.blt dj X.n=true)(hb:e dj= .bool b)
    (h:OpVal X.P X.n o e σ H v) (hd:o.dst=some d) (hn:Nat.blt d X.n=true) (k:TL X ops Q rest (upd e d v) σ H):
    TL X ops Q (o::rest) e σ H:=TL.gon hg hj hdj hnj hb (h.ok hd hn k)
theorem δ{X:Ctx}{ops:Array Oper}{Q:QP}{l:List Oper}{t:Bool}(dj:Nat)(hb:e dj= .bool t)(ht:t=true->TL X ops Q l (upd e dj (.bool true)) σ H)(hf:t=false->TL X ops Q l (upd e dj (.bool false)) σ H):TL X ops Q l e σ H:=by
  have he: ∀b,t=b->upd e dj (.bool b)=e:=λb h=>by
    funext i;unfold upd;split
    · subst_vars;rw [hb]
    rfl
  cases t
  · have:=hf rfl;rwa [he _ rfl]at this
  have:=ht rfl;rwa [he _ rfl]at this
theorem OpVal.of{v v':Value}(h:OpVal P n o e σ H v)(hv:v=v'):OpVal P n o e σ H v':=hv▸h
def EI(op:Op)(x:Operand):Prop:=op= .move x\/op= .assign x
theorem OpVal.mv(ho:EI o.op x):OpVal P n o e σ H (ev e x):=by
  rcases ho with h|h
  · exact .move h
  exact .assign h
theorem OpVal.l7{k:IntKind}{a:Int}(ho:EI o.op x)(hx:ev e x= .int k a):OpVal P n o e σ H (.int k a):=hx▸ .mv ho
theorem OpVal.moveB{b:Bool}(ho:EI o.op x)(hx:ev e x= .bool b):OpVal P n o e σ H (.bool b):=hx▸ .mv ho
theorem OpVal.Z8{a:Option Addr}{m c:Nat}(ho:EI o.op x)(hx:ev e x= .slice a m c):OpVal P n o e σ H (.slice a m c):=hx▸ .mv ho
theorem OpVal.cg_{b k:Nat}(ho:EI o.op x)(hx:ev e x=loc b k):OpVal P n o e σ H (loc b k):=hx▸ .mv ho
theorem OpVal.d2_{a:Option Addr}(ho:EI o.op x)(hx:ev e x= .pointer a):OpVal P n o e σ H (.pointer a):=hx▸ .mv ho
theorem OpVal.IJ{s:ByteArray}(ho:EI o.op x)(hx:ev e x= .string s):OpVal P n o e σ H (.string s):=hx▸ .mv ho
theorem OpVal.bv_{r:Option Nat}(ho:EI o.op x)(hx:ev e x= .map r):OpVal P n o e σ H (.map r):=hx▸ .mv ho
theorem OpVal.RN{f:Fn}{a b:Array Value}(ho:EI o.op x)(hx:ev e x= .func f a b):OpVal P n o e σ H (.func f a b):=hx▸ .mv ho
theorem OpVal.moveT{cs:Array Value}(ho:EI o.op x)(hx:ev e x= .tuple cs):OpVal P n o e σ H (.tuple cs):=hx▸ .mv ho
theorem OpVal.lenC{t E m c:Nat}{a:Option Addr}(ho:o.op= .call {callee:= .builtin .len,args:= #[x],argTypes:= #[t]})(ht:P.underlying t=some (.slice E))(hx:ev e x= .slice a m c):
    OpVal P n o e σ H (.int .i64 (m:Nat)):=λw _=>by
  simp [execOp,ho,resolve,invoke,builtin,hx,Builtin.len_,run_underlying ht,goInt]
theorem OpVal.Ba{b k:Nat}(ho:o.op= .nilCheck x)(hx:ev e x=loc b k):OpVal P n o e σ H (loc b k):=OpVal.nilCheck (a:=⟨b,k,none⟩) ho hx
theorem OpVal.Gj{c a b:Operand}{p:Bool}(ho:o.op= .pick c a b)(hc:ev e c= .bool true)(ha:ev e a= .bool p):OpVal P n o e σ H (.bool p):= .pickT ho hc rfl ha
theorem OpVal.Jo{c a b:Operand}{p:Bool}(ho:o.op= .pick c a b)(hc:ev e c= .bool false)(ha:ev e b= .bool p):OpVal P n o e σ H (.bool p):= .pickF ho hc rfl ha
structure RS {α:Type} (σ:aj) (size:Nat) (enc:α->List Value) (v:Value) (l:List α):Prop where
  rv:RV σ size v l.length (l.flatMap enc)
  len: ∀x,(enc x).length=size
theorem RS.mono{α:Type}{σ τ:aj}{size:Nat}{enc:α->List Value}{v:Value}{l:List α}(h:RS σ size enc v l)(hle:σ.le τ):RS τ size enc v l:=⟨h.rv.mono hle,h.len⟩
theorem uf{α:Type}{enc:α->List Value}{size:Nat}(h: ∀x,(enc x).length=size): ∀l:List α,(l.flatMap enc).length=l.length * size
  |[]=>by simp
  |x::l=>by rw [List.flatMap_cons,iK,h x,uf h l,List.length_cons,Nat.add_mul];omega
theorem ZG{α:Type}{enc:α->List Value}{size:Nat}(h: ∀x,(enc x).length=size): ∀(l:List α) (i j:Nat) (x:α),l[i]? =some x->j<size->(l.flatMap enc)[i * size+j]? =(enc x)[j]?
  |[],i,j,x,hi,_=>by simp at hi
  |y::l,0,j,x,hi,hj=>by
    simp at hi;subst hi;rw [List.flatMap_cons,Nat.zero_mul,Nat.zero_add,List.getElem?_append_left (by rw [h y];exact hj)]
  |y::l,i+1,j,x,hi,hj=>by
    simp at hi;rw [List.flatMap_cons,List.getElem?_append_right (by rw [h y,Nat.add_mul];omega),h y];have:(i+1) * size+j - size=i * size+j:=by rw [Nat.add_mul];omega
    rw [this];exact ZG h l i j x hi hj
theorem i4_{α:Type}{enc:α->List Value}{size:Nat}(h: ∀x,(enc x).length=size): ∀(l:List α) (i:Nat) (x:α),l[i]? =some x->((l.flatMap enc).drop (i * size)).take size=enc x
  |[],i,x,hi=>by simp at hi
  |y::l,0,x,hi=>by
    simp at hi;subst hi;rw [List.flatMap_cons,Nat.zero_mul,List.drop_zero,List.take_append_of_le_length (by rw [h y];exact Nat.le_refl _),List.take_of_length_le (by rw [h y];exact Nat.le_refl _)]
  |y::l,i+1,x,hi=>by
    simp at hi;rw [List.flatMap_cons,Nat.add_mul,Nat.one_mul,Nat.add_comm,<-List.drop_drop,List.drop_left' (h y)];exact i4_ h l i x hi
def nth{α:Type}(l:List α)(i:Nat)(d:α):α:=l.getD i d
theorem getD_some{α:Type}(l:List α){i:Nat}(hi:i<l.length)(d:α):l[i]? =some (nth l i d):=by
  simp [nth,hi]
theorem OpVal.loadS{α:Type}{T size i j:Nat}{enc:α->List Value}{v u:Value}{l:List α}(d:α)(ho:o.op= .load T x)(hA:aggOf P T=some false)(hx:ev e x=lF v (i * size+j))(hR:RS σ size enc v l)(hi:i<l.length)
    (hj:j<size) (hu:(enc (nth l i d))[j]? =some u):OpVal P n o e σ H u:=
  OpVal.loadEl ho hA hx hR.rv (by rw [ZG hR.len l i j _ (getD_some l hi d) hj];exact hu)
theorem OpVal.dc_{α:Type}{T i:Nat}{enc:α->List Value}{v u:Value}{l:List α}(d:α)(ho:o.op= .load T x)(hA:aggOf P T=some false)(hx:ev e x=lF v (i * 1))(hR:RS σ 1 enc v l)(hi:i<l.length)
    (hu:(enc (nth l i d))[0]? =some u):OpVal P n o e σ H u:=
  OpVal.loadS (j:=0) d ho hA hx hR hi (by omega) hu
theorem OpVal.du_{α:Type}{T size i:Nat}{enc:α->List Value}{v:Value}{l:List α}(d:α)(ho:o.op= .load T x)(hA:aggOf P T=some true)(hz:szOf P T=some size)(hx:ev e x=lF v (i * size))(hR:RS σ size enc v l)(hi:i<l.length)(h0:0<size):
    OpVal P n o e σ H (.agg (enc (nth l i d)).toArray):=
  OpVal.cx_ ho hA hz hx hR.rv h0 (hR.len _) (i4_ hR.len l i _ (getD_some l hi d))
theorem sub_seg{α:Type}{enc:α->List Value}{size:Nat}(h: ∀x,(enc x).length=size)(l:List α)(i j s:Nat)(x:α)(hi:l[i]? =some x)(hj:j+s<=size):((l.flatMap enc).drop (i * size+j)).take s=((enc x).drop j).take s:=by
  rw [<-i4_ h l i x hi,<-List.drop_drop,List.drop_take,List.take_take,Nat.min_eq_left (by omega)]
theorem OpVal.c5_{α:Type}{T size i j s:Nat}{enc:α->List Value}{v:Value}{l:List α}{us:List Value}(d:α)(ho:o.op= .load T x)(hA:aggOf P T=some true)(hz:szOf P T=some s)(hx:ev e x=lF v (i * size+j))(hR:RS σ size enc v l)(hi:i<l.length)(h0:0<s)(hj:j+s<=size)
    (hu:((enc (nth l i d)).drop j).take s=us) (hl:us.length=s):OpVal P n o e σ H (.agg us.toArray):=
  OpVal.cx_ ho hA hz hx hR.rv h0 hl (by rw [sub_seg hR.len l i j s _ (getD_some l hi d) hj];exact hu)
theorem OpVal.ZJ{α:Type}{T E size i j q:Nat}{enc:α->List Value}{v u:Value}{l:List α}(d:α)(ho:o.op= .load T x)(hA:aggOf P T=some false)(hx:ev e x=lF v (i * size+j))(hq:H[q]? =some (Res.row E size v l.length (l.flatMap enc)))(hl: ∀x,(enc x).length=size)(hi:i<l.length)
    (hj:j<size) (hu:(enc (nth l i d))[j]? =some u):OpVal P n o e σ H u:=
  OpVal.loadRow ho hA hx hq (by rw [ZG hl l i j _ (getD_some l hi d) hj];exact hu)
theorem OpVal.c4_{α:Type}{T E i q:Nat}{enc:α->List Value}{v u:Value}{l:List α}(d:α)(ho:o.op= .load T x)(hA:aggOf P T=some false)(hx:ev e x=lF v (i * 1))(hq:H[q]? =some (Res.row E 1 v l.length (l.flatMap enc)))(hl: ∀x,(enc x).length=1)(hi:i<l.length)
    (hu:(enc (nth l i d))[0]? =some u):OpVal P n o e σ H u:=
  OpVal.ZJ (j:=0) d ho hA hx hq hl hi (by omega) hu
theorem OpVal.loadOA{α:Type}{T E size i q:Nat}{enc:α->List Value}{v:Value}{l:List α}(d:α)(ho:o.op= .load T x)(hA:aggOf P T=some true)(hz:szOf P T=some size)(hx:ev e x=lF v (i * size))(hq:H[q]? =some (Res.row E size v l.length (l.flatMap enc)))(hl: ∀x,(enc x).length=size)(hi:i<l.length)(h0:0<size):
    OpVal P n o e σ H (.agg (enc (nth l i d)).toArray):=
  OpVal.dj_ ho hA hz hx hq h0 (hl _) (i4_ hl l i _ (getD_some l hi d))
theorem RS.b0_{α:Type}{size m c:Nat}{enc:α->List Value}{l:List α}(h:RS σ size enc (.slice none m c) l):l=[]:=by
  obtain ⟨a,c',hv,h0,_⟩:=h.rv.sl;cases hv;exact FV (h0 rfl).1
end
def Agr(M:List Nat)(e' e:Env):Prop:= ∀t,M.contains t=false->e' t=e t
theorem Agr.refl(M:List Nat)(e:Env):Agr M e e:=λ_ _=>rfl
theorem Agr.upd{M:List Nat}{e' e:Env}{d:Nat}{v:Value}(hd:M.contains d=true)(h:Agr M e' e):Agr M (Go.E.upd e' d v) e:=λt ht=>by
  unfold Go.E.upd
  split
  · subst_vars;rw [hd]at ht;cases ht
  exact h t ht
theorem Agr.mask{M:List Nat}{j e:Env}:Agr M (Go.E.mask M j e) e:=λt ht=>by unfold Go.E.mask;rw [ht];rfl
theorem Agr.trans{M:List Nat}{a b c:Env}(h:Agr M a b)(k:Agr M b c):Agr M a c:=λt ht=>(h t ht).trans (k t ht)
theorem Agr.weak{M M':List Nat}{a b:Env}(h:Agr M' a b)(hs:M'.all (λt=>M.contains t)=true):Agr M a b:=λt ht=>h t (by
  cases hc:M'.contains t with
  |false=>rfl
  |true=>have:=List.all_eq_true.1 hs t (by simpa using hc);rw [ht]at this;cases this)
def Has(e:Env):List (Nat×Value)->Prop
  |[]=>True
  |(t,v)::r=>e t=v/\Has e r
def upds(e:Env):List (Nat×Value)->Env
  |[]=>e
  |(t,v)::r=>upd (upds e r) t v
theorem nw_{e:Env}: ∀{l:List (Nat×Value)},Has e l->upds e l=e
  |[],_=>rfl
  |(t,v)::r,h=>by
    unfold upds;rw [nw_ h.2]
    funext i;unfold upd;split
    · subst_vars;exact h.1.symm
    rfl
theorem ur_{M:List Nat}{e' e:Env}{l:List (Nat×Value)}(h:Agr M e' e)(hl:Has e' l):e'=upds (mask M e' e) l:=by
  have hm:mask M e' e=e':=by
    funext t;unfold mask;split
    · rfl
    rename_i hc;exact (h t (by simpa using hc)).symm
  rw [hm,nw_ hl]
def ε{α:Type}(E size:Nat)(enc:α->List Value)(v:Value)(l:List α):Res:=Res.row E size v l.length (l.flatMap enc)
def jq(v:Value)(σ:aj):Value->aj->List Res->Prop:=λr σ' H'=>r=v/\σ'=σ/\H'=[]
def RowP{α:Type}(E size:Nat)(enc:α->List Value)(l:List α)(σ:aj):Value->aj->List Res->Prop:=λr σ' H'=>(∃a c,r= .slice a l.length c)/\σ'=σ/\H'=[ε E size enc r l]
def yo_(v:Value)(σ:aj)(H1:List Res):Value->aj->List Res->Prop:=λr σ' H'=>r=v/\σ'=σ/\H'=H1
section rets
variable {P:Program} {fn:Func} {n:Nat} {e:Env} {σ:aj} {H:List Res} {ex:Exit}
theorem DL{t:Nat}{v:Value}(hr:fn.results= #[.tmp t])(h:e t=v):RetOk P fn n (jq v σ) .ret e σ H:=
  RetOk.of [] (.inl rfl) ((EJ.one hr).eq h) (List.nil_sublist _) ⟨rfl,rfl,rfl⟩
theorem v4_{α:Type}{E size t c:Nat}{a:Option Addr}{enc:α->List Value}{l:List α}(hr:fn.results= #[.tmp t])(h:e t= .slice a l.length c):RetOk P fn n (RowP E size enc l σ) .ret e σ (ε E size enc (.slice a l.length c) l::H):=
  RetOk.of [ε E size enc (.slice a l.length c) l] (.inl rfl) ((EJ.one hr).eq h) (List.Sublist.cons_cons _ (List.nil_sublist _)) ⟨⟨a,c,rfl⟩,rfl,rfl⟩
end rets
section calls
variable {X:Ctx} {e:Env} {σ:aj} {H F:List Res} {o:Oper} {x y:Operand} {K:Env->aj->List Res->Prop}
theorem OpOk.gI{f d:Nat}{opds:Array Operand}{ts:Array TypeId}{first cap:Array Value}{args:List Value}{v:Value}(hc:Con X.P f args.toArray σ [] (jq v σ))(ho:o.op= .call {callee:= .value x,args:=opds,argTypes:=ts})
    (hx:ev e x= .func (.func f) first cap) (hp:plainF X.P f=true) (hargs:first.toList++(opds.toList.map (ev e)++cap.toList)=args) (hd:o.dst=some d) (hn:Nat.blt d X.n=true)
    (k:K (upd e d v) σ H):OpOk X o e σ H K:=
  OpOk.call (H1:=[]) hc ho hx hp hargs hd hn rfl λr σ' H' _ ⟨h1,h2,h3⟩=>by subst h1 h2 h3;exact k
theorem OpOk.OQ{f d:Nat}{opds:Array Operand}{ts:Array TypeId}{first cap:Array Value}{args:List Value}{v:Value}{H1:List Res}(hc:Con X.P f args.toArray σ H1 (yo_ v σ H1))(ho:o.op= .call {callee:= .value x,args:=opds,argTypes:=ts})
    (hx:ev e x= .func (.func f) first cap) (hp:plainF X.P f=true) (hargs:first.toList++(opds.toList.map (ev e)++cap.toList)=args) (hd:o.dst=some d) (hn:Nat.blt d X.n=true) (hH:H1++F=H)
    (k:K (upd e d v) σ (H1++F)):OpOk X o e σ H K:=
  OpOk.call (H1:=H1) hc ho hx hp hargs hd hn hH λr σ' H' _ ⟨h1,h2,h3⟩=>by subst h1 h2 h3;exact k
theorem OpOk.ZL{f d:Nat}{opds:Array Operand}{ts:Array TypeId}{first cap:Array Value}{args:List Value}{v:Value}{H1:List Res}(hc:Con X.P f args.toArray σ H1 (jq v σ))(ho:o.op= .call {callee:= .value x,args:=opds,argTypes:=ts})
    (hx:ev e x= .func (.func f) first cap) (hp:plainF X.P f=true) (hargs:first.toList++(opds.toList.map (ev e)++cap.toList)=args) (hd:o.dst=some d) (hn:Nat.blt d X.n=true) (hH:H1++F=H)
    (k:K (upd e d v) σ F):OpOk X o e σ H K:=
  OpOk.call (H1:=H1) hc ho hx hp hargs hd hn hH λr σ' H' _ ⟨h1,h2,h3⟩=>by subst h1 h2 h3;exact k
def rq_{α:Type}(σ:aj)(H:List Res)(size:Nat)(enc:α->List Value)(u:Value)(l:List α):Prop:=
  RS σ size enc u l\/ ∃(E:TypeId) (i:Nat),H[i]? =some (ε E size enc u l)
theorem OpOk.bp_{α:Type}{T E size jY d:Nat}{enc:α->List Value}{z v u:Value}{l l2:List α}{ty:TypeId}(ho:o.op= .call {callee:= .builtin .append,args:= #[x,y],argTypes:= #[T,ty]})(hty:ty=T)(ht:X.P.underlying T=some (.slice E))(hs:szOf X.P E=some size)(hby:byOf X.P E=some jY)(hz:zeroOf X.P E=some z)
    (hd:o.dst=some d) (hn:Nat.blt d X.n=true) (hsz:0<size) (hzs:z.cells.size=size) (hx:ev e x=v) (hy:ev e y=u) (hsrc:rq_ σ F size enc u l2) (hb0:(l.length+l2.length) * jY<=140737488355328) (lW:0<jY)
    (k: ∀a c,K (upd e d (.slice a (l++l2).length c)) σ (ε E size enc (.slice a (l++l2).length c) (l++l2)::F)):OpOk X o e σ (ε E size enc v l::F) K:=by
  refine OpOk.append ho hty ht hs hby hz hd hn hsz hzs hx hy (m:=l2.length) (ys:=l2.flatMap enc) ?_ hb0 lW λa c=> ?_
  · rcases hsrc with h|⟨E',i,h⟩
    · exact .inl h.rv
    exact .inr ⟨E',i,h⟩
  have h:=k a c;rw [iK]at h;have e1: ∀v',Res.row E size v' (l.length+l2.length) (l.flatMap enc++l2.flatMap enc)=ε E size enc v' (l++l2):=λv'=>by
    simp only [ε,List.flatMap_append,iK]
  rw [e1];exact h
theorem TC.jO{α:Type}{Q:QP}{c:Code}{E size:Nat}{enc:α->List Value}{v:Value}{l:List α}(hl: ∀x,(enc x).length=size)(k: ∀σ',σ.le σ'->RS σ' size enc v l->TC X Q c e σ' F):TC X Q c e σ (ε E size enc v l::F):=
  TC.O4 λσ' h1 h2=>k σ' h1 ⟨h2,hl⟩
theorem TL.jO{α:Type}{Q:QP}{ops:Array Oper}{ol:List Oper}{E size:Nat}{enc:α->List Value}{v:Value}{l:List α}(hl: ∀x,(enc x).length=size)(k: ∀σ',σ.le σ'->RS σ' size enc v l->TL X ops Q ol e σ' F):TL X ops Q ol e σ (ε E size enc v l::F):=
  TL.O4 λσ' h1 h2=>k σ' h1 ⟨h2,hl⟩
theorem TC.nilS{α:Type}{Q:QP}{c:Code}(E size:Nat)(enc:α->List Value)(k:TC X Q c e σ (ε E size enc (.slice none 0 0) []::H)):TC X Q c e σ H:=TC.nilRow E size k
theorem TL.nilS{α:Type}{Q:QP}{ops:Array Oper}{ol:List Oper}(E size:Nat)(enc:α->List Value)(k:TL X ops Q ol e σ (ε E size enc (.slice none 0 0) []::H)):TL X ops Q ol e σ H:=TL.nilRow E size k
theorem hq_ {α : Type} {enc : α -> List Value} (z : Value) (d : α) (hz : z.cells.toList = enc d) (m : Nat) (h0 : 0 < (enc d).length) : (madeCells z.cells (m * (enc d).length)).toList = (List.replicate m d).flatMap enc := by
  have hsz:z.cells.size=(enc d).length:=by rw [<-hz];simp
  induction m with
  |zero=>simp [madeCells]
  |succ m ih=>
    rw [List.replicate_succ',List.flatMap_append,<-ih];apply List.ext_getElem?;intro i;simp only [madeCells,Array.toList_map,Array.toList_range,List.getElem?_map,List.getElem?_append,List.length_map,List.length_range,List.flatMap_cons,List.flatMap_nil,List.append_nil]
    by_cases h1:i<m * (enc d).length
    · have h2:i<(m+1) * (enc d).length:=by rw [Nat.add_mul];omega
      simp [h1,h2]
    by_cases h2:i<(m+1) * (enc d).length
    · have h3:i - m * (enc d).length<(enc d).length:=by rw [Nat.add_mul]at h2;omega
      have h4:i % z.cells.size=i - m * (enc d).length:=by
        rw [hsz];have:i=(i - m * (enc d).length)+(enc d).length * m:=by rw [Nat.mul_comm (enc d).length m];omega
        rw [this,Nat.add_mul_mod_self_left,Nat.mod_eq_of_lt h3,Nat.mul_comm (enc d).length m];omega
      rw [if_neg h1,List.getElem?_range h2,Option.map_some,h4];have h5:i - m * (enc d).length<z.cells.size:=by rw [hsz];exact h3
      generalize i - m * (enc d).length=k at *;rw [getElem!_pos z.cells _ h5,<-hz];simp [h5]
    have h3:(enc d).length<=i - m * (enc d).length:=by rw [Nat.add_mul]at h2;omega
    rw [if_neg h1,List.getElem?_eq_none h3,List.getElem?_eq_none (by simp;omega)];rfl
theorem OpOk.lit{α:Type}{T E size d m:Nat}{enc:α->List Value}{parts:Array (Nat×Operand)}{z:Value}(l:List α)(ho:o.op= .buildSlice T m parts)(ht:X.P.underlying T=some (.slice E))(hs:szOf X.P E=some size)(hz:zeroOf X.P E=some z)
    (hd:o.dst=some d) (hn:Nat.blt d X.n=true) (hm:l.length=m) (hl: ∀x,(enc x).length=size) (h0:m * size≠0) (hbig:m * size<=16777216)
    (x0:α) (hx0:z.cells.toList=enc x0) (h00:0<size)
    (hf:Lh (λi=>some (i * size,size)) ((List.replicate m x0).flatMap enc) (parts.toList.map λx=>(x.1,ev e x.2))=some (l.flatMap enc)) (hmax:m<=281474976710656) (h1: ∀x, ∀u∈enc x,u.oneCell'=true)
    (k: ∀a c,K (upd e d (.slice a l.length c)) σ (ε E size enc (.slice a l.length c) l::H)):OpOk X o e σ H K:=by
  subst hm;have hmade:((Array.range (l.length * size)).map (z.cells[· % z.cells.size]!)).toList=(List.replicate l.length x0).flatMap enc:=by
    have:=hq_ z x0 hx0 l.length (by rw [hl];exact h00);rw [hl]at this;exact this
  refine OpOk.buildSlice (cs:=(l.flatMap enc).toArray) ho ht hs hz hd hn h0 hbig ?_ (by simp [uf hl]) hmax (λu hu=> ?_) λa c=> ?_
  · rw [q1_,hmade,hf];rfl
  · rw [List.mem_flatMap]at hu
    obtain ⟨q,_,hq⟩:=hu;exact h1 q u hq
  exact k a c
theorem OpOk.Ll{α:Type}{T E size d:Nat}{enc:α->List Value}{parts:Array (Nat×Operand)}(ho:o.op= .buildSlice T 0 parts)(hp:parts= #[])(ht:X.P.underlying T=some (.slice E))(hs:szOf X.P E=some size)
    (hd:o.dst=some d) (hn:Nat.blt d X.n=true) (k: ∀a c,K (upd e d (.slice a 0 c)) σ (ε E size enc (.slice a 0 c) []::H)):OpOk X o e σ H K:=by
  subst hp;intro u0 C0 τ0 w a hw ha K' Q hK;have hR:Reach u0 C0 τ0 σ (w.alloc (.cells #[] E)) (ε E size enc (.slice (some ⟨w.heap.size,0,none⟩) 0 0) []::H):=
    hw.OT (some _) rfl rfl rfl rfl (by simp) (Nat.le_refl _) (λk hk=>Ol w _ k hk)
      ⟨⟨by simp,.inr ⟨w.heap.size,0, #[],rfl,Nat.zero_le _,heap_alloc_new w _,Nat.le_refl _,Nat.zero_le _,by simp,by simp⟩⟩,by simp,Nat.zero_le _⟩ (λb hb=>by cases hb;exact Nat.le_refl _)
  refine Oper.wG (w':=w.alloc (.cells #[] E)) (v:= .slice (some ⟨w.heap.size,0,none⟩) 0 0) ?_ (hK _ _ _ _ _ (k _ _) hR (xR ha hd hn _));rw [ha.eval'];simp [execOp,ho,Instr.buildSlice,run_underlying ht,xX hs,Instr.fill,newRow,Array.range_zero']
theorem OpOk.makeS{α:Type}{T E size jY d m:Nat}{enc:α->List Value}{kl kc:IntKind}{z:Value}(x0:α)(ho:o.op= .makeSlice T x y)(ht:X.P.underlying T=some (.slice E))(hs:szOf X.P E=some size)(hby:byOf X.P E=some jY)(hz:zeroOf X.P E=some z)
    (hd:o.dst=some d) (hn:Nat.blt d X.n=true) (hx:ev e x= .int kl (m:Nat)) (hy:ev e y= .int kc (m:Nat)) (hb:jY * m<=281474976710656) (lW:0<jY) (hl: ∀x,(enc x).length=size) (h0:0<size)
    (hz0:z.cells.toList=enc x0) (h1: ∀x, ∀u∈enc x,u.oneCell'=true) (k: ∀a c,K (upd e d (.slice a m c)) σ (ε E size enc (.slice a m c) (List.replicate m x0)::H)):OpOk X o e σ H K:=by
  refine OpOk.make (zs:=(List.replicate m x0).flatMap enc) ho ht hs hby hz hd hn hx hy hb lW ?_ (λu hu=> ?_) λa c=> ?_
  · rw [<-hl x0];exact hq_ z x0 hz0 m (by rw [hl];exact h0)
  · rw [List.mem_flatMap]at hu
    obtain ⟨q,_,hq⟩:=hu;exact h1 q u hq
  have:=k a c;simpa only [ε,oI]using this
theorem op_{α:Type}{enc:α->List Value}{size:Nat}(hl: ∀x,(enc x).length=size)(x:α): ∀(l:List α) (i:Nat),i<l.length->pI (l.flatMap enc) (i * size) (enc x)=(l.set i x).flatMap enc
  |[],i,h=>by simp at h
  |y::l,0,_=>by
    simp only [pI,Nat.zero_mul,List.take_zero,List.nil_append,List.flatMap_cons,List.set_cons_zero,Nat.zero_add];rw [hl x,List.drop_left' (hl y)]
  |y::l,i+1,h=>by
    have ih:=op_ hl x l i (by simpa using h);simp only [pI]at ih;simp only [pI,List.flatMap_cons,List.set_cons_succ,<-ih];have h1:(i+1) * size=size+i * size:=by rw [Nat.add_mul];omega
    rw [h1,List.take_append,hl y,Nat.add_sub_cancel_left,List.take_of_length_le (by rw [hl y];omega)];have h2:size+i * size+(enc x).length=size+(i * size+(enc x).length):=by omega
    rw [h2,<-List.drop_drop,List.drop_left' (hl y)];simp
theorem OpOk.b8_{α:Type}{T E size i:Nat}{enc:α->List Value}{v u:Value}{l:List α}(q:α)(ho:o.op= .store T x y)(hs:szOf X.P T=some size)(hd:o.dst=none)(hx:ev e x=lF v (i * size))(hv:ev e y=u)(hu:u.cells.toList=enc q)(hl: ∀x,(enc x).length=size)
    (h1: ∀x, ∀u∈enc x,u.oneCell'=true) (h0:0<size) (hi:i<l.length) (kk:K e σ (ε E size enc v (l.set i q)::F)):OpOk X o e σ (ε E size enc v l::F) K:=by
  have hus:u.cells.size=size:=by rw [<-Array.length_toList,hu,hl]
  refine OpOk.cr_ ho hs hd hx hv hus (by rw [hu];exact h1 q) h0 ?_ ?_
  · rw [uf hl]
    have h1:(i+1) * size<=l.length * size:=Nat.mul_le_mul_right _ hi;rw [Nat.add_mul]at h1;omega
  rw [hu,op_ hl q l i hi];simpa only [ε,fV]using kk
end calls
theorem TC.c1_{X:Ctx}{Q:QP}{c:Code}{e:Env}{σ:aj}{H:List Res}{α:Type}(M:List Nat)(S:α->List (Nat×Value))(Hf:α->List Res)(σf:α->aj)(I:α->Prop)(μ:α->Nat)(a0:α)
    (h0:I a0) (hS:Has e (S a0)) (hH:H=Hf a0) (hσ:σ=σf a0)
    (round: ∀(a:α) (j:Env),I a->TC X (seqQ (λe' σ' H'=>Agr M e' e/\ ∃a',μ a'<μ a/\I a'/\Has e' (S a')/\H'=Hf a'/\σ'=σf a') Q) c (upds (mask M j e) (S a)) (σf a) (Hf a)):TC X Q (.loop c) e σ H:=by
  refine TC.loop (λk e' σ' H'=> ∃a,μ a=k/\I a/\Agr M e' e/\Has e' (S a)/\H'=Hf a/\σ'=σf a) (μ a0) ⟨a0,rfl,h0,Agr.refl _ _,hS,hH,hσ⟩ ?_;rintro k e' σ' H' ⟨a,rfl,hI,hA,hs,rfl,rfl⟩;have he:=ur_ hA hs;rw [he];exact (round a e' hI).weak λex e'' σ'' H'' hq=>by
    cases ex<;>first|exact hq|(obtain ⟨h1,a',h2,h3,h4,h5,h6⟩:=hq;exact ⟨_,h2,a',rfl,h3,h1,h4,h5,h6⟩)
section ways
variable {K:Env->aj->List Res->Prop} {Q:QP} {e:Env} {σ:aj} {H:List Res} {i:Nat}
theorem S.n(h:K e σ H):seqQ K Q .normal e σ H:=h
theorem S.x(h:Q (.exit i) e σ H):seqQ K Q (.exit i) e σ H:=h
theorem S.r(h:Q .ret e σ H):seqQ K Q .ret e σ H:=h
theorem B.n{id:Nat}(h:Q .normal e σ H):blkQ id Q .normal e σ H:=h
theorem B.r{id:Nat}(h:Q .ret e σ H):blkQ id Q .ret e σ H:=h
end ways
section
variable {P:Program} {n:Nat} {e:Env} {σ:aj} {H:List Res} {o:Oper} {x y:Operand}
theorem OpVal.bd_{T b E i s:Nat}{cs:Array Value}(ho:o.op= .load T x)(hA:aggOf P T=some true)(hz:szOf P T=some s)(hx:ev e x=loc b 0)(hi:H[i]? =some (ω b cs E))(hl:cs.size=s):OpVal P n o e σ H (.agg cs):=by
  have:=OpVal.bu_ (P:=P) (n:=n) (e:=e) (σ:=σ) (us:=cs.toList) ho hA hz hx hi (by simpa using hl) (by rw [List.drop_zero,<-hl,<-Array.length_toList,List.take_length]);simpa using this
theorem OpVal.cb_{f:FuncId}{first cap:Array Operand}(ho:o.op= .makeFunc (.func f) first cap):OpVal P n o e σ H (.func (.func f) (first.toList.map (ev e)).toArray (cap.toList.map (ev e)).toArray):=by
  have:=OpVal.makeFunc (P:=P) (n:=n) (e:=e) (σ:=σ) (H:=H) ho
  rwa [show first.map (ev e)=(first.toList.map (ev e)).toArray from by apply Array.ext';simp,show cap.map (ev e)=(cap.toList.map (ev e)).toArray from by apply Array.ext';simp]at this
theorem OpVal.ba_{T E size m b q:Nat}{k:IntKind}{i:Nat}(ho:o.op= .indexAddr T x y)(ht:P.underlying T=some (.array m E))(hz:szOf P E=some size)(hx:ev e x=loc b q)(hy:ev e y= .int k (i:Nat))(h1:i<m):
    OpVal P n o e σ H (loc b (q+i * size)):=by
  have:=OpVal.dn_ (P:=P) (n:=n) (σ:=σ) (H:=H) ho ht hz hx hy (by omega) (by omega);simpa using this
theorem OpVal.buildL{T:TypeId}{parts:Array (Nat×Operand)}{pl:Array (Nat×Nat)}{z:Value}{cs:List Value}(ho:o.op= .build T parts)(hp:plOf P T=some pl)(hz:zeroOf P T=some z)
    (hf:Lh (λi=>pl.toList[i]?) z.cells.toList (parts.toList.map λx=>(x.1,ev e x.2))=some cs):OpVal P n o e σ H (.agg cs.toArray):=
  OpVal.build ho hp hz (by rw [q1_];simp only [Array.getElem?_toList]at hf;rw [hf];rfl)
theorem OpVal.a4_{T E s m:TypeId}{parts:Array (Nat×Operand)}{z:Value}{cs:List Value}(ho:o.op= .build T parts)(hu:P.underlying T=some (.array m E))(hs:szOf P E=some s)(hz:zeroOf P T=some z)
    (hf:Lh (λi=>some (i * s,s)) z.cells.toList (parts.toList.map λx=>(x.1,ev e x.2))=some cs):OpVal P n o e σ H (.agg cs.toArray):=
  OpVal.do_ ho hu hs hz (by rw [q1_,hf];rfl)
def ED:IntKind->Nat
  | .i8=>128| .u8=>256| .i16=>32768| .u16=>65536| .i32=>2147483648| .u32=>4294967296| .i64=>9223372036854775808| .u64=>18446744073709551616
theorem wl_{k:IntKind}{a:Nat}(h:a<ED k):k.wrap (a:Int)=(a:Int):=by
  cases k<;>simp only [ED]at h<;>simp only [IntKind.wrap,IntKind.bits,IntKind.signed]<;>simp<;>omega
section
variable {T T':TypeId} {k k':IntKind} {a b:Nat}
theorem OpVal.quoN(ho:o.op= .binOp .quo T x y T')(hx:ev e x= .int k (a:Nat))(hy:ev e y= .int k (b:Nat))(hb:0<b)(ha:a<ED k):OpVal P n o e σ H (.int k ((a / b:Nat):Int)):= .bin ho hx hy λw=>by
  have h0: ¬ (b:Int)=0:=by omega
  have h1:a / b<ED k:=Nat.lt_of_le_of_lt (Nat.div_le_self a b) ha;have h2:k.wrap ((a:Int).tdiv (b:Int))=((a / b:Nat):Int):=by
    rw [Int.tdiv_eq_ediv_of_nonneg (by omega)];exact_mod_cast wl_ h1
  simp only [binOp,ne_eq,not_true_eq_false,if_false,Op.intDiv,h0,h2];rfl
theorem OpVal.remN(ho:o.op= .binOp .rem T x y T')(hx:ev e x= .int k (a:Nat))(hy:ev e y= .int k (b:Nat))(hb:0<b):OpVal P n o e σ H (.int k ((a % b:Nat):Int)):= .bin ho hx hy λw=>by
  have h0: ¬ (b:Int)=0:=by omega
  have h2:(a:Int).tmod (b:Int)=((a % b:Nat):Int):=by
    rw [Int.tmod_eq_emod_of_nonneg (by omega)];exact_mod_cast rfl
  simp only [binOp,ne_eq,not_true_eq_false,if_false,Op.intDiv,h0,h2];rfl
theorem OpVal.mulN(ho:o.op= .binOp .mul T x y T')(hx:ev e x= .int k (a:Nat))(hy:ev e y= .int k (b:Nat))(h:a * b<ED k):OpVal P n o e σ H (.int k ((a * b:Nat):Int)):=by
  have:=OpVal.mulW (P:=P) (n:=n) (σ:=σ) (H:=H) ho hx hy
  rwa [show (a:Int) * (b:Int)=((a * b:Nat):Int)from by simp,wl_ h]at this
theorem OpVal.shrN(ho:o.op= .binOp .shr T x y T')(hx:ev e x= .int k (a:Nat))(hy:ev e y= .int k' (b:Nat))(hb:b<k.bits):OpVal P n o e σ H (.int k ((a / 2 ^ b:Nat):Int)):=λw _=>by
  have h0: ¬ (b:Int)<0:=by omega
  have h1:min b k.bits=b:=by omega
  have h2:(a:Int).fdiv (2 ^ b)=((a / 2 ^ b:Nat):Int):=by
    rw [Int.fdiv_eq_ediv_of_nonneg _ (by exact_mod_cast Nat.zero_le _)];exact_mod_cast rfl
  simp [execOp,ho,hx,hy,f6_,binOp,Op.shift,h0,h1,h2]
theorem OpVal.shlN(ho:o.op= .binOp .shl T x y T')(hx:ev e x= .int k (a:Nat))(hy:ev e y= .int k' (b:Nat))(hb:b<k.bits)(h:a * 2 ^ b<ED k):OpVal P n o e σ H (.int k ((a * 2 ^ b:Nat):Int)):=λw _=>by
  have h0: ¬ (b:Int)<0:=by omega
  have h1:min b k.bits=b:=by omega
  have h2:k.wrap ((a:Int) * 2 ^ b)=((a * 2 ^ b:Nat):Int):=by
    rw [show (a:Int) * 2 ^ b=((a * 2 ^ b:Nat):Int)from by push_cast;rfl];exact wl_ h
  simp only [execOp,ho,hx,hy,Sem.run_bind,f6_,Result.andThen_ok,binOp,Op.shift,h0,if_false,nI,h1,h2];rfl
theorem toNat_ofInt{a m:Nat}(h:a<2 ^ m):(BitVec.ofInt m (a:Int)).toNat=a:=by
  simp [BitVec.toNat_ofInt];exact_mod_cast Nat.mod_eq_of_lt h
theorem OpVal.andN{a b:Nat}(ho:o.op= .binOp .and T x y T')(hx:ev e x= .int .u64 (a:Nat))(hy:ev e y= .int .u64 (b:Nat))(ha:a<18446744073709551616)(hb:b<18446744073709551616):OpVal P n o e σ H (.int .u64 ((a &&& b:Nat):Int)):= .bin ho hx hy λw=>by
  have h1:(BitVec.ofInt IntKind.u64.bits (a:Int) &&& BitVec.ofInt IntKind.u64.bits (b:Int)).toNat=a &&& b:=by
    rw [BitVec.toNat_and,toNat_ofInt (m:=IntKind.u64.bits) (by simpa [IntKind.bits]using ha),toNat_ofInt (m:=IntKind.u64.bits) (by simpa [IntKind.bits]using hb)]
  have h2:a &&& b<18446744073709551616:=Nat.lt_of_le_of_lt Nat.and_le_left ha;simp only [binOp,ne_eq,not_true_eq_false,if_false,Op.intBits,h1,wl_ (k:= .u64) (a:=a &&& b) h2];rfl
theorem OpVal.orN{a b:Nat}(ho:o.op= .binOp .or T x y T')(hx:ev e x= .int .u64 (a:Nat))(hy:ev e y= .int .u64 (b:Nat))(ha:a<18446744073709551616)(hb:b<18446744073709551616):OpVal P n o e σ H (.int .u64 ((a ||| b:Nat):Int)):= .bin ho hx hy λw=>by
  have h1:(BitVec.ofInt IntKind.u64.bits (a:Int) ||| BitVec.ofInt IntKind.u64.bits (b:Int)).toNat=a ||| b:=by
    rw [BitVec.toNat_or,toNat_ofInt (m:=IntKind.u64.bits) (by simpa [IntKind.bits]using ha),toNat_ofInt (m:=IntKind.u64.bits) (by simpa [IntKind.bits]using hb)]
  have h2:a ||| b<18446744073709551616:=Nat.or_lt_two_pow (n:=64) ha hb;simp only [binOp,ne_eq,not_true_eq_false,if_false,Op.intBits,h1,wl_ (k:= .u64) (a:=a ||| b) h2];rfl
theorem OpVal.eqlN(ho:o.op= .binOp .eql T x y T')(hx:ev e x= .int k (a:Nat))(hy:ev e y= .int k (b:Nat)):OpVal P n o e σ H (.bool (decide (a=b))):=by
  have:=OpVal.eql (P:=P) (n:=n) (σ:=σ) (H:=H) ho hx hy
  rwa [show decide ((a:Int)=(b:Int))=decide (a=b)from by rw [decide_eq_decide];omega]at this
theorem OpVal.dy_{S T:TypeId}{d:TypeDesc}(ho:o.op= .convert S T x)(hs:P.underlying S=some d)(ht:P.underlying T=some (.int k'))(hx:ev e x= .int k (a:Nat))(h:a<ED k'):OpVal P n o e σ H (.int k' (a:Nat)):=by
  have:=OpVal.bx_ (P:=P) (n:=n) (σ:=σ) (H:=H) ho hs ht hx
  rwa [wl_ h]at this
end
theorem js_(op:BinOp)(t:TypeId)(x y:Operand)(a b:Option Addr)(w:World):(eqGuard op t x y (.pointer a) (.pointer b)).run P w= .ok () w:=by
  cases op<;>simp [eqGuard]
theorem pi_(op:BinOp)(t:TypeId)(x y:Operand)(a b:Option Addr)(m c m' c':Nat)(w:World):(eqGuard op t x y (.slice a m c) (.slice b m' c')).run P w= .ok () w:=by
  cases op<;>simp [eqGuard]
theorem w3_{T E:TypeId}(hT:P.underlying T=some (.pointer E))(d:Nat)(a:Option Addr)(w:World):(Op.equalIn (d+1) T (.pointer a) (.pointer none)).run P w= .ok a.isNone w:=by
  cases a<;>simp [Op.equalIn,run_underlying hT]
theorem run_eqSl{T E:TypeId}(hT:P.underlying T=some (.slice E))(d:Nat)(a:Option Addr)(m c:Nat)(w:World):(Op.equalIn (d+1) T (.slice a m c) (.slice none 0 0)).run P w= .ok a.isNone w:=by
  cases a<;>simp [Op.equalIn,run_underlying hT]
theorem ij_{T:TypeId}{v u:Value}{r:Bool}{w:World}(hv: ∀k a,v≠ .int k a)(h:(Op.equalIn 10000 T v u).run P w= .ok r w)(hb:binOp .eql T v u=(do pure (.bool (<-Op.equal T v u)):Sem Value)):(binOp .eql T v u).run P w= .ok (.bool r) w:=by
  rw [hb];simp only [Sem.run_bind,Op.equal,Op.maxDepth,h,Result.andThen_ok,Sem.run_pure]
theorem mp_{T:TypeId}{v u:Value}{r:Bool}{w:World}(hv: ∀k a,v≠ .int k a)(h:(Op.equalIn 10000 T v u).run P w= .ok r w)(hb:binOp .neq T v u=(do pure (.bool (!(<-Op.equal T v u))):Sem Value)):(binOp .neq T v u).run P w= .ok (.bool (!r)) w:=by
  rw [hb];simp only [Sem.run_bind,Op.equal,Op.maxDepth,h,Result.andThen_ok,Sem.run_pure]
theorem OpVal.eqlNil{T T':TypeId}{a:Option Addr}{E:TypeId}(ho:o.op= .binOp .eql T x y T')(hT:P.underlying T=some (.pointer E))(hx:ev e x= .pointer a)(hy:ev e y= .pointer none):OpVal P n o e σ H (.bool a.isNone):=λw _=>by
  simp only [execOp,ho,hx,hy,Sem.run_bind,js_,Result.andThen_ok];rw [ij_ (by simp) (w3_ hT 9999 a w) rfl];rfl
theorem OpVal.b6_{T T':TypeId}{a:Option Addr}{m c:Nat}{E:TypeId}(ho:o.op= .binOp .eql T x y T')(hT:P.underlying T=some (.slice E))(hx:ev e x= .slice a m c)(hy:ev e y= .slice none 0 0):OpVal P n o e σ H (.bool a.isNone):=λw _=>by
  simp only [execOp,ho,hx,hy,Sem.run_bind,pi_,Result.andThen_ok];rw [ij_ (by simp) (run_eqSl hT 9999 a m c w) rfl];rfl
theorem ZF{E:TypeId}(hA:aggOf P E=some false){cs:Array Value}{k:Nat}{u:Value}(h:cs[k]? =some u)(w:World):(part E cs k).run P w= .ok u w:=by
  simp [part,jp_ hA,h]
theorem r0_{E s:TypeId}(hA:aggOf P E=some true)(hz:szOf P E=some s)(cs:Array Value)(k:Nat)(w:World):(part E cs k).run P w= .ok (.agg (cs.extract k (k+s))) w:=by
  simp [part,jp_ hA,xX hz]
theorem p2_ {T E : TypeId} {k : IntKind} (d : Nat) (hT : P.underlying T = some (.array 4 E)) (hE : P.underlying E = some (.int k)) (hA : aggOf P E = some false) (hz : szOf P E = some 1) (a0 a1 a2 a3 b0 b1 b2 b3 : Int) (w : World) :
    (Op.equalIn (d+2) T (.agg #[.int k a0,.int k a1,.int k a2,.int k a3]) (.agg #[.int k b0,.int k b1,.int k b2,.int k b3])).run P w= .ok (decide (a0=b0/\a1=b1/\a2=b2/\a3=b3)) w:=by
  have h0: ∀(a b:Int),(Op.equalIn (d+1) E (.int k a) (.int k b)).run P w= .ok (decide (a=b)) w:=λa b=>by
    rw [run_equalIn_int w d E k k a b hE];rfl
  have p: ∀(cs:Array Value) (i:Nat) (u:Value),cs[i]? =some u->(part E cs i).run P w= .ok u w:=λcs i u h=>ZF hA h w;rw [Op.equalIn];simp only [Sem.run_bind,run_underlying hT,Result.andThen_ok,xX hz,Std.Legacy.Range.forIn_eq_forIn_range',Std.Legacy.Range.size,Nat.sub_zero,Nat.add_sub_cancel,Nat.div_one,List.range'_succ,List.range'_zero,List.forIn_cons,List.forIn_nil,Nat.mul_one,Nat.zero_add];rw [p _ 0 (.int k a0) rfl,Result.andThen_ok,p _ 0 (.int k b0) rfl,Result.andThen_ok,h0,Result.andThen_ok]
  by_cases e0:a0=b0
  · simp only [e0,decide_true,Bool.not_true,Bool.false_eq_true,if_false,Sem.run_pure,Result.andThen_ok,Sem.run_bind]
    rw [p _ 1 (.int k a1) rfl,Result.andThen_ok,p _ 1 (.int k b1) rfl,Result.andThen_ok,h0,Result.andThen_ok]
    by_cases e1:a1=b1
    · simp only [e1,decide_true,Bool.not_true,Bool.false_eq_true,if_false,Sem.run_pure,Result.andThen_ok,Sem.run_bind]
      rw [p _ 2 (.int k a2) rfl,Result.andThen_ok,p _ 2 (.int k b2) rfl,Result.andThen_ok,h0,Result.andThen_ok]
      by_cases e2:a2=b2
      · simp only [e2,decide_true,Bool.not_true,Bool.false_eq_true,if_false,Sem.run_pure,Result.andThen_ok,Sem.run_bind]
        rw [p _ 3 (.int k a3) rfl,Result.andThen_ok,p _ 3 (.int k b3) rfl,Result.andThen_ok,h0,Result.andThen_ok]
        by_cases e3:a3=b3
        · simp [e3]
        simp [e3]
      simp [e2]
    simp [e1]
  simp [e0]
theorem OpVal.da_{T T' E:TypeId}{k:IntKind}{xs ys:Array Value}{a0 a1 a2 a3 b0 b1 b2 b3:Int}(ho:o.op= .binOp .eql T x y T')(hT:P.underlying T=some (.array 4 E))(hE:P.underlying E=some (.int k))(hA:aggOf P E=some false)(hz:szOf P E=some 1)(hg:P.eqGuardType P.depth T=false)
    (hx:ev e x= .agg xs) (hy:ev e y= .agg ys) (hxs:xs.toList=[.int k a0,.int k a1,.int k a2,.int k a3]) (hys:ys.toList=[.int k b0,.int k b1,.int k b2,.int k b3]):OpVal P n o e σ H (.bool (decide (a0=b0/\a1=b1/\a2=b2/\a3=b3))):=λw _=>by
  have hxs':xs= #[.int k a0,.int k a1,.int k a2,.int k a3]:=by apply Array.ext';simpa using hxs
  have hys':ys= #[.int k b0,.int k b1,.int k b2,.int k b3]:=by apply Array.ext';simpa using hys
  subst hxs' hys';have h:=p2_ (P:=P) 9998 hT hE hA hz a0 a1 a2 a3 b0 b1 b2 b3 w;simp only [execOp,ho,hx,hy,Sem.run_bind,run_eqGuard_agg _ _ _ _ _ _ _ hg,Result.andThen_ok];rw [ij_ (by simp) h rfl];rfl
end
section
variable {X:Ctx} {e:Env} {σ:aj} {H F:List Res} {o:Oper} {x y:Operand} {K:Env->aj->List Res->Prop}
theorem OpOk.boxA{E d:Nat}{cs:Array Value}(ho:o.op= .box E x)(hd:o.dst=some d)(hn:Nat.blt d X.n=true)(hx:ev e x= .agg cs)(k: ∀b,K (upd e d (loc b 0)) σ (ω b cs E::H)):OpOk X o e σ H K:=
  OpOk.box ho hd hn hx k
theorem OpOk.storeAll{T b s:Nat}{E:TypeId}{cs cs':Array Value}(ho:o.op= .store T x y)(hs:szOf X.P T=some s)(hd:o.dst=none)(hx:ev e x=loc b 0)(hv:ev e y= .agg cs')(hsz:cs'.size=s)
    (h1:(cs'.toList.all λu=>u.oneCell')=true) (hfit:cs.size=s) (kk:K e σ (ω b cs' E::F)):OpOk X o e σ (ω b cs E::F) K:=by
  refine OpOk.store (s:=s) ho hs hd hx hv hsz (List.all_eq_true.1 h1) (by simp [hfit]) ?_ kk;apply Array.ext';show pI cs.toList 0 cs'.toList=cs'.toList;simp [pI,hsz,<-hfit]
end
section
variable {X:Ctx} {ops:Array Oper} {Q:QP} {e:Env} {σ:aj} {H F:List Res} {c:Code} {l:List Oper}
theorem TL.dropN(k:Nat)(hF:H.drop k=F)(h:TL X ops Q l e σ F):TL X ops Q l e σ H:=TL.sub (hF▸List.drop_sublist k H) h
end
section
variable {X:Ctx} {ops:Array Oper} {Q:QP} {e:Env} {σ σr:aj} {H Hr:List Res} {late:List Nat} {fuel:Nat} {listed:Array Bool}
theorem TA.dk_(i:Nat){oi:Oper}{v:Value}{d:Nat}(hi:ops[i]? =some oi)(hs:Region.noSelect ops=true)(hf:Region.free .any ops listed i=true)(hr:(Region.ready .any ops listed).contains i=true)
    (hl:late.all (λj=>after? ops ops.size j i)=true) (hv: ∀a,St X.n e a->YieldsIf X.P ops (kH σr Hr) oi v a) (hd:oi.dst=some d) (hn:Nat.blt d X.n=true)
    (k:TA X ops Q σr Hr late fuel (listed.setIfInBounds i true) (upd e d v) σ H):TA X ops Q σr Hr late (fuel+1) listed e σ H:=λhnd w a hw hS hcl ha=>by
  have hr':i∈Region.ready .any ops listed:=by simpa using hr
  refine mn_ hi (Region.noSelect_spec hs) hnd (λc a w h=>h.elim) (λj hj=>⟨ops.size,(List.all_eq_true.1 hl) j hj⟩) fuel listed a w hcl (Region.free_spec hi hf) hr' (hv a ha) hS ?_;rw [hd];exact k hnd w _ (hw.step hw.self rfl) hS (hcl.step hr') (ha.put (by simpa [Nat.blt_eq]using hn) v)
theorem TA.takeOn(i:Nat){oi oj:Oper}{v:Value}{d j dj:Nat}{b:Bool}(hi:ops[i]? =some oi)(hs:Region.noSelect ops=true)(hf:Region.free .any ops listed i=true)(hr:(Region.ready .any ops listed).contains i=true)
    (hl:late.all (λj=>after? ops ops.size j i)=true) (hg:oi.guard=some (j,b)) (hj:ops[j]? =some oj) (hdj:oj.dst=some dj) (hnj:Nat.blt dj X.n=true) (hb:e dj= .bool b) (hv:OpVal X.P X.n oi e σr Hr v) (hd:oi.dst=some d) (hn:Nat.blt d X.n=true)
    (k:TA X ops Q σr Hr late fuel (listed.setIfInBounds i true) (upd e d v) σ H):TA X ops Q σr Hr late (fuel+1) listed e σ H:=
  TA.dk_ i hi hs hf hr hl (λa ha=> .inl ⟨by simp [Region.wanted,hg,Xc ha hj hdj hnj,hb],λw' hw'=>by rw [ha.eval'];exact hv w' hw'⟩) hd hn k
theorem TA.takeOff(i:Nat){oi oj:Oper}{d j dj:Nat}{b b':Bool}(hi:ops[i]? =some oi)(hs:Region.noSelect ops=true)(hf:Region.free .any ops listed i=true)(hr:(Region.ready .any ops listed).contains i=true)
    (hl:late.all (λj=>after? ops ops.size j i)=true) (hg:oi.guard=some (j,b)) (hj:ops[j]? =some oj) (hdj:oj.dst=some dj) (hnj:Nat.blt dj X.n=true) (hb:e dj= .bool b') (hbb:b'= !b) (hd:oi.dst=some d) (hn:Nat.blt d X.n=true)
    (k:TA X ops Q σr Hr late fuel (listed.setIfInBounds i true) (upd e d undef) σ H):TA X ops Q σr Hr late (fuel+1) listed e σ H:=
  TA.dk_ i hi hs hf hr hl (λa ha=> .inr ⟨by simp [Region.wanted,hg,Xc ha hj hdj hnj,hb,hbb],rfl⟩) hd hn k
theorem TA.IK(i:Nat){oi oj:Oper}{d j dj:Nat}{b:Bool}(hi:ops[i]? =some oi)(hs:Region.noSelect ops=true)(hf:Region.free .any ops listed i=true)(hr:(Region.ready .any ops listed).contains i=true)
    (hl:late.all (λj=>after? ops ops.size j i)=true) (hg:oi.guard=some (j,b)) (hj:ops[j]? =some oj) (hdj:oj.dst=some dj) (hnj:Nat.blt dj X.n=true) (hb:e dj=undef) (hd:oi.dst=some d) (hn:Nat.blt d X.n=true)
    (k:TA X ops Q σr Hr late fuel (listed.setIfInBounds i true) (upd e d undef) σ H):TA X ops Q σr Hr late (fuel+1) listed e σ H:=
  TA.dk_ i hi hs hf hr hl (λa ha=> .inr ⟨by simp [Region.wanted,hg,Xc ha hj hdj hnj,hb,undef],rfl⟩) hd hn k
theorem TZ.v(i:Nat){oi:Oper}{v:Value}{d:Nat}(hr:Region.ready .any ops listed=[i])(hl:late.contains i=true)(hi:ops[i]? =some oi)(hg:oi.guard=none)(hv:OpVal X.P X.n oi e σ H v)(hd:oi.dst=some d)(hn:Nat.blt d X.n=true)
    (k:TZ X ops Q σr Hr late fuel (listed.setIfInBounds i true) (upd e d v) σ H):TZ X ops Q σr Hr late (fuel+1) listed e σ H:=
  TZ.last i hr hl hi hg (hv.ok hd hn k)
theorem TA.split{t:Bool}(dj:Nat)(hb:e dj= .bool t)(ht:t=true->TA X ops Q σr Hr late fuel listed (upd e dj (.bool true)) σ H)(hf:t=false->TA X ops Q σr Hr late fuel listed (upd e dj (.bool false)) σ H):TA X ops Q σr Hr late fuel listed e σ H:=by
  have he: ∀b,t=b->upd e dj (.bool b)=e:=λb h=>by
    funext i;unfold upd;split
    · subst_vars;rw [hb]
    rfl
  cases t
  · have:=hf rfl;rwa [he _ rfl]at this
  have:=ht rfl;rwa [he _ rfl]at this
end
section
variable {P:Program} {fn:Func} {n:Nat} {e:Env} {H:List Res}
theorem or_{T b i s:Nat}{E:TypeId}{cs:Array Value}(hA:aggOf P T=some true)(hz:szOf P T=some s)(hi:H[i]? =some (ω b cs E))(hl:cs.size=s){w:World}(hw: ∀r∈H,r.holds w):(loadVar T ⟨b,0,none⟩).run P w= .ok (.agg cs) w:=by
  have hh:w.heap[b]? =some (.cells cs E (0,0)):=hw _ (List.mem_of_getElem? hi);have:=hf_ (P:=P) (a:=⟨b,0,none⟩) (us:=cs.toList) (w:=w) hA hz (by simpa using hl) (λj u hj=>by rw [EK];exact h6_ hh (by simpa using hj));simpa using this
theorem EJ.cell{t T b i s:Nat}{E:TypeId}{cs:Array Value}(hr:fn.results= #[.cell t T])(hA:aggOf P T=some true)(hz:szOf P T=some s)(ht:e t=loc b 0)(hi:H[i]? =some (ω b cs E))(hl:cs.size=s):EJ P fn n e H (.agg cs):=λw a ha hw=>by
  have:=or_ (P:=P) hA hz hi hl hw;simp [results,hr,ha.get,ht,loc,asAddr,this]
end
theorem aav_{P:Program}{fn:Func}{n:Nat}{e:Env}{σ:aj}{H:List Res}{t T b s:Nat}{E:TypeId}{cs:Array Value}{v:Value}(i:Nat)(hr:fn.results= #[.cell t T])(hA:aggOf P T=some true)(hz:szOf P T=some s)(ht:e t=loc b 0)(hi:H[i]? =some (ω b cs E))(hl:cs.size=s)(hv:Value.agg cs=v):RetOk P fn n (jq v σ) .ret e σ H:=
  RetOk.of [] (.inl rfl) ((EJ.cell hr hA hz ht hi hl).eq hv) (List.nil_sublist _) ⟨rfl,rfl,rfl⟩
def ak(x:Int):List Value:=[.int .i64 x]
def dG(x:Bool):List Value:=[.bool x]
def jo(x:UInt8):List Value:=[.int .u8 (x.toNat:Nat)]
theorem aT(x:Int):(ak x).length=1:=rfl
theorem NH(x:Bool):(dG x).length=1:=rfl
theorem st_(x:UInt8):(jo x).length=1:=rfl
theorem GL: ∀x, ∀u∈ak x,u.oneCell'=true:=λx u hu=>by simp [ak]at hu;subst hu;rfl
theorem zz_: ∀x, ∀u∈dG x,u.oneCell'=true:=λx u hu=>by simp [dG]at hu;subst hu;rfl
theorem yf_: ∀x, ∀u∈jo x,u.oneCell'=true:=λx u hu=>by simp [jo]at hu;subst hu;rfl
structure BSet where
  a:Nat
  b:Nat
  c:Nat
  d:Nat
  lt:a<18446744073709551616/\b<18446744073709551616/\c<18446744073709551616/\d<18446744073709551616
  deriving DecidableEq
def BSet.zero:BSet:=⟨0,0,0,0,by decide⟩
def setA(s:BSet):Array Value:= #[.int .u64 (s.a:Nat),.int .u64 (s.b:Nat),.int .u64 (s.c:Nat),.int .u64 (s.d:Nat)]
def vk(s:BSet):Value:= .agg (setA s)
def BSet.vals(s:BSet):List Value:=[.int .u64 (s.a:Nat),.int .u64 (s.b:Nat),.int .u64 (s.c:Nat),.int .u64 (s.d:Nat)]
def BSet.ok(s:BSet):Prop:=s.a<18446744073709551616/\s.b<18446744073709551616/\s.c<18446744073709551616/\s.d<18446744073709551616
theorem BSet.isOk(s:BSet):s.ok:=s.lt
def BSet.word(s:BSet)(i:Nat):Nat:=if i=0 then s.a else if i=1 then s.b else if i=2 then s.c else s.d
theorem BSet.word_lt{s:BSet}(h:s.ok)(i:Nat):s.word i<18446744073709551616:=by
  unfold BSet.word;obtain ⟨h1,h2,h3,h4⟩:=h
  repeat (first|split|assumption)
theorem z3_(s:BSet): ∀u∈(setA s).toList,u.oneCell'=true:=λu hu=>by
  simp [setA]at hu;rcases hu with rfl|rfl|rfl|rfl<;>rfl
theorem rc_(s:BSet){i:Nat}(h:i<4):(setA s)[i]? =some (.int .u64 (s.word i:Nat)):=by
  match i,h with
  |0,_=>rfl
  |1,_=>rfl
  |2,_=>rfl
  |3,_=>rfl
theorem OpVal.b4_{P:Program}{n:Nat}{e:Env}{σ:aj}{H:List Res}{o:Oper}{x:Operand}{T b E i j:Nat}{s:BSet}(ho:o.op= .load T x)(hA:aggOf P T=some false)(hx:ev e x=loc b (0+i * 1))(hi:H[j]? =some (ω b (setA s) E))(hk:i<4):OpVal P n o e σ H (.int .u64 (s.word i:Nat)):=by
  refine OpVal.Aj ho hA hx hi ?_;rw [show 0+i * 1=i from by omega];exact rc_ s hk
theorem BSet.eq_iff(s t:BSet):s=t↔((s.a:Nat):Int)=(t.a:Nat)/\((s.b:Nat):Int)=(t.b:Nat)/\((s.c:Nat):Int)=(t.c:Nat)/\((s.d:Nat):Int)=(t.d:Nat):=by
  cases s;cases t;simp only [BSet.mk.injEq];omega
theorem BSet.bw_(s:BSet):(((s.a:Nat):Int)=0/\((s.b:Nat):Int)=0/\((s.c:Nat):Int)=0/\((s.d:Nat):Int)=0)↔s=BSet.zero:=by
  rw [BSet.eq_iff];rfl
def BSet.has(s:BSet)(b:Nat):Bool:=decide (s.word (b / 64) / 2 ^ (b % 64) % 2=1)
def BSet.JL(s:BSet)(i w:Nat):BSet:=
  if i=0 then ⟨w % 18446744073709551616,s.b,s.c,s.d,by have:=s.lt;omega⟩ else if i=1 then ⟨s.a,w % 18446744073709551616,s.c,s.d,by have:=s.lt;omega⟩
  else if i=2 then ⟨s.a,s.b,w % 18446744073709551616,s.d,by have:=s.lt;omega⟩ else ⟨s.a,s.b,s.c,w % 18446744073709551616,by have:=s.lt;omega⟩
theorem setA_set(s:BSet){i:Nat}(h:i<4)(w:Nat)(hw:w<18446744073709551616):(pI (setA s).toList i [.int .u64 (w:Nat)]).toArray=setA (s.JL i w):=by
  have e:w % 18446744073709551616=w:=Nat.mod_eq_of_lt hw;rw [<-e];have e2:w % 18446744073709551616 % 18446744073709551616=w % 18446744073709551616:=by omega
  have e3:s.JL i (w % 18446744073709551616)=s.JL i w:=by simp only [BSet.JL,e2]
  rw [e3]
  match i,h with
  |0,_=>rfl
  |1,_=>rfl
  |2,_=>rfl
  |3,_=>rfl
theorem BSet.cl_(s:BSet){i:Nat}(h:i<4)(w j:Nat)(hw:w<18446744073709551616)(hj:j<4):(s.JL i w).word j=if j=i then w else s.word j:=by
  have e:w % 18446744073709551616=w:=Nat.mod_eq_of_lt hw;rw [<-e];have e2:w % 18446744073709551616 % 18446744073709551616=w % 18446744073709551616:=by omega
  have e3:s.JL i (w % 18446744073709551616)=s.JL i w:=by simp only [BSet.JL,e2]
  rw [e3]
  match i,h,j,hj with
  |0,_,0,_|0,_,1,_|0,_,2,_|0,_,3,_|1,_,0,_|1,_,1,_|1,_,2,_|1,_,3,_|2,_,0,_|2,_,1,_|2,_,2,_|2,_,3,_|3,_,0,_|3,_,1,_|3,_,2,_|3,_,3,_=>rfl
theorem BSet.bk_{s t:BSet}(h: ∀i,i<4->s.word i=t.word i):s=t:=by
  have h0:=h 0 (by omega);have h1:=h 1 (by omega);have h2:=h 2 (by omega);have h3:=h 3 (by omega);cases s;cases t;simp only [BSet.word]at h0 h1 h2 h3
  simp_all
theorem BSet.ok_of{s:BSet}(h: ∀i,i<4->s.word i<18446744073709551616):s.ok:=⟨h 0 (by omega),h 1 (by omega),h 2 (by omega),h 3 (by omega)⟩
theorem OpOk.ca_{X:Ctx}{e:Env}{σ:aj}{F:List Res}{o:Oper}{x y:Operand}{K:Env->aj->List Res->Prop}{T b E i w:Nat}{s:BSet}(ho:o.op= .store T x y)(hs:szOf X.P T=some 1)(hd:o.dst=none)(hx:ev e x=loc b (0+i * 1))(hv:ev e y= .int .u64 (w:Nat))(hi:i<4)(hw:w<18446744073709551616)
    (kk:K e σ (ω b (setA (s.JL i w)) E::F)):OpOk X o e σ (ω b (setA s) E::F) K:=by
  have hx':ev e x=loc b i:=by rw [hx];congr 1;omega
  refine OpOk.store (v:= .int .u64 (w:Nat)) ho hs hd hx' hv rfl (by intro u hu;simp [Value.cells]at hu;subst hu;rfl) ?_ (setA_set s hi w hw) kk
  match i,hi with
  |0,_|1,_|2,_|3,_=>rfl
def Fg(f:Nat->Bool)(i:Nat):Nat->Nat
  |0=>0
  |k+1=>Fg f i k+if f (64 * i+k) then 2 ^ k else 0
theorem YC(f:Nat->Bool)(i:Nat): ∀k,Fg f i k<2 ^ k
  |0=>by simp [Fg]
  |k+1=>by
    have:=YC f i k;have h2:2 ^ (k+1)=2 ^ k+2 ^ k:=by rw [Nat.pow_succ];omega
    unfold Fg
    split<;>omega
theorem Q_ (f : Nat -> Bool) (i : Nat) : ∀ k j, (Fg f i k).testBit j = (decide (j < k) && f (64 * i + j))
  |0,j=>by simp [Fg]
  | k + 1, j => by
    have hlt:=YC f i k;have ih:=Q_ f i k;unfold Fg
    by_cases hf:f (64 * i+k)=true
    · rw [if_pos hf,Nat.add_comm]
      rcases Nat.lt_trichotomy j k with h|h|h
      · rw [Nat.testBit_two_pow_add_gt h,ih j]
        have:j<k+1:=by omega
        simp [h,this]
      · subst h
        rw [Nat.testBit_two_pow_add_eq,ih j];simp [hf]
      have h2:2 ^ k+Fg f i k<2 ^ j:=Nat.lt_of_lt_of_le (show 2 ^ k+Fg f i k<2 ^ (k+1)from by rw [Nat.pow_succ];omega) (Nat.pow_le_pow_right (by omega) h);rw [Nat.testBit_lt_two_pow h2];have: ¬ j<k+1:=by omega
      simp [this]
    rw [if_neg hf,Nat.add_zero,ih j]
    by_cases h:j<k
    · have:j<k+1:=by omega
      simp [h,this]
    by_cases h2:j=k
    · subst h2;simp [hf]
    have: ¬ j<k+1:=by omega
    simp [h,this]
def BSet.make(f:Nat->Bool):BSet:=⟨Fg f 0 64,Fg f 1 64,Fg f 2 64,Fg f 3 64,YC f 0 64,YC f 1 64,YC f 2 64,YC f 3 64⟩
theorem BSet.Xi(f:Nat->Bool){i:Nat}(h:i<4):(BSet.make f).word i=Fg f i 64:=by
  match i,h with
  |0,_|1,_|2,_|3,_=>rfl
theorem BSet.dx_(f:Nat->Bool):(BSet.make f).ok:=BSet.ok_of λi hi=>by rw [BSet.Xi f hi];exact YC f i 64
theorem BSet.a3_:BSet.make (λ_=>false)=BSet.zero:=by
  refine BSet.bk_ λi hi=> ?_;rw [BSet.Xi _ hi];have:Fg (λ_=>false) i 64=0:=Nat.eq_of_testBit_eq λj=>by rw [Q_];simp
  rw [this]
  match i,hi with
  |0,_|1,_|2,_|3,_=>rfl
theorem BSet.a0_{f g:Nat->Bool}(h: ∀i,i<256->f i=g i):BSet.make f=BSet.make g:=by
  refine BSet.bk_ λi hi=> ?_;rw [BSet.Xi _ hi,BSet.Xi _ hi];refine Nat.eq_of_testBit_eq λj=> ?_;rw [Q_,Q_]
  by_cases hj:j<64
  · rw [h (64 * i+j) (by omega)]
  simp [hj]
theorem BSet.d9_(f:Nat->Bool){b:Nat}(hb:b<256):(BSet.make f).JL (b / 64) ((BSet.make f).word (b / 64) ||| 1 * 2 ^ (b % 64))=BSet.make (λi=>f i || decide (i=b)):=by
  refine BSet.bk_ λi hi=> ?_;rw [BSet.cl_ _ (by omega) _ _ (Nat.or_lt_two_pow (n:=64) (BSet.word_lt (BSet.isOk _) _) (by rw [Nat.one_mul];exact Nat.pow_lt_pow_right (by omega) (by omega))) hi,BSet.Xi _ hi,BSet.Xi _ hi,BSet.Xi _ (by omega)]
  split
  · subst_vars
    refine Nat.eq_of_testBit_eq λj=> ?_;rw [Nat.testBit_or,Q_,Q_,Nat.one_mul,Nat.testBit_two_pow]
    by_cases hj:j<64
    · have:decide (b % 64=j)=decide (64 * (b / 64)+j=b):=by rw [decide_eq_decide];omega
      simp [hj,this]
    have: ¬ b % 64=j:=by omega
    simp [hj,this]
  refine Nat.eq_of_testBit_eq λj=> ?_;rw [Q_,Q_]
  by_cases hj:j<64
  · have: ¬ 64 * i+j=b:=by omega
    simp [this]
  simp [hj]
theorem BSet.Gg(f:Nat->Bool){b:Nat}(hb:b<256):(BSet.make f).has b=f b:=by
  unfold BSet.has;rw [BSet.Xi _ (by omega)];have h:=Q_ f (b / 64) 64 (b % 64);have h1:b % 64<64:=by omega
  have h2:64 * (b / 64)+b % 64=b:=by omega
  rw [h2]at h;simp only [h1,decide_true,Bool.true_and]at h;rw [<-h,Nat.testBit_eq_decide_div_mod_eq]
def BSet.ofL(l:List UInt8):BSet:=BSet.make λi=>l.any λu=>decide (i=u.toNat)
structure Arrow where
  frm:Int
  to:Int
  set:BSet
  deriving DecidableEq
def Arrow.zero:Arrow:=⟨0,0,BSet.zero⟩
def Bj(x:Arrow):List Value:=[.int .i64 x.frm,.int .i64 x.to,.int .u64 (x.set.a:Nat),.int .u64 (x.set.b:Nat),.int .u64 (x.set.c:Nat),.int .u64 (x.set.d:Nat)]
theorem lg_(x:Arrow):(Bj x).length=6:=rfl
theorem encE_one: ∀x, ∀u∈Bj x,u.oneCell'=true:=λx u hu=>by
  simp [Bj]at hu;rcases hu with rfl|rfl|rfl|rfl|rfl|rfl<;>rfl
structure Nfa where
  states:Int
  starts:List Int
  ends:List Int
  edges:List Arrow
  deriving DecidableEq
structure NfaP where
  a1:Option Addr
  c1:Nat
  a2:Option Addr
  c2:Nat
  a3:Option Addr
  c3:Nat
def nfaA(n:Nfa)(p:NfaP):Array Value:= #[.int .i64 n.states,.slice p.a1 n.starts.length p.c1,.slice p.a2 n.ends.length p.c2,.slice p.a3 n.edges.length p.c3]
def nfaV(n:Nfa)(p:NfaP):Value:= .agg (nfaA n p)
structure RNfa (σ:aj) (n:Nfa) (p:NfaP):Prop where
  s:RS σ 1 ak (.slice p.a1 n.starts.length p.c1) n.starts
  e:RS σ 1 ak (.slice p.a2 n.ends.length p.c2) n.ends
  d:RS σ 6 Bj (.slice p.a3 n.edges.length p.c3) n.edges
  ok: ∀x∈n.edges,x.set.ok
def Nfa.zero:Nfa:=⟨0,[],[],[]⟩
def NfaP.zero:NfaP:=⟨none,0,none,0,none,0⟩
theorem RNfa.zero(σ:aj):RNfa σ Nfa.zero NfaP.zero:=⟨⟨RV.nil σ 1,aT⟩,⟨RV.nil σ 1,aT⟩,⟨RV.nil σ 6,lg_⟩,by simp [Nfa.zero]⟩
theorem Agr.RP{M M':List Nat}{j e e0:Env}(hs:(M'.all λt=>M.contains t)=true)(h:Agr M e e0):Agr M (Go.E.mask M' j e) e0:=
  Agr.trans (Agr.weak Agr.mask hs) h
section
variable {X:Ctx} {ops:Array Oper} {Q:QP} {e:Env} {σ σr:aj} {H Hr:List Res} {late:List Nat} {fuel:Nat} {listed:Array Bool}
def TA.All(X:Ctx)(ops:Array Oper)(Q:QP)(σr:aj)(Hr:List Res)(late:List Nat)(fuel:Nat)(listed:Array Bool)(e:Env)(σ:aj)(H:List Res):List Nat->Prop
  |[]=>True
  |i::r=>(∃oi:Oper,ops[i]? =some oi/\oi.guard=none/\OpOk X oi e σ H λe' σ' H'=>(∀w,kH σ' H' w->kH σr Hr w)/\TA X ops Q σr Hr late fuel (listed.setIfInBounds i true) e' σ' H')/\TA.All X ops Q σr Hr late fuel listed e σ H r
theorem TA.All.at{l:List Nat}(h:TA.All X ops Q σr Hr late fuel listed e σ H l){i:Nat}(hi:i∈l): ∃oi:Oper,ops[i]? =some oi/\oi.guard=none/\OpOk X oi e σ H λe' σ' H'=>(∀w,kH σ' H' w->kH σr Hr w)/\TA X ops Q σr Hr late fuel (listed.setIfInBounds i true) e' σ' H':=by
  induction l with
  |nil=>cases hi
  |cons j r ih=>
    cases hi with
    |head=>exact h.1
    |tail _ hi=>exact ih h.2 hi
theorem TA.actN(l:List Nat)(hr:Region.ready .any ops listed=l)(h:TA.All X ops Q σr Hr late fuel listed e σ H l)(hl:l≠[]:=by simp):TA X ops Q σr Hr late (fuel+1) listed e σ H:=λhnd w a hw hS hcl ha=>by
  refine ⟨λh0=>absurd (hr.symm.trans h0) hl,λq hq=> ?_⟩;have hst:=hcl.step hq;rw [hr]at hq;obtain ⟨oi,hi,hg,ho⟩:=TA.All.at h hq;exact qp_ hi hg (ho.at hw ha λe' σ' H' a' w' ⟨hs,hk⟩ hw' ha'=>⟨λ_ _=>hs w' hw'.sees,hk hnd w' a' hw' (hs w' hw'.sees) hst ha'⟩)
end
theorem OpOk.front{X:Ctx}{e:Env}{σ:aj}{H F:List Res}{o:Oper}{K:Env->aj->List Res->Prop}(i:Nat){r:Res}(hi:H[i]? =some r)(hF:H.eraseIdx i=F)(h:OpOk X o e σ (r::F) K):OpOk X o e σ H K:=
  λu0 C0 τ0 w a hw ha=>h u0 C0 τ0 w a (hw.perm (PX hi hF)) ha
section
variable {P:Program} {n:Nat} {e:Env} {σ:aj} {H:List Res} {o:Oper} {x y z:Operand}
end
theorem x0_(l:List UInt8):l.flatMap jo=l.map λb=>Value.int .u8 (b.toNat:Nat):=by
  induction l with
  |nil=>rfl
  |cons b l ih=>rw [List.flatMap_cons,ih];rfl
def grd{α:Type}(p:Prop)[Decidable p](t:Option α):Option α:=if p then t else none
theorem grd_c{α:Type}{p:Prop}[Decidable p]{t:Option α}{r:α}(h:grd p t=some r):p:=by
  unfold grd at h;split at h
  · assumption
  cases h
theorem grd_t{α:Type}{p:Prop}[Decidable p]{t:Option α}{r:α}(h:grd p t=some r):t=some r:=by
  unfold grd at h;split at h
  · exact h
  cases h
theorem cu{α:Type}{p:Prop}[Decidable p]{t:Option α}(hp:p):grd p t=t:=if_pos hp
def bnd{α β:Type}(s:Option α)(f:α->Option β):Option β:=s.bind f
theorem bg{α β:Type}{s:Option α}{f:α->Option β}{r:β}(h:bnd s f=some r): ∃x,s=some x/\f x=some r:=by
  cases s with
  |none=>cases h
  |some x=>exact ⟨x,rfl,h⟩
theorem iM{α β:Type}{s:Option α}{f:α->Option β}{x:α}(h:s=some x):bnd s f=f x:=by rw [h];rfl
def iteO{α:Type}(b:Bool)(t e:Option α):Option α:=match b with|true=>t|false=>e
theorem uZ{α:Type}{b:Bool}{t e:Option α}{r:Option α}(hb:b=true)(h:iteO b t e=r):t=r:=by subst hb;exact h
theorem u_{α:Type}{b:Bool}{t e:Option α}{r:Option α}(hb:b=false)(h:iteO b t e=r):e=r:=by subst hb;exact h
@[simp]theorem iteO_true{α:Type}(t e:Option α):iteO true t e=t:=rfl
@[simp]theorem iteO_false{α:Type}(t e:Option α):iteO false t e=e:=rfl
section iter
variable {S R:Type}
def Ac (step : S -> Option (S ⊕ R)) : Nat -> S -> Option R
  |0,_=>none
  |n+1,s=>match step s with
    |none=>none
    |some (.inl s')=>Ac step n s'
    |some (.inr r)=>some r
theorem qb_{step:S->Option (S⊕R)}: ∀{n:Nat} {s:S} {r:R},Ac step n s=some r->Ac step (n+1) s=some r
  |0,_,_,h=>by cases h
  | n + 1, s, r, h => by
    rw [Ac]at h ⊢;cases hs:step s with
    |none=>rw [hs]at h;cases h
    |some z=>
      rw [hs]at h;cases z with
      |inl s'=>exact qb_ (n:=n) h
      |inr r'=>exact h
theorem uk_{step:S->Option (S⊕R)}{n m:Nat}{s:S}{r:R}(h:Ac step n s=some r)(hm:n<=m):Ac step m s=some r:=by
  induction hm with
  |refl=>exact h
  |step _ ih=>exact qb_ ih
open Classical in
def iter(step:S->Option (S⊕R))(s:S):Option R:=if h: ∃n r,Ac step n s=some r then some h.choose_spec.choose else none
theorem YA{step:S->Option (S⊕R)}{s:S}{r:R}:iter step s=some r↔ ∃n,Ac step n s=some r:=by
  unfold iter;constructor
  · intro h
    split at h
    · rename_i hx
      have:=hx.choose_spec.choose_spec;cases h;exact ⟨_,this⟩
    cases h
  rintro ⟨n,hn⟩;have hx: ∃n r,Ac step n s=some r:=⟨n,r,hn⟩;rw [dif_pos hx];have h3:=hx.choose_spec.choose_spec;rcases Nat.le_total n hx.choose with h|h
  · exact h3.symm.trans (uk_ hn h)
  exact (uk_ h3 h).symm.trans hn
open Classical in
def rQ(step:S->Option (S⊕R))(s:S):Nat:=if h: ∃n,(Ac step n s).isSome=true then (ni_ h).choose else 0
theorem ou_{step:S->Option (S⊕R)}{s:S}{r:R}(h:iter step s=some r):Ac step (rQ step s) s=some r/\ ∀n r',Ac step n s=some r'->rQ step s<=n:=by
  obtain ⟨n,hn⟩:=YA.1 h;have hx: ∃n,(Ac step n s).isSome=true:=⟨n,by rw [hn];rfl⟩;unfold rQ;rw [dif_pos hx];have hc:=(ni_ hx).choose_spec;refine ⟨?_,λm r' hm=>hc.2 m (by rw [hm];rfl)⟩;obtain ⟨r',hr'⟩:=Option.isSome_iff_exists.1 hc.1;rw [hr',<-h];exact (YA.2 ⟨_,hr'⟩).symm
structure Rd (step:S->Option (S⊕R)) (r:R) (m:Nat) (z:S⊕R):Prop where
  next: ∀s',z= .inl s'->iter step s'=some r/\rQ step s'<m
  done: ∀r',z= .inr r'->r'=r
theorem zQ {step : S -> Option (S ⊕ R)} {s : S} {r : R} (h : iter step s = some r) : ∃ z, step s = some z /\ Rd step r (rQ step s) z := by
  obtain ⟨h1,h2⟩:=ou_ h;cases hn:rQ step s with
  |zero=>rw [hn]at h1;cases h1
  |succ n=>
    rw [hn,Ac]at h1;cases hs:step s with
    |none=>rw [hs]at h1;cases h1
    |some z=>
      rw [hs]at h1;cases z with
      |inl s'=>
        have h1:Ac step n s'=some r:=h1;have hi:iter step s'=some r:=YA.2 ⟨n,h1⟩;refine ⟨_,rfl,⟨λs'' he=> ?_,λr' he=>(by cases he)⟩⟩;cases he;have:=(ou_ hi).2 n r h1;exact ⟨hi,by omega⟩
      |inr r'=>
        have h1:some r'=some r:=h1;cases h1;exact ⟨_,rfl,⟨λs'' he=>(by cases he),λr'' he=>(by cases he;rfl)⟩⟩
theorem Vj{step:S->Option (S⊕R)}{s s':S}{r:R}(hs:step s=some (.inl s'))(h:iter step s'=some r):iter step s=some r:=by
  obtain ⟨n,hn⟩:=YA.1 h;exact YA.2 ⟨n+1,by rw [Ac,hs];exact hn⟩
theorem Jb{step:S->Option (S⊕R)}{s:S}{r:R}(hs:step s=some (.inr r)):iter step s=some r:=
  YA.2 ⟨1,by rw [Ac,hs]⟩
theorem Rh {step : S -> Option (S ⊕ R)} (I : S -> Prop) (P : R -> Prop) (μ : S -> Nat)
    (hs: ∀s,I s->(∃s',step s=some (.inl s')/\I s'/\μ s'<μ s)\/ ∃r,step s=some (.inr r)/\P r) (s:S) (h0:I s): ∃r,iter step s=some r/\P r:=by
  have key: ∀n s,μ s=n->I s-> ∃r,iter step s=some r/\P r:=by
    intro n
    induction n using Nat.strongRecOn with
    | _ n ih =>
      intro s hn hI;rcases hs s hI with ⟨s',h1,h2,h3⟩|⟨r,h1,h2⟩
      · obtain ⟨r,h4,h5⟩:=ih (μ s') (hn▸h3) s' rfl h2
        exact ⟨r,Vj h1 h4,h5⟩
      exact ⟨r,Jb h1,h2⟩
  exact key _ s rfl h0
theorem iter_seq {step : S -> Option (S ⊕ R)} {r : R} (f : Nat -> S) (n : Nat) (hs : ∀ k, k < n -> step (f k) = some (.inl (f (k + 1)))) (hd : step (f n) = some (.inr r)) : ∀ k, k <= n -> iter step (f k) = some r := by
  intro k hk;obtain ⟨m,rfl⟩: ∃m,k=n - m:=⟨n - k,by omega⟩
  induction m with
  |zero=>exact Jb hd
  |succ m ih=>
    by_cases h:n - (m+1)<n
    · by_cases hm:m<n
      · have:=hs (n - (m+1)) h
        rw [show n - (m+1)+1=n - m from by omega]at this;exact Vj this (ih (by omega))
      have:n - (m+1)=n - m:=by omega
      rw [this];exact ih (by omega)
    have:n - (m+1)=n - m:=by omega
    rw [this];exact ih (by omega)
def fin(t:Option R):Option (S⊕R):=match t with|none=>none|some r=>some (.inr r)
def nxt(s:S):Option (S⊕R):=some (.inl s)
@[simp]theorem fin_some(r:R):(fin (some r):Option (S⊕R))=some (.inr r):=rfl
theorem bJ{step:S->Option (S⊕R)}{r:R}{m:Nat}{z:S⊕R}{t:Option R}(hR:Rd step r m z)(h:fin t=some z):t=some r:=by
  cases t with
  |none=>cases h
  |some r'=>simp only [fin]at h;cases h;rw [hR.done r' rfl]
theorem xP{step:S->Option (S⊕R)}{r:R}{m:Nat}{z:S⊕R}{s:S}(hR:Rd step r m z)(h:nxt s=some z):iter step s=some r/\rQ step s<m:=by
  simp only [nxt]at h;cases h;exact hR.next s rfl
end iter
def Sub(F H:List Res):Prop:= ∃P:List Res,P.Perm H/\F.Sublist P
theorem θ{F H:List Res}(k:Nat)(h:H.take k=F):Sub F H:=⟨H,List.Perm.refl _,h▸List.take_sublist k H⟩
theorem Sub.front{F H G:List Res}{r:Res}(i:Nat)(hi:H[i]? =some r)(hG:H.eraseIdx i=G)(h:Sub F (r::G)):Sub F H:=by
  obtain ⟨P,h1,h2⟩:=h;exact ⟨P,h1.trans (PX hi hG),h2⟩
theorem Reach.cu_{w0:World}{C:List Nat}{σ0 σ:aj}{w:World}{F H:List Res}(h:Reach w0 C σ0 σ w H)(hs:Sub F H):Reach w0 C σ0 σ w F:=by
  obtain ⟨P,h1,h2⟩:=hs;exact (h.perm h1).sub h2
section rules
variable {X:Ctx} {ops:Array Oper} {Q:QP} {e:Env} {σ:aj} {H F:List Res} {c c1 c2:Code} {l:List Oper}
theorem Θ(hs:Sub F H)(h:TC X Q c e σ F):TC X Q c e σ H:=λw a hw ha=>h w a (hw.by λ_ k=>k.cu_ hs) ha
theorem Reach.back{w0:World}{C:List Nat}{σ0 σ':aj}{w:World}(h:Reach w0 C σ0 σ' w H):Reach w0 C σ0 σ0 w H:=
  ⟨h.os,h.tape,h.output,h.size,h.frame,aj.le.refl _,λb o hb=>h.fit b o (h.le b o hb),λb o hb=> .inl hb,h.holds,h.own,h.nodup,(λr hr b hb=>by
    cases hs:σ0 b with
    |none=>rfl
    |some o=>have h1:=h.apart r hr b hb;rw [h.le b o hs]at h1;cases h1),h.drawn⟩
theorem TC.back(h:TC X Q c e X.σ0 H):TC X Q c e σ H:=λw a hw ha=>h w a (by
  have hz: ∀D,σ D=none->X.σ0 D=none:=λD g4=>by
    cases hs:X.σ0 D with
    |none=>rfl
    |some o=>have:=hw.le D o hs;rw [g4]at this;cases this
  refine ⟨hw.toReach.back,λho=> ?_,hw.marks.is,λl hl=> ?_⟩
  · obtain ⟨Ds,h1,h2,h3⟩:=hw.marks.ex ho
    exact ⟨Ds,h1,h2,λD hD=>⟨(h3 D hD).1,(h3 D hD).2.1,(h3 D hD).2.2.1,hz D (h3 D hD).2.2.2⟩⟩
  exact ⟨(hw.marks.rc l hl).1,(hw.marks.rc l hl).2.1,(hw.marks.rc l hl).2.2.1,hz l (hw.marks.rc l hl).2.2.2⟩) ha
theorem TC.RJ(h:TC X (λex e σ H=> ∃F,Sub F H/\Q ex e σ F) c e σ H):TC X Q c e σ H:=λw a hw ha=>
  Go.wpIn_mono (h w a hw ha) λex a' w' ⟨e',σ',H',h1,h2,F,h3,h4⟩=>⟨e',σ',F,h1,h2.by λ_ k=>k.cu_ h3,h4⟩
def CutP{α:Type}(M:List Nat)(e:Env)(S:α->List (Nat×Value))(Hf:α->List Res)(σf:α->aj)(I:α->Prop):Env->aj->List Res->Prop:=
  λe' σ' H'=>Agr M e' e/\ ∃a,I a/\Has e' (S a)/\Sub (Hf a) H'/\σ'=σf a
theorem TC.subQ{J J':Env->aj->List Res->Prop}(hJ: ∀e σ H,J e σ H-> ∃F,Sub F H/\J' e σ F)(h:TC X (seqQ J Q) c e σ H):TC X (seqQ J' Q) c e σ H:=λw a hw ha=>
  Go.wpIn_mono (h w a hw ha) λex a' w' ⟨e',σ',H',h1,h2,h3⟩=>by
    cases ex
    case normal=>
      obtain ⟨F,hF,hj⟩:=hJ _ _ _ h3;exact ⟨e',σ',F,h1,h2.by λ_ k=>k.cu_ hF,hj⟩
    all_goals exact ⟨e',σ',H',h1,h2,h3⟩
theorem TC.cutG{α:Type}(M:List Nat)(S:α->List (Nat×Value))(Hf:α->List Res)(σf:α->aj)(I:α->Prop)
    (h:TC X (seqQ (CutP M e S Hf σf I) Q) c1 e σ H) (k: ∀(a:α) (j:Env),I a->TC X Q c2 (upds (mask M j e) (S a)) (σf a) (Hf a)):TC X Q (.seq c1 c2) e σ H:=by
  refine TC.cut (λe' σ' H'=>Agr M e' e/\ ∃a,I a/\Has e' (S a)/\H'=Hf a/\σ'=σf a) (TC.subQ ?_ h) ?_
  · rintro e' σ' H' ⟨h1,a,h2,h3,h4,h5⟩
    exact ⟨_,h4,h1,a,h2,h3,rfl,h5⟩
  rintro e' σ' H' ⟨hA,a,hI,hs,rfl,rfl⟩;rw [ur_ hA hs];exact k a e' hI
def LoopP{α:Type}(M:List Nat)(e:Env)(S:α->List (Nat×Value))(Hf:α->List Res)(σf:α->aj)(I:α->Prop)(μ:α->Nat)(m:Nat):Env->aj->List Res->Prop:=
  λe' σ' H'=>Agr M e' e/\ ∃a,μ a<m/\I a/\Has e' (S a)/\Sub (Hf a) H'/\σ'=σf a
theorem TC.Ak{α:Type}(M:List Nat)(S:α->List (Nat×Value))(Hf:α->List Res)(σf:α->aj)(I:α->Prop)(μ:α->Nat)(a0:α)
    (hH:Sub (Hf a0) H) (hσ:σ=σf a0) (hS:Has e (S a0)) (h0:I a0)
    (round: ∀(a:α) (j:Env),I a->TC X (seqQ (LoopP M e S Hf σf I μ (μ a)) Q) c (upds (mask M j e) (S a)) (σf a) (Hf a)):TC X Q (.loop c) e σ H:=by
  refine Θ hH ?_;refine TC.c1_ M S Hf σf I μ a0 h0 hS rfl hσ λa j hI=>TC.subQ ?_ (round a j hI);rintro e' σ' H' ⟨h1,a',h2,h3,h4,h5,h6⟩;exact ⟨_,h5,h1,a',h2,h3,h4,rfl,h6⟩
theorem ko_{F:Fence}{n:Nat}{P:Program}{c:Code}{Q:Exit->Act->World->Prop}{a:Act}{w:World}(h:c.wpIn F n P (Exit.noGoto Q) a w):(Code.scope c).wpIn F n P Q a w:=by
  intro b k cs hro hb hr;have hst:step P (lone (b.atR a (.code (.scope c)::k)) cs w)= .next (lone (b.atR a (.code c:: .inScope c::k)) cs w):=step_lone_go (by simp [stepG,stepG.exec,Frame.atR]);have hin: ∀a w,step P (lone (b.atR a (.inScope c::k)) cs w)= .next (lone (b.atR a k) cs w):=λa w=>step_lone_go (by simp [stepG,stepG.exec,Frame.atR]);have h0:(lone (b.atR a (.code (.scope c)::k)) cs w).fenced P F:=fenced_calm hb hr rfl;obtain ⟨e,a₁,w₁,hq,harr⟩:=h b (.inScope c::k) cs hro hb hr;cases e with
  |normal=>exact ⟨.normal,a₁,w₁,hq,.head h0 hst (StepsIn.trans harr (.one (fenced_calm hb hr rfl) (hin _ _)))⟩
  |exit id=>
    have hx:exitTo id (.inScope c::k)=exitTo id k:=by simp [exitTo]
    exact ⟨.exit id,a₁,w₁,hq,λk' hk=> .head h0 hst (harr.1 k' (by rw [hx];exact hk)),λhr' hk=>let ⟨k₁,h1,h2⟩:=harr.2 hr' (by rw [hx];exact hk);⟨k₁,h1,.head h0 hst h2⟩⟩
  |goto l=>exact hq.elim
  |ret=>exact ⟨_,a₁,w₁,hq,.of_steps (.one h0 hst) harr⟩
  |panic ch=>exact ⟨_,a₁,w₁,hq,.of_steps (.one h0 hst) harr⟩
  |outgrown=>exact ⟨_,a₁,w₁,hq,.of_steps (.one h0 hst) harr⟩
@[reducible]def scpQ(Q:QP):QP:=λex=>match ex with
  | .goto _=>λ_ _ _=>False
  |ex=>Q ex
theorem TC.scope(h:TC X (scpQ Q) c e σ H):TC X Q (.scope c) e σ H:=λw a hw ha=>
  ko_ (Go.wpIn_mono (h w a hw ha) λex a' w' ⟨e',σ',H',h1,h2,h3⟩=>by
    cases ex
    case goto l=>exact h3.elim
    all_goals exact ⟨e',σ',H',h1,h2,h3⟩)
theorem TC.label{n:Nat}(h:Q .normal e σ H):TC X Q (.label n) e σ H:=λw a hw ha=>Go.wpIn_label ⟨e,σ,H,ha,hw,h⟩
theorem P.n(h:Q .normal e σ H):scpQ Q .normal e σ H:=h
theorem P.x{i:Nat}(h:Q (.exit i) e σ H):scpQ Q (.exit i) e σ H:=h
theorem P.r(h:Q .ret e σ H):scpQ Q .ret e σ H:=h
end rules
inductive RVs (P:Program) (n:Nat) (e:Env) (H:List Res):List ResultVar->List Value->Prop
  |nil:RVs P n e H [] []
  |tmp {t:Nat} {v:Value} {rs:List ResultVar} {vs:List Value} (h:e t=v) (k:RVs P n e H rs vs):RVs P n e H (.tmp t::rs) (v::vs)
  |agg {t T b s i:Nat} {E:TypeId} {cs:Array Value} {rs:List ResultVar} {vs:List Value} (hA:aggOf P T=some true) (hz:szOf P T=some s) (ht:e t=loc b 0) (hi:H[i]? =some (ω b cs E)) (hl:cs.size=s) (k:RVs P n e H rs vs):RVs P n e H (.cell t T::rs) (.agg cs::vs)
  |one {t T b i:Nat} {E:TypeId} {cs:Array Value} {v:Value} {rs:List ResultVar} {vs:List Value} (hA:aggOf P T=some false) (ht:e t=loc b 0) (hi:H[i]? =some (ω b cs E)) (hl:cs[0]? =some v) (k:RVs P n e H rs vs):RVs P n e H (.cell t T::rs) (v::vs)
def tupV:List Value->Value
  |[v]=>v
  |vs=> .tuple vs.toArray
def Ug(tmps:Array Value):ResultVar->Sem Value
  | .tmp t=>pure (tmps.getD t undef)
  | .cell a t=>do loadVar t (<-asAddr (tmps.getD a undef))
theorem RVs.run{P:Program}{n:Nat}{e:Env}{H:List Res}{rs:List ResultVar}{vs:List Value}(h:RVs P n e H rs vs){a:Act}(ha:St n e a){w:World}(hw: ∀r∈H,r.holds w):
    (rs.mapM (Ug a.tmps)).run P w= .ok vs w:=by
  induction h with
  |nil=>simp
  | @tmp t v rs vs h k ih=>
    have h1:(Ug a.tmps (.tmp t)).run P w= .ok v w:=by rw [Ug,ha.get,h];rfl
    simp only [List.mapM_cons,Sem.run_bind,h1,Result.andThen_ok,ih,Sem.run_pure]
  | @agg t T b s i E cs rs vs hA hz ht hi hl k ih=>
    have h2:=or_ (P:=P) hA hz hi hl hw;have h1:(Ug a.tmps (.cell t T)).run P w= .ok (.agg cs) w:=by rw [Ug,ha.get,ht];simp only [loc,asAddr,Sem.run_bind,Sem.run_pure,Result.andThen_ok];exact h2
    simp only [List.mapM_cons,Sem.run_bind,h1,Result.andThen_ok,ih,Sem.run_pure]
  | @one t T b i E cs v rs vs hA ht hi hl k ih=>
    have hh:=hw _ (List.mem_of_getElem? hi);have h2:=f7_ (P:=P) hA (h6_ hh hl);have h1:(Ug a.tmps (.cell t T)).run P w= .ok v w:=by rw [Ug,ha.get,ht];simp only [loc,asAddr,Sem.run_bind,Sem.run_pure,Result.andThen_ok];exact h2
    simp only [List.mapM_cons,Sem.run_bind,h1,Result.andThen_ok,ih,Sem.run_pure]
theorem RVs.val{P:Program}{fn:Func}{n:Nat}{e:Env}{H:List Res}{rs:List ResultVar}{vs:List Value}(hr:fn.results=rs.toArray)(h:RVs P n e H rs vs):EJ P fn n e H (tupV vs):=λw a ha hw=>by
  have h1:=h.run ha hw;have h2:results fn a.tmps=(do let vs<-Array.mapM (Ug a.tmps) rs.toArray;pure (if h:vs.size=1 then vs[0] else .tuple vs):Sem Value):=by
    unfold results;rw [hr];congr 1
  rw [h2];simp only [List.mapM_toArray,Sem.run_bind,Sem.run_map,h1,Result.andThen_ok,Sem.run_pure];congr 1
  match vs with
  |[]=>rfl
  |[v]=>rfl
  |v::u::l=>simp [tupV]
theorem RetOk.mk'{P:Program}{fn:Func}{n:Nat}{Post:Value->aj->List Res->Prop}{ex:Exit}{e:Env}{σ:aj}{H:List Res}{rs:List ResultVar}{vs:List Value}(F:List Res)(hr:fn.results=rs.toArray)(hex:ex= .ret\/ex= .normal)(h:RVs P n e H rs vs)(hs:F.Sublist H)
    (hp:Post (tupV vs) σ F):RetOk P fn n Post ex e σ H:=RetOk.of F hex (h.val hr) hs hp
section
variable {X:Ctx} {ops:Array Oper} {Q:QP} {e:Env} {σ:aj} {H H':List Res} {c:Code} {l:List Oper}
theorem TL.asH(h:H=H')(k:TL X ops Q l e σ H'):TL X ops Q l e σ H:=h▸k
end
abbrev aW:Value:=.slice none 0 0
abbrev dO{α:Type}(E:Nat)(enc:α->List Value)(a:Option Addr)(c:Nat)(l:List α):Res:=ε E 1 enc (.slice a l.length c) l
abbrev dH{α:Type}(σ:aj)(enc:α->List Value)(a:Option Addr)(c:Nat)(l:List α):Prop:=RS σ 1 enc (.slice a l.length c) l
theorem grd_e{α:Type _}{p:Prop}[Decidable p]{t:Option α}{r:α}(h:grd p t=some r):p/\t=some r:=⟨grd_c h,grd_t h⟩
section
variable {X:Ctx} {ops:Array Oper} {Q:QP} {e e':Env} {σ σ' σr:aj} {H H' Hr:List Res} {late:List Nat} {fuel:Nat} {listed:Array Bool} {c c1 c2:Code} {rest:List Oper} {o:Oper} {x:Operand} {d:Nat}
theorem lf{α:Type}{M:List Nat}{S:α->List (Nat×Value)}{Hf:α->List Res}{σf:α->aj}{I:α->Prop}{μ:α->Nat}{m:Nat}(a:α)(hμ:μ a<m)(hI:I a)(hs:Sub (Hf a) H')
    (hA:Agr M e' e:=by repeat (first|exact Agr.refl _ _|exact Agr.mask|refine Agr.upd rfl ?_ |refine Agr.RP rfl ?_ |refine Agr.upds rfl ?_)) (hS:Has e' (S a):=by repeat (first|exact trivial|refine ⟨rfl,?_⟩)) (hσ:σ'=σf a:=by rfl):LoopP M e S Hf σf I μ m e' σ' H':=⟨hA,a,hμ,hI,hS,hs,hσ⟩
theorem cf{α:Type}{M:List Nat}{S:α->List (Nat×Value)}{Hf:α->List Res}{σf:α->aj}{I:α->Prop}(a:α)(hI:I a)(hs:Sub (Hf a) H')
    (hA:Agr M e' e:=by repeat (first|exact Agr.refl _ _|exact Agr.mask|refine Agr.upd rfl ?_ |refine Agr.RP rfl ?_ |refine Agr.upds rfl ?_)) (hS:Has e' (S a):=by repeat (first|exact trivial|refine ⟨rfl,?_⟩)) (hσ:σ'=σf a:=by rfl):CutP M e S Hf σf I e' σ' H':=⟨hA,a,hI,hS,hs,hσ⟩
theorem k0{B:Prop}(k:B):(∀w,kH σ H w->kH σ H w)/\B:=⟨λ_ h=>h,k⟩
theorem k1{r1:Res}{B:Prop}(k:B):(∀w,kH σ (r1::H) w->kH σ H w)/\B:=⟨λw h=>qj (aj.le.refl _) (λr hr=>rM _ hr) w h,k⟩
theorem k2{r1 r2:Res}{B:Prop}(k:B):(∀w,kH σ (r1::r2::H) w->kH σ H w)/\B:=⟨λw h=>qj (aj.le.refl _) (λr hr=>rM _ (rM _ hr)) w h,k⟩
theorem k3{r1 r2 r3:Res}{B:Prop}(k:B):(∀w,kH σ (r1::r2::r3::H) w->kH σ H w)/\B:=⟨λw h=>qj (aj.le.refl _) (λr hr=>rM _ (rM _ (rM _ hr))) w h,k⟩
theorem kc{B:Prop}(n:Nat)(k:B)(hH:H'.drop n=H:=by rfl):(∀w,kH σ H' w->kH σ H w)/\B:=⟨λw h=>qj (aj.le.refl _) (λr hr=>List.mem_of_mem_drop (hH▸hr)) w h,k⟩
theorem kl{B:Prop}(n:Nat)(hle:σ.le σ')(k:B)(hH:H'.drop n=H:=by rfl):(∀w,kH σ' H' w->kH σ H w)/\B:=⟨λw h=>qj hle (λr hr=>List.mem_of_mem_drop (hH▸hr)) w h,k⟩
def QZ:List Nat->List Res->List Res
  |[],H=>H
  |i::is,H=>match H[i]? with|some r=>QZ is (r::H.eraseIdx i)|none=>H
theorem ho_: ∀(is:List Nat) (H:List Res),(QZ is H).Perm H
  |[],H=>List.Perm.refl _
  |i::is,H=>by
    unfold QZ
    split
    · rename_i r hi;exact (ho_ is _).trans (PX hi rfl)
    exact List.Perm.refl _
theorem ψ(is:List Nat)(k:Nat){F:List Res}(h:(QZ is H).take k=F:=by rfl):Sub F H:=⟨QZ is H,ho_ is H,h▸List.take_sublist k _⟩
theorem ν(i:Nat){oi:Oper}{v:Value}{d:Nat}(hi:ops[i]? =some oi)(hv:OpVal X.P X.n oi e (λ_=>none) [] v)(hd:oi.dst=some d)
    (k:TA X ops Q σr Hr late fuel (listed.setIfInBounds i true) (upd e d v) σ H) (hs:Region.noSelect ops=true:=by kernel_rfl) (hf:Region.free .any ops listed i=true:=by kernel_rfl) (hr:(Region.ready .any ops listed).contains i=true:=by kernel_rfl) (hg:oi.guard=none:=by rfl) (hn:Nat.blt d X.n=true:=by rfl):TA X ops Q σr Hr late (fuel+1) listed e σ H:=
  TA.OU i hi hs hf hr hg hv hd hn k
theorem χ(i:Nat){oi:Oper}{v:Value}{d:Nat}(hi:ops[i]? =some oi)(hv:OpVal X.P X.n oi e σr Hr v)(hd:oi.dst=some d)
    (k:TA X ops Q σr Hr late fuel (listed.setIfInBounds i true) (upd e d v) σ H) (hs:Region.noSelect ops=true:=by kernel_rfl) (hf:Region.free .any ops listed i=true:=by kernel_rfl) (hr:(Region.ready .any ops listed).contains i=true:=by kernel_rfl) (hl:late.all (λj=>after? ops ops.size j i)=true:=by kernel_rfl) (hg:oi.guard=none:=by rfl) (hn:Nat.blt d X.n=true:=by rfl):TA X ops Q σr Hr late (fuel+1) listed e σ H:=
  TA.take i hi hs hf hr hl hg hv hd hn k
theorem υ(i:Nat){oi:Oper}(hi:ops[i]? =some oi)
    (h:OpOk X oi e σ H λe' σ' H'=>(∀w,kH σ' H' w->kH σr Hr w)/\TA X ops Q σr Hr late fuel (listed.setIfInBounds i true) e' σ' H') (hr:Region.ready .any ops listed=[i]:=by kernel_rfl) (hg:oi.guard=none:=by rfl):TA X ops Q σr Hr late (fuel+1) listed e σ H:=TA.act i hr hi hg h
theorem TA.dn(h:Q .normal e σ H)(hr:Region.ready .any ops listed=[]:=by kernel_rfl):TA X ops Q σr Hr late fuel listed e σ H:=TA.done hr h
theorem TA.on(i:Nat){oi oj:Oper}{v:Value}{d j dj:Nat}{b:Bool}(hi:ops[i]? =some oi)(hg:oi.guard=some (j,b))(hj:ops[j]? =some oj)(hdj:oj.dst=some dj)(hv:OpVal X.P X.n oi e σr Hr v)(hd:oi.dst=some d)
    (k:TA X ops Q σr Hr late fuel (listed.setIfInBounds i true) (upd e d v) σ H) (hs:Region.noSelect ops=true:=by kernel_rfl) (hf:Region.free .any ops listed i=true:=by kernel_rfl) (hr:(Region.ready .any ops listed).contains i=true:=by kernel_rfl) (hl:late.all (λj=>after? ops ops.size j i)=true:=by kernel_rfl) (hnj:Nat.blt dj X.n=true:=by rfl) (hb:e dj= .bool b:=by rfl) (hn:Nat.blt d X.n=true:=by rfl):TA X ops Q σr Hr late (fuel+1) listed e σ H:=
  TA.takeOn i hi hs hf hr hl hg hj hdj hnj hb hv hd hn k
theorem so{α:Type}{a b:α}(h:some a=some b):a=b:=Option.some.inj h
theorem an{O:Type}{A B C:O->Prop}{D:Prop}{x:O}(h1:A x)(h2:B x)(h3:C x)(d:D):(∃x,A x/\B x/\C x)/\D:=⟨⟨x,h1,h2,h3⟩,d⟩
theorem π{p:Prop}[Decidable p]{R:Type}{t1 t2:Option R}{r:R}(hc:ev e x= .bool (decide p))(hh:iteO (decide p) t1 t2=some r)(ht:p->t1=some r->TC X Q c1 e σ H)(hf: ¬ p->t2=some r->TC X Q c2 e σ H):TC X Q (.cond x c1 c2) e σ H:=
  TC.cond hc (λh=>ht (Xf h) (uZ h hh)) (λh=>hf (df_ h) (u_ h hh))
theorem TC.cB{t:Bool}{R:Type}{t1 t2:Option R}{r:R}(hc:ev e x= .bool t)(hh:iteO t t1 t2=some r)(ht:t=true->t1=some r->TC X Q c1 e σ H)(hf:t=false->t2=some r->TC X Q c2 e σ H):TC X Q (.cond x c1 c2) e σ H:=
  TC.cond hc (λh=>ht h (uZ h hh)) (λh=>hf h (u_ h hh))
end
section
variable {P:Program} {fn:Func} {n:Nat} {e:Env} {σ:aj} {H:List Res}
theorem r1(t:Nat){Post:Value->aj->List Res->Prop}(hr:fn.results=(#[.tmp t]:Array ResultVar):=by rfl)(hp:Post (e t) σ []:=by exact ⟨rfl,rfl,rfl⟩):RetOk P fn n Post .ret e σ H:=RetOk.of [] (.inl rfl) (EJ.one hr) (List.nil_sublist _) hp
end
section
variable {X:Ctx} {ops:Array Oper} {Q:QP} {e:Env} {σ:aj} {H F:List Res} {c c1 c2:Code} {rest:List Oper} {o:Oper} {x:Operand} {d:Nat}
def plC(n:Nat)(o:Oper):Option Nat:=match o.guard,o.dst with
  |none,some d=>if Nat.blt d n then some d else none
  |_,_=>none
theorem pm_{n:Nat}(h:plC n o=some d):o.guard=none/\o.dst=some d/\Nat.blt d n=true:=by
  unfold plC at h
  split at h
  · rename_i d' h1 h2
    split at h
    · rename_i h3;cases h;exact ⟨h1,h2,h3⟩
    cases h
  cases h
theorem ι{v:Value}(h:plC X.n o=some d)(hv:OpVal X.P X.n o e σ H v)(k:TL X ops Q rest (upd e d v) σ H):TL X ops Q (o::rest) e σ H:=TL.v (pm_ h).1 hv (pm_ h).2.1 (pm_ h).2.2 k
def mvC(n:Nat)(o:Oper):Option (Operand×Nat):=match o.op with
  | .move x| .assign x=>(plC n o).map λd=>(x,d)
  |_=>none
theorem UQ{n:Nat}(h:mvC n o=some (x,d)):plC n o=some d/\EI o.op x:=by
  unfold mvC at h
  split at h
  · rename_i y h1
    rw [Option.map_eq_some_iff]at h;obtain ⟨a,ha,hb⟩:=h;cases hb;exact ⟨ha,.inl h1⟩
  · rename_i y h1
    rw [Option.map_eq_some_iff]at h;obtain ⟨a,ha,hb⟩:=h;cases hb;exact ⟨ha,.inr h1⟩
  cases h
theorem TL.i{k:IntKind}{a:Int}(h:mvC X.n o=some (x,d))(hx:ev e x= .int k a)(kk:TL X ops Q rest (upd e d (.int k a)) σ H):TL X ops Q (o::rest) e σ H:=ι (UQ h).1 (OpVal.l7 (UQ h).2 hx) kk
theorem TL.j{b:Bool}(h:mvC X.n o=some (x,d))(hx:ev e x= .bool b)(kk:TL X ops Q rest (upd e d (.bool b)) σ H):TL X ops Q (o::rest) e σ H:=ι (UQ h).1 (OpVal.moveB (UQ h).2 hx) kk
theorem TL.s{a:Option Addr}{m k:Nat}(h:mvC X.n o=some (x,d))(hx:ev e x= .slice a m k)(kk:TL X ops Q rest (upd e d (.slice a m k)) σ H):TL X ops Q (o::rest) e σ H:=ι (UQ h).1 (OpVal.Z8 (UQ h).2 hx) kk
def gdC (n : Nat) (ops : Array Oper) (e : Env) (o : Oper) : Option (Bool × Nat) := match o.guard, o.dst with
  |some (j,b),some d=>match ops[j]? with
    |some oj=>match oj.dst with
      |some dj=>if Nat.blt dj n then (if Nat.blt d n then some (match e dj with| .bool b'=>b' == b|_=>false,d) else none) else none
      |none=>none
    |none=>none
  |_,_=>none
theorem vn_ {n : Nat} {w : Bool} (h : gdC n ops e o = some (w, d)) : o.dst = some d /\ Nat.blt d n = true /\ ∃ j b oj dj, o.guard = some (j, b) /\ ops[j]? = some oj /\ oj.dst = some dj /\ Nat.blt dj n = true /\ (match e dj with | .bool b' => b' == b | _ => false) = w := by
  unfold gdC at h
  split at h
  · rename_i j b d' h1 h2
    split at h
    · rename_i oj h3
      split at h
      · rename_i dj h4
        split at h
        · rename_i h5
          split at h
          · rename_i h6;cases h;exact ⟨h2,h6,j,b,oj,dj,h1,h3,h4,h5,rfl⟩
          cases h
        cases h
      cases h
    cases h
  cases h
theorem TL.g{v:Value}(h:gdC X.n ops e o=some (true,d))(hv:OpVal X.P X.n o e σ H v)(k:TL X ops Q rest (upd e d v) σ H):TL X ops Q (o::rest) e σ H:=by
  obtain ⟨h1,h2,j,b,oj,dj,h3,h4,h5,h6,h7⟩:=vn_ h;have hb:e dj= .bool b:=by
    generalize e dj=v at h7;cases v
    case bool b'=>cases b<;>cases b'<;>first|rfl|exact Bool.noConfusion (show false=true from h7)
    all_goals exact Bool.noConfusion (show false=true from h7)
  exact TL.gv h3 h4 h5 h6 hb hv h1 h2 k
theorem TL.f(h:gdC X.n ops e o=some (false,d))(k:TL X ops Q rest (upd e d undef) σ H):TL X ops Q (o::rest) e σ H:=λw a hw ha=>by
  obtain ⟨h1,h2,j,b,oj,dj,h3,h4,h5,h6,h7⟩:=vn_ h;refine wpListIn_step λK hK=> ?_;have hy:=Xc ha h4 h5 h6;have hnw:Region.wanted o (yielded ops a.tmps)≠true:=λhx=>by
    unfold Region.wanted at hx;rw [h3]at hx;replace hx:(yielded ops a.tmps j == some b)=true:=hx;rw [hy]at hx;generalize e dj=v at hx h7;cases v
    case bool b'=>cases b<;>cases b'<;>first|exact Bool.noConfusion (show false=true from hx)|exact Bool.noConfusion (show true=false from h7)
    all_goals exact Bool.noConfusion (show false=true from hx)
  rw [if_neg hnw,h1];exact ⟨λ_ _=>trivial,hK _ _ (k w _ (hw.step hw.self (nh_ _ _ _)) (ha.put (by simpa [Nat.blt_eq]using h2) undef))⟩
theorem TC.t(hc:ev e x= .bool true)(h:TC X Q c1 e σ H):TC X Q (.cond x c1 c2) e σ H:=TC.cond hc (λ_=>h) (λh=>Bool.noConfusion h)
theorem TC.f(hc:ev e x= .bool false)(h:TC X Q c2 e σ H):TC X Q (.cond x c1 c2) e σ H:=TC.cond hc (λh=>Bool.noConfusion h) (λ_=>h)
theorem Ψ(k:Nat)(h:Q .ret e σ F)(hk:H.take k=F:=by rfl):TC X Q .ret e σ H:=Θ ⟨H,List.Perm.refl _,hk▸List.take_sublist k H⟩ (η h)
end
section
variable {P:Program} {fn:Func} {n:Nat} {e:Env} {σ:aj} {H:List Res}
theorem tmps_ok(ts:List Nat):RVs P n e H (ts.map .tmp) (ts.map e):=by
  induction ts with
  |nil=>exact .nil
  |cons t ts ih=>exact .tmp rfl ih
theorem rq(ts:List Nat){Post:Value->aj->List Res->Prop}(hp:Post (tupV (ts.map e)) σ [])(hr:fn.results=(ts.map ResultVar.tmp).toArray:=by rfl):RetOk P fn n Post .ret e σ H:=
  RetOk.mk' [] hr (.inl rfl) (tmps_ok ts) (List.nil_sublist _) hp
end
def rgs:List (Nat×Nat)->List Nat
  |[]=>[]
  |(a,n)::l=>List.range' a n++rgs l
section
variable {X:Ctx} {ops:Array Oper} {Q:QP} {e:Env} {σ σr:aj} {H Hr:List Res} {late:List Nat} {fuel:Nat} {listed:Array Bool}
theorem TA.jO{α:Type}{E size:Nat}{enc:α->List Value}{v:Value}{l:List α}{F:List Res}(hl: ∀x,(enc x).length=size)(k: ∀σ',σ.le σ'->RS σ' size enc v l->TA X ops Q σr Hr late fuel listed e σ' F):TA X ops Q σr Hr late fuel listed e σ (ε E size enc v l::F):=λhnd w a hw hS hc ha=>by
  obtain ⟨σ',h1,h2,h3⟩:=hw.self.O4;exact k σ' h2 ⟨h3,hl⟩ hnd w a (hw.step h1 rfl) hS hc ha
end
theorem RS.nilF{α:Type}(σ:aj){size:Nat}(enc:α->List Value)(hl: ∀x,(enc x).length=size):RS σ size enc (.slice none 0 0) ([]:List α):=⟨RV.nil σ size,hl⟩
theorem Con.lend{P:Program}{f:FuncId}{args:Array Value}{σ:aj}{F:List Res}{r v:Value}{α:Type}{E size:Nat}{enc:α->List Value}{l:List α}(hl: ∀x,(enc x).length=size)
    (h: ∀τ,σ.le τ->RS τ size enc v l->Con P f args τ F (yo_ r τ F)):Con P f args σ (ε E size enc v l::F) (yo_ r σ (ε E size enc v l::F)):=by
  intro w hw;obtain ⟨τ,h1,h2,h3⟩:=hw.O4;have h0:Reach w (fJ F) τ τ w F:=⟨rfl,rfl,rfl,Nat.le_refl _,λ_ _ _=>rfl,aj.le.refl _,h1.fit,λb o hb=> .inl hb,h1.holds,λr hr b hb=> .inl (xk.2 ⟨r,hr,hb⟩),h1.nodup,h1.apart,Nat.le_refl _⟩;refine (h τ h2 ⟨h3,hl⟩ w h0).mono λex w' ⟨r',σ',H',he,⟨e1,e2,e3⟩,k⟩=> ?_;subst e1 e2 e3;refine ⟨r',σ,_,he,⟨rfl,rfl,rfl⟩,?_⟩;have hb: ∀b,b∈(ε E size enc v l).bl->b<w.heap.size/\b∉fJ H':=λb hb=>by
    refine ⟨hw.block_lt (iU ..) hb,λhx=> ?_⟩;have hnd:=hw.nodup;simp only [fJ,List.flatMap_cons]at hnd;exact (Yz.1 hnd).2.2 b hb hx
  have hframe: ∀i,i<w.heap.size->i∉fJ H'->w'.heap[i]? =w.heap[i]? :=k.frame;refine ⟨k.os,k.tape,k.output,k.size,?_,aj.le.refl _,λb o hs=>k.fit b o (h2 b o hs),λb o hs=> .inl hs,?_,?_,?_,?_,k.drawn⟩
  · intro i hi hn
    refine hframe i hi λhx=>hn ?_;obtain ⟨r2,hr2,hb2⟩:=xk.1 hx;exact xk.2 ⟨r2,rM _ hr2,hb2⟩
  · intro r2 hr2
    rcases List.mem_cons.1 hr2 with rfl|hr2
    · exact (ε E size enc v l).keep w w' (λb hbb=>hframe b (hb b hbb).1 (hb b hbb).2) (hw.holds _ (iU ..))
    exact k.holds r2 hr2
  · intro r2 hr2 b hb2
    exact .inl (xk.2 ⟨r2,hr2,hb2⟩)
  · exact hw.nodup
  intro r2 hr2 b hb2;exact hw.apart r2 hr2 b hb2
def bs(l:List UInt8):ByteArray:=⟨l.toArray⟩
theorem nq_(l:List UInt8):(bs l).size=l.length:=rfl
theorem l8_(l:List UInt8):(bs l).data.toList=l:=rfl
theorem bs_of(s:ByteArray):s=bs s.data.toList:=by cases s;rfl
theorem bs_inj{l m:List UInt8}(h:bs l=bs m):l=m:=by have:=congrArg (λs:ByteArray=>s.data.toList) h;simpa [bs]using this
def bF(l:List UInt8):List Value:=[.string (bs l)]
theorem eu(x:List UInt8):(bF x).length=1:=rfl
theorem eSo_: ∀x, ∀u∈bF x,u.oneCell'=true:=λx u hu=>by simp [bF]at hu;subst hu;rfl
section
variable {P:Program} {n:Nat} {e:Env} {σ:aj} {H:List Res} {o:Oper} {x y z:Operand} {l m:List UInt8}
theorem OpVal.xq{t:TypeId}(ho:o.op= .call {callee:= .builtin .len,args:= #[x],argTypes:= #[t]})(ht:P.underlying t=some .string)(hx:ev e x= .string (bs l)):
    OpVal P n o e σ H (.int .i64 (l.length:Nat)):=OpVal.lenStr ho ht hx
theorem OpVal.bz_{T:Nat}{k:IntKind}{i:Nat}(ho:o.op= .index T x y)(ht:P.underlying T=some .string)(hx:ev e x= .string (bs l))(hy:ev e y= .int k (i:Nat))(h:i<l.length):
    OpVal P n o e σ H (.int .u8 ((nth l i (0:UInt8)).toNat:Nat)):=OpVal.c0_ ho ht hx hy (by rw [l8_];exact getD_some l h _)
theorem ql_(l:List UInt8)(i j:Nat):(bs l).extract i j=bs ((l.take j).drop i):=by
  apply ByteArray.ext;rw [ByteArray.data_extract];apply Array.ext';simp [bs,List.extract_eq_take_drop,List.drop_take]
theorem OpVal.de_{t:TypeId}{j:Nat}{k':IntKind}(ho:o.op= .slice t x none (some z) none)(ht:P.underlying t=some .string)(hx:ev e x= .string (bs l))(hz:ev e z= .int k' (j:Nat))
    (_h1:0<=j) (h2:j<=l.length):OpVal P n o e σ H (.string (bs (l.take j))):=λw _=>by
  have h:=run_slice_string_to_if (P:=P) w t (bs l) k' j ht;rw [if_pos ⟨by omega,by rw [nq_];omega⟩,nI,ql_,List.drop_zero]at h;simp [execOp,ho,hx,hz,Instr.sliceAt,run_underlying ht,h]
theorem OpVal.b5_{t:TypeId}{i:Nat}{k:IntKind}(ho:o.op= .slice t x (some y) none none)(ht:P.underlying t=some .string)(hx:ev e x= .string (bs l))(hy:ev e y= .int k (i:Nat))
    (h1:i<=l.length) (_h2:l.length<=l.length):OpVal P n o e σ H (.string (bs (l.drop i))):=λw _=>by
  have h:=run_slice_string_from_if (P:=P) w t (bs l) k i ht;rw [if_pos ⟨by omega,by rw [nq_];omega⟩,nI,ql_,nq_,List.take_length]at h;simp [execOp,ho,hx,hy,Instr.sliceAt,run_underlying ht,h]
theorem gm_(op:BinOp)(t:TypeId)(x y:Operand)(a b:ByteArray)(w:World):(eqGuard op t x y (.string a) (.string b)).run P w= .ok () w:=by
  cases op<;>simp [eqGuard]
theorem mz_(op:BinOp)(t:TypeId)(x y:Operand)(a b:Bool)(w:World):(eqGuard op t x y (.bool a) (.bool b)).run P w= .ok () w:=by
  cases op<;>simp [eqGuard]
theorem OpVal.cs_{T T':TypeId}(ho:o.op= .binOp .add T x y T')(hx:ev e x= .string (bs l))(hy:ev e y= .string (bs m))(h:l.length+m.length<=9223372036854775807):OpVal P n o e σ H (.string (bs (l++m))):=λw _=>by
  have h1:=run_string_add_sum (P:=P) w (bs l) (bs m) (by rw [nq_,nq_];omega);have h2:bs l++bs m=bs (l++m):=ByteArray.mk_append_mk l m;rw [h2]at h1;simp only [execOp,ho,hx,hy,Sem.run_bind,gm_,Result.andThen_ok,binOp,h1,Sem.run_pure]
theorem yr_(l m:List UInt8):((bs l).toList == (bs m).toList)=decide (l=m):=by
  rw [ByteArray.toList_eq,ByteArray.toList_eq,l8_,l8_,Bool.eq_iff_iff,decide_eq_true_iff,beq_iff_eq]
theorem OpVal.d6_{T T':TypeId}(ho:o.op= .binOp .eql T x y T')(hx:ev e x= .string (bs l))(hy:ev e y= .string (bs m)):OpVal P n o e σ H (.bool (decide (l=m))):=λw _=>by
  simp only [execOp,ho,hx,hy,Sem.run_bind,gm_,Result.andThen_ok,binOp,Op.stringOp,yr_,Sem.run_pure]
theorem OpVal.c6_{T T':TypeId}(ho:o.op= .binOp .neq T x y T')(hx:ev e x= .string (bs l))(hy:ev e y= .string (bs m)):OpVal P n o e σ H (.bool (decide (l≠m))):=λw _=>by
  simp only [execOp,ho,hx,hy,Sem.run_bind,gm_,Result.andThen_ok,binOp,Op.stringOp,yr_,Sem.run_pure,decide_not]
def jd(a:Int):UInt8:=UInt8.ofNat (IntKind.u8.wrap a).toNat
theorem Yw(a:Int):IntKind.u8.wrap a=a % 256:=by simp [IntKind.wrap,IntKind.bits,IntKind.signed]
theorem Yy(a:Int):((jd a).toNat:Int)=IntKind.u8.wrap a:=by
  have h1:IntKind.u8.wrap a=a % 256:=Yw a;unfold jd;rw [UInt8.toNat_ofNat',h1];omega
theorem OpVal.EN{S T:TypeId}{k:IntKind}{a:Int}{d:TypeDesc}(ho:o.op= .convert S T x)(hs:P.underlying S=some d)(ht:P.underlying T=some (.int .u8))(hx:ev e x= .int k a):OpVal P n o e σ H (.int .u8 ((jd a).toNat:Nat)):=by
  rw [Yy];exact OpVal.bx_ ho hs ht hx
theorem v8_{T:TypeId}(hT:P.underlying T=some .bool)(d:Nat)(a b:Bool)(w:World):(Op.equalIn (d+1) T (.bool a) (.bool b)).run P w= .ok (a == b) w:=by
  simp [Op.equalIn,run_underlying hT]
theorem OpVal.neqB{T T':TypeId}{a b:Bool}(ho:o.op= .binOp .neq T x y T')(hx:ev e x= .bool a)(hy:ev e y= .bool b)(hT:P.underlying T=some .bool):OpVal P n o e σ H (.bool (a != b)):=λw _=>by
  simp only [execOp,ho,hx,hy,Sem.run_bind,mz_,Result.andThen_ok];rw [mp_ (by simp) (r:=a == b) (v8_ hT 9999 a b w) rfl];rfl
theorem OpVal.eqlSet{T T' E:TypeId}{s t:BSet}(ho:o.op= .binOp .eql T x y T')(hT:P.underlying T=some (.array 4 E))(hE:P.underlying E=some (.int .u64))(hA:aggOf P E=some false)(hz:szOf P E=some 1)(hg:P.eqGuardType P.depth T=false)
    (hx:ev e x= .agg (setA s)) (hy:ev e y= .agg (setA t)):OpVal P n o e σ H (.bool (decide (s=t))):=by
  have:=OpVal.da_ (P:=P) (n:=n) (σ:=σ) (H:=H) ho hT hE hA hz hg hx hy rfl rfl;have h:decide (((s.a:Nat):Int)=(t.a:Nat)/\((s.b:Nat):Int)=(t.b:Nat)/\((s.c:Nat):Int)=(t.c:Nat)/\((s.d:Nat):Int)=(t.d:Nat))=decide (s=t):=by rw [decide_eq_decide];exact (BSet.eq_iff s t).symm
  rwa [h]at this
end
theorem OpOk.CV{X:Ctx}{e:Env}{σ:aj}{H:List Res}{o:Oper}{x y:Operand}{K:Env->aj->List Res->Prop}{α:Type}{T E size jY d m:Nat}{enc:α->List Value}{kl kc:IntKind}{z:Value}(x0:α)(ho:o.op= .makeSlice T x y)(ht:X.P.underlying T=some (.slice E))(hs:szOf X.P E=some size)(hby:byOf X.P E=some jY)(hz:zeroOf X.P E=some z)
    (hd:o.dst=some d) (hn:Nat.blt d X.n=true) (hx:ev e x= .int kl (m:Nat)) (hy:ev e y= .int kc (m:Nat)) (hb:jY * m<=281474976710656) (lW:0<jY) (hl: ∀x,(enc x).length=size) (h0:0<size)
    (hz0:z.cells.toList=enc x0) (h1: ∀x, ∀u∈enc x,u.oneCell'=true) (k: ∀a c,K (upd e d (.slice a (List.replicate m x0).length c)) σ (ε E size enc (.slice a (List.replicate m x0).length c) (List.replicate m x0)::H)):OpOk X o e σ H K:=
  OpOk.makeS x0 ho ht hs hby hz hd hn hx hy hb lW hl h0 hz0 h1 λa c=>by have:=k a c;simp only [oI]at this;exact this
structure KeyLaw {α:Type} [BEq α] (P:Program) (K:TypeId) (enc:α->Value):Prop where
  check: ∀x c w,(Instr.checkKey c 10000 K (enc x)).run P w= .ok () w
  find: ∀x (l:List α) (es:List MapEntry) w,es.map (·.key)=l.map enc-> ∃r,(Instr.findKey K (enc x) es).run P w= .ok r w/\
    (l.contains x=false->r=none)/\(l.contains x=true-> ∃i m,r=some (i,m.val)/\es[i]? =some m/\m.key=enc x)
  stays: ∀x w,(Instr.keyThatStays (enc x) (enc x)).run P w= .ok (enc x) w
def gX(x:Int):Value:= .int .i64 x
theorem m3_{P:Program}{K:TypeId}(hK:P.underlying K=some (.int .i64))(d:Nat)(x:Int)(c:Bool)(w:World):(Instr.checkKey c (d+1) K (gX x)).run P w= .ok () w:=by
  simp [Instr.checkKey,run_underlying hK,gX]
section
variable {X:Ctx} {e:Env} {σ:aj} {H F:List Res} {o:Oper} {x y z:Operand} {K:Env->aj->List Res->Prop} {α:Type}
theorem go_{P:Program}{w:World}{r:Nat}{es:Array MapEntry}{clock:Nat}(h:w.heap[r]? =some (.map es clock)):(getObj r).run P w= .ok (.map es clock) w:=by simp [getObj,Sem.run,h]
theorem g7_{P:Program}{w:World}{r:Nat}{es:Array MapEntry}{clock:Nat}(o:Obj)(h:w.heap[r]? =some (.map es clock)):(setObj r o).run P w= .ok () {w with heap:=w.heap.setIfInBounds r o}:=by simp [setObj,Sem.run,h]
end
end Go.E
end

noncomputable section
namespace Go.E
open Go
structure Pk (α:Type) where
  P:Type
  d:α
  dp:P
  size:Nat
  enc:α->P->List Value
  ok:aj->α->P->Prop
  len: ∀x p,(enc x p).length=size
  one: ∀x p, ∀u∈enc x p,u.oneCell'=true
  mono: ∀{σ τ x p},aj.le σ τ->ok σ x p->ok τ x p
  zok: ∀σ,ok σ d dp
section
variable {α:Type}
def Pk.en(K:Pk α)(m:α×K.P):List Value:=K.enc m.1 m.2
theorem Pk.bs_(K:Pk α)(m:α×K.P):(K.en m).length=K.size:=K.len _ _
theorem Pk.en_one(K:Pk α): ∀m, ∀u∈K.en m,u.oneCell'=true:=λm=>K.one _ _
structure ZOk (σ:aj) (K:Pk α) (z:List (α×K.P)) (l:List α):Prop where
  eq:z.map Prod.fst=l
  ok: ∀m∈z,K.ok σ m.1 m.2
theorem ZOk.mono{σ τ:aj}{K:Pk α}{z:List (α×K.P)}{l:List α}(h:ZOk σ K z l)(hle:σ.le τ):ZOk τ K z l:=⟨h.eq,λm hm=>K.mono hle (h.ok m hm)⟩
theorem ZOk.nil(σ:aj)(K:Pk α):ZOk σ K [] []:=⟨rfl,by simp⟩
theorem ZOk.cons{σ:aj}{K:Pk α}{x:α}{p:K.P}{z:List (α×K.P)}{l:List α}(h:K.ok σ x p)(k:ZOk σ K z l):ZOk σ K ((x,p)::z) (x::l):=⟨by simp [k.eq],λm hm=>by
  rcases List.mem_cons.1 hm with rfl|hm
  · exact h
  exact k.ok m hm⟩
theorem ZOk.app{σ:aj}{K:Pk α}{z y:List (α×K.P)}{l m:List α}(h:ZOk σ K z l)(k:ZOk σ K y m):ZOk σ K (z++y) (l++m):=⟨by rw [List.map_append,h.eq,k.eq],λu hu=>by
  rcases List.mem_append.1 hu with hu|hu
  · exact h.ok u hu
  exact k.ok u hu⟩
theorem ZOk.set{σ:aj}{K:Pk α}{z:List (α×K.P)}{l:List α}{i:Nat}{x:α}{p:K.P}(h:ZOk σ K z l)(k:K.ok σ x p):ZOk σ K (z.set i (x,p)) (l.set i x):=⟨by rw [List.map_set,h.eq],λu hu=>by
  rcases List.mem_or_eq_of_mem_set hu with hu|rfl
  · exact h.ok u hu
  exact k⟩
theorem ZOk.length{σ:aj}{K:Pk α}{z:List (α×K.P)}{l:List α}(h:ZOk σ K z l):z.length=l.length:=by rw [<-h.eq,List.length_map]
theorem ZOk.at{σ:aj}{K:Pk α}{z:List (α×K.P)}{l:List α}(h:ZOk σ K z l){i:Nat}(hi:i<l.length):nth z i (K.d,K.dp)=(nth l i K.d,(nth z i (K.d,K.dp)).2)/\K.ok σ (nth l i K.d) (nth z i (K.d,K.dp)).2:=by
  have hz:i<z.length:=by rw [h.length];exact hi
  have h1:=getD_some z hz (K.d,K.dp);have h2:(nth z i (K.d,K.dp)).1=nth l i K.d:=by
    have h3:=getD_some l hi K.d;rw [<-h.eq,List.getElem?_map,h1]at h3;simp only [Option.map_some,Option.some.injEq]at h3;rw [h3,h.eq]
  refine ⟨by rw [<-h2],?_⟩;rw [<-h2];exact h.ok _ (List.mem_of_getElem? h1)
def RZ(σ:aj)(K:Pk α)(v:Value)(l:List α):Prop:= ∃z:List (α×K.P),ZOk σ K z l/\RS σ K.size K.en v z
theorem RZ.mono{σ τ:aj}{K:Pk α}{v:Value}{l:List α}(h:RZ σ K v l)(hle:σ.le τ):RZ τ K v l:=let ⟨z,h1,h2⟩:=h;⟨z,h1.mono hle,h2.mono hle⟩
theorem RZ.nilF(σ:aj)(K:Pk α):RZ σ K (.slice none 0 0) []:=⟨[],ZOk.nil σ K,RS.nilF σ K.en K.bs_⟩
theorem RZ.isSl{σ:aj}{K:Pk α}{v:Value}{l:List α}(h:RZ σ K v l):uo v l.length:=by
  obtain ⟨z,h1,h2⟩:=h;rw [<-h1.length];exact h2.rv.sl
theorem RZ.big{σ:aj}{K:Pk α}{v:Value}{l:List α}(h:RZ σ K v l):l.length<=281474976710656:=by
  obtain ⟨z,h1,h2⟩:=h;rw [<-h1.length];exact h2.rv.big
def Seg(σ:aj)(v:Value)(k:Nat)(cs:List Value):Prop:= ∃a m c,v= .slice (some a) m c/\ ∀j u,cs[j]? =some u->σ.cell (a.add (k+j))=some u
theorem Seg.mono{σ τ:aj}{v:Value}{k:Nat}{cs:List Value}(h:Seg σ v k cs)(hle:σ.le τ):Seg τ v k cs:=let ⟨a,m,c,h1,h2⟩:=h;⟨a,m,c,h1,λj u hj=>hle.cell (h2 j u hj)⟩
theorem RZ.seg{σ:aj}{K:Pk α}{v:Value}{l:List α}(h:RZ σ K v l)(i:Nat)(hi:i<l.length): ∃p:K.P,K.ok σ (nth l i K.d) p/\Seg σ v (i * K.size) (K.enc (nth l i K.d) p):=by
  obtain ⟨z,h1,h2⟩:=h;obtain ⟨e,hok⟩:=h1.at hi;refine ⟨_,hok,?_⟩;have hz:i<z.length:=by rw [h1.length];exact hi
  obtain ⟨a,c,rfl,_⟩:=h2.rv.sl.some hz;refine ⟨a,_,c,rfl,λj u hj=> ?_⟩;have hj2:j<K.size:=by have:=(List.getElem?_eq_some_iff.1 hj).1;rwa [K.len]at this
  refine h2.rv.cell a _ c rfl _ u ?_;rw [ZG K.bs_ z i j _ (getD_some z hz (K.d,K.dp)) hj2,Pk.en,e];exact hj
end
section
variable {P:Program} {n:Nat} {e:Env} {σ:aj} {H:List Res} {o:Oper} {x y:Operand} {α:Type}
theorem OpVal.d5_{T k j:Nat}{v u:Value}{cs:List Value}(ho:o.op= .load T x)(hA:aggOf P T=some false)(hx:ev e x=lF v (k+j))(hS:Seg σ v k cs)(hu:cs[j]? =some u):OpVal P n o e σ H u:=λw hw=>by
  obtain ⟨a,m,c,rfl,h⟩:=hS;have hc:=hw.cell (h j u hu);simp [execOp,ho,hx,Instr.loadAt,Instr.sureAddr,lF,f7_ hA hc]
theorem OpVal.qw{T k:Nat}{v u:Value}{cs:List Value}(ho:o.op= .load T x)(hA:aggOf P T=some false)(hx:ev e x=lF v k)(hS:Seg σ v k cs)(hu:cs[0]? =some u):OpVal P n o e σ H u:=
  OpVal.d5_ (j:=0) ho hA hx hS hu
theorem OpVal.cz_{T E i q:Nat}{K:Pk α}{v u:Value}{z:List (α×K.P)}{l:List α}(hZ:ZOk σ K z l)(ho:o.op= .load T x)(hA:aggOf P T=some false)(hx:ev e x=lF v (i * K.size))(hq:H[q]? =some (ε E K.size K.en v z))(hi:i<l.length)
    (hu:(K.enc (nth l i K.d) (nth z i (K.d,K.dp)).2)[0]? =some u):OpVal P n o e σ H u:=by
  have hz:i<z.length:=by rw [hZ.length];exact hi
  obtain ⟨e1,_⟩:=hZ.at hi;have h0:0<K.size:=by have:=(List.getElem?_eq_some_iff.1 hu).1;rwa [K.len]at this
  refine OpVal.ZJ (j:=0) (K.d,K.dp) ho hA hx hq K.bs_ hz h0 ?_;rw [Pk.en,e1];exact hu
end
def aF{α:Type}(size:Nat)(enc:α->List Value)(hl: ∀x,(enc x).length=size):Pk (List α) where
  P:=Option Addr×Nat
  d:=[]
  dp:=(none,0)
  size:=1
  enc l p:=[.slice p.1 l.length p.2]
  ok σ l p:=RS σ size enc (.slice p.1 l.length p.2) l
  len _ _:=rfl
  one _ _ u hu:=by simp at hu;subst hu;rfl
  mono hle h:=h.mono hle
  zok σ:=RS.nilF σ enc hl
section
variable {X:Ctx} {e:Env} {σ:aj} {H F:List Res} {o:Oper} {x y:Operand} {K:Env->aj->List Res->Prop} {α:Type}
theorem TC.Ji{Q:QP}{c:Code}{E:Nat}{k:Pk α}{v:Value}{z:List (α×k.P)}{l:List α}(hZ:ZOk σ k z l)(h: ∀σ',σ.le σ'->RZ σ' k v l->TC X Q c e σ' F):TC X Q c e σ (ε E k.size k.en v z::F):=
  TC.jO k.bs_ λσ' h1 h2=>h σ' h1 ⟨z,hZ.mono h1,h2⟩
theorem TL.Ji{Q:QP}{ops:Array Oper}{ol:List Oper}{E:Nat}{k:Pk α}{v:Value}{z:List (α×k.P)}{l:List α}(hZ:ZOk σ k z l)(h: ∀σ',σ.le σ'->RZ σ' k v l->TL X ops Q ol e σ' F):TL X ops Q ol e σ (ε E k.size k.en v z::F):=
  TL.jO k.bs_ λσ' h1 h2=>h σ' h1 ⟨z,hZ.mono h1,h2⟩
end
end Go.E
namespace Go.E
open Go
section
variable {X:Ctx} {e:Env} {σ:aj} {H F:List Res} {o:Oper} {x y:Operand} {K:Env->aj->List Res->Prop} {α:Type} {k:Pk α} {z w:List (α×k.P)} {l m:List α}
theorem OpOk.Jk{T E jY d:Nat}{zv v u:Value}{ty:TypeId}(hZ:ZOk σ k z l)(hY:ZOk σ k w m)(ho:o.op= .call {callee:= .builtin .append,args:= #[x,y],argTypes:= #[T,ty]})(hty:ty=T)(ht:X.P.underlying T=some (.slice E))(hs:szOf X.P E=some k.size)(hby:byOf X.P E=some jY)(hz:zeroOf X.P E=some zv)
    (hd:o.dst=some d) (hn:Nat.blt d X.n=true) (hsz:0<k.size) (hzs:zv.cells.size=k.size) (hx:ev e x=v) (hy:ev e y=u) (hsrc:rq_ σ F k.size k.en u w) (hb0:(l.length+m.length) * jY<=140737488355328) (lW:0<jY)
    (kk: ∀a c,ZOk σ k (z++w) (l++m)->K (upd e d (.slice a (l++m).length c)) σ (ε E k.size k.en (.slice a (l++m).length c) (z++w)::F)):OpOk X o e σ (ε E k.size k.en v z::F) K:=by
  have hA:=hZ.app hY;refine OpOk.bp_ ho hty ht hs hby hz hd hn hsz hzs hx hy hsrc (by rw [hZ.length,hY.length];exact hb0) lW λa c=> ?_;have:=kk a c hA;rw [<-hA.length]at this;exact this
theorem OpOk.litZ{T E size d q:Nat}{parts:Array (Nat×Operand)}{zv:Value}(hZ:ZOk σ k z l)(ho:o.op= .buildSlice T q parts)(ht:X.P.underlying T=some (.slice E))(hs:szOf X.P E=some size)(hk:k.size=size)(hz:zeroOf X.P E=some zv)
    (hd:o.dst=some d) (hn:Nat.blt d X.n=true) (hm:z.length=q) (h0:q * size≠0) (hbig:q * size<=16777216)
    (hx0:zv.cells.toList=k.en (k.d,k.dp)) (h00:0<size)
    (hf:Lh (λi=>some (i * size,size)) ((List.replicate q (k.d,k.dp)).flatMap k.en) (parts.toList.map λx=>(x.1,ev e x.2))=some (z.flatMap k.en)) (hmax:q<=281474976710656)
    (kk: ∀a c,K (upd e d (.slice a l.length c)) σ (ε E k.size k.en (.slice a l.length c) z::H)):OpOk X o e σ H K:=by
  subst hk;refine OpOk.lit (enc:=k.en) z ho ht hs hz hd hn hm k.bs_ h0 hbig (k.d,k.dp) hx0 h00 hf hmax k.en_one λa c=> ?_;have:=kk a c;rw [<-hZ.length]at this;exact this
end
theorem ZOk.isSl{α:Type}{σ:aj}{k:Pk α}{z:List (α×k.P)}{l:List α}{v:Value}(h:ZOk σ k z l)(hs:uo v z.length):uo v l.length:=h.length▸hs
end Go.E
end

noncomputable section
namespace Go.E
open Go
section
variable {P:Program} {n:Nat} {e:Env} {σ:aj} {H:List Res} {o:Oper} {x y z:Operand} {α:Type}
theorem OpVal.capC{t E m c:Nat}{a:Option Addr}(ho:o.op= .call {callee:= .builtin .cap,args:= #[x],argTypes:= #[t]})(ht:P.underlying t=some (.slice E))(hx:ev e x= .slice a m c):
    OpVal P n o e σ H (.int .i64 (c:Nat)):=λw _=>by
  simp [execOp,ho,resolve,invoke,builtin,hx,Builtin.cap_,run_underlying ht,goInt]
theorem OpVal.dh_{t E s:TypeId}{k:IntKind}(ho:o.op= .slice t x none (some z) none)(ht:P.underlying t=some (.slice E))(hs:szOf P E=some s)(hx:ev e x= .slice none 0 0)(hz:ev e z= .int k 0):OpVal P n o e σ H (.slice none 0 0):=λw _=>by
  simp [execOp,ho,hx,hz,Instr.sliceAt,Instr.slice,Instr.sliceBounds,Instr.sliceBound,asIntOf,run_underlying ht,xX hs]
end
section
variable {X:Ctx} {e:Env} {σ:aj} {H F:List Res} {o:Oper} {x y z:Operand} {K:Env->aj->List Res->Prop} {α:Type}
theorem OpOk.ct_{T I E size jY d m:Nat}{enc:α->List Value}{kn:IntKind}{zv:Value}(x0:α)(ho:o.op= .call {callee:= .builtin .append,args:= #[x,y],argTypes:= #[T,I]})(ht:X.P.underlying T=some (.slice E))(hI:X.P.underlying I=some (.int kn))(hs:szOf X.P E=some size)(hby:byOf X.P E=some jY)(hz:zeroOf X.P E=some zv)
    (hd:o.dst=some d) (hn:Nat.blt d X.n=true) (hx:ev e x= .slice none 0 0) {kq:IntKind} (hy:ev e y= .int kq (m:Nat)) (hm:0<m/\m * jY<=140737488355328) (lW:0<jY) (hl: ∀x,(enc x).length=size) (h0:0<size)
    (hz0:zv.cells.toList=enc x0) (h1: ∀x, ∀u∈enc x,u.oneCell'=true) (k: ∀a c,K (upd e d (.slice a (List.replicate m x0).length c)) σ (ε E size enc (.slice a (List.replicate m x0).length c) (List.replicate m x0)::H)):OpOk X o e σ H K:=by
  obtain ⟨i,hi,hsz⟩:=PY hs;have hiz:i.zero=some zv:=by simpa [zeroOf,hi]using hz
  have hib:i.bytes=jY:=by simpa [byOf,hi]using hby
  have hm0:m<=140737488355328:=Nat.le_trans (Nat.le_mul_of_pos_right m lW) hm.2;intro u0 C0 τ0 w a hw ha K' Q hK;have hrun:=Lib.run_append_grow_zeros (P:=X.P) w T I o.type E i zv kq kn ht hI hi hiz none 0 0 [] (by rw [hsz];exact run_firstCells_none w.drew size 0 0 0) m hm.1 (by omega) (by omega) (by omega) (by rw [hib];omega) (by rw [Nat.zero_add,nextslicecap_zero hm.1,hib];omega);generalize hcap:grownCap w (0+m) 0 E=cap at hrun;have hge:0+m<=cap:=hcap▸grownCap_ge w (0+m) 0 E;rw [Nat.zero_add]at hrun hge;have hcs:(Builtin.zeroCells zv.cells m).toList=(List.replicate m x0).flatMap enc:=by
    have:=hq_ zv x0 hz0 m (by rw [hl];exact h0);rw [hl]at this;rw [<-this];have hzs:zv.cells.size=size:=by rw [<-Array.length_toList,hz0,hl]
    simp [Builtin.zeroCells,madeCells,hzs]
  have hzn: ∀q,(Builtin.zeroCells zv.cells q).size=q * size:=λq=>by
    have hzs:zv.cells.size=size:=by rw [<-Array.length_toList,hz0,hl]
    simp [Builtin.zeroCells,hzs]
  have hown:(w.drew.alloc (.cells (#[]++Builtin.zeroCells zv.cells m++Builtin.zeroCells zv.cells (cap - m)) E)).ownsRow 0 E size (.slice (some ⟨w.heap.size,0,none⟩) m cap) m ((List.replicate m x0).flatMap enc):=by
    refine ⟨by rw [uf hl,oI],.inr ⟨w.heap.size,cap,_,rfl,Nat.zero_le _,heap_alloc_new w.drew _,hge,?_,?_,?_⟩⟩
    · rw [<-hcap];exact grownCap_le_maxLen w (0+m) 0 E (by unfold maxLen;omega)
    · rw [Array.size_append,Array.size_append,hzn,hzn,Array.size_empty,Nat.zero_add,<-Nat.add_mul];congr 1;omega
    rw [Array.toList_append,Array.toList_append,Array.toList_empty,List.nil_append,hcs,List.take_append_of_le_length (by rw [uf hl,oI];exact Nat.le_refl _),List.take_of_length_le (by rw [uf hl,oI];exact Nat.le_refl _)]
  have hR:=(hw.drew).OT (some w.heap.size) (r':=ε E size enc (.slice (some ⟨w.heap.size,0,none⟩) m cap) (List.replicate m x0)) (w':=w.drew.alloc (.cells (#[]++Builtin.zeroCells zv.cells m++Builtin.zeroCells zv.cells (cap - m)) E)) rfl rfl rfl rfl (by simp) (Nat.le_refl _) (λk hk=>Ol w.drew _ k hk)
    ⟨by rw [oI];exact hown,λu hu=>by
      rw [List.mem_flatMap]at hu;obtain ⟨q,_,hq⟩:=hu;exact h1 q u hq,by rw [oI];omega⟩ (λb hb=>by cases hb;exact Nat.le_refl _)
  have hk:=k (some ⟨w.heap.size,0,none⟩) cap;rw [oI]at hk;refine Oper.wG (v:= .slice (some ⟨w.heap.size,0,none⟩) m cap) ?_ (hK _ _ _ _ _ hk hR (xR ha hd hn _));rw [ha.eval'];have e0:(([]:List Value).toArray)= #[]:=rfl;rw [e0]at hrun;simp [execOp,ho,resolve,invoke,builtin,hx,hy,hrun]
theorem k2_{enc:α->List Value}{size:Nat}(hl: ∀x,(enc x).length=size): ∀(l:List α) (i:Nat),(l.take i).flatMap enc=(l.flatMap enc).take (i * size)
  |[],i=>by simp
  |u::l,0=>by simp
  |u::l,i+1=>by
    rw [List.take_succ_cons,List.flatMap_cons,List.flatMap_cons,k2_ hl l i];have h1:(i+1) * size=(enc u).length+i * size:=by rw [hl,Nat.add_mul];omega
    rw [h1,List.take_append,Nat.add_sub_cancel_left,List.take_of_length_le (Nat.le_add_right _ _)]
theorem OpOk.cutS{T E size d i:Nat}{k:IntKind}{enc:α->List Value}{a:Option Addr}{m c:Nat}{l:List α}(ho:o.op= .slice T x none (some z) none)(ht:X.P.underlying T=some (.slice E))(hs:szOf X.P E=some size)(hd:o.dst=some d)(hn:Nat.blt d X.n=true)(hx:ev e x= .slice a m c)(hm:l.length=m)(hz:ev e z= .int k (i:Nat))(hi:i<=l.length)(hl: ∀x,(enc x).length=size)
    (kk:K (upd e d (.slice a (l.take i).length c)) σ (ε E size enc (.slice a (l.take i).length c) (l.take i)::F)):OpOk X o e σ (ε E size enc (.slice a m c) l::F) K:=by
  subst hm;intro u0 C0 τ0 w ac hw ha K' Q hK;obtain ⟨hown,hone,hbg⟩:=hw.holds _ (iU ..);have hli:(l.take i).length=i:=by rw [List.length_take];omega
  rw [hli]at kk;have hflat:(l.take i).flatMap enc=(l.flatMap enc).take (i * size):=k2_ hl l i;have hone': ∀u∈(l.take i).flatMap enc,u.oneCell'=true:=λu hu=>hone u (by rw [hflat]at hu;exact List.mem_of_mem_take hu);have hsl:=isSl_row hown;obtain ⟨a',c',hv,hnone,hcap⟩:=hsl;cases hv;have hsz:=xX (P:=X.P) hs;have hrun:(Instr.slice T (.slice a l.length c) none (some (.int k i)) none).run X.P w= .ok (.slice a i c) w:=by
    cases a with
    |none=>
      obtain ⟨h1,h2⟩:=hnone rfl;have:i=0:=by omega
      subst this;subst h2;simp [Instr.slice,Instr.sliceBounds,Instr.sliceBound,asIntOf,run_underlying ht,hsz]
    |some ad=>
      have h2:(i:Int)<=(c:Int):=by omega
      simp [Instr.slice,Instr.sliceBounds,Instr.sliceBound,asIntOf,run_underlying ht,hsz,Addr.add];intro hlt;omega
  have hown':w.ownsRow 0 E size (.slice a i c) i ((l.take i).flatMap enc):=by
    refine ⟨by rw [uf hl,hli],?_⟩;rcases hown.2 with ⟨h1,h2⟩|⟨g,cap,cur,h1,h2,h3,h4,h5,h6,h7⟩
    · refine .inl ⟨?_,by omega⟩
      simp only [Value.slice.injEq]at h1 ⊢;exact ⟨h1.1,by omega,h1.2.2⟩
    simp only [Value.slice.injEq]at h1;refine .inr ⟨g,cap,cur,?_,h2,h3,by omega,h5,h6,?_⟩
    · simp only [Value.slice.injEq];exact ⟨h1.1,trivial,h1.2.2⟩
    rw [hflat,<-h7,List.take_take,Nat.min_eq_left (Nat.mul_le_mul_right _ hi)]
  have hR:Reach u0 C0 τ0 σ w (ε E size enc (.slice a i c) (l.take i)::F):=
    hw.F7 (Value.ownBlock (.slice a l.length c)) (Value.ownBlock (.slice a i c)) rfl rfl rfl rfl rfl (Nat.le_refl _) (Nat.le_refl _) (λ_ _ _=>rfl) ⟨by rw [hli];exact hown',hone',by rw [hli];omega⟩ (λq hq=> .inl (by cases a<;>exact hq))
  refine Oper.wG (v:= .slice a i c) ?_ (hK _ _ _ _ _ kk hR (xR ha hd hn _));rw [ha.eval'];simp [execOp,ho,hx,hz,Instr.sliceAt,run_underlying ht,hrun]
end
end Go.E
namespace Go.E
open Go
section
variable {α:Type} {σ:aj} {size m c:Nat} {enc:α->List Value} {a:Option Addr} {l:List α}
theorem n5_(hl: ∀x,(enc x).length=size): ∀(l:List α) (i:Nat),(l.drop i).flatMap enc=(l.flatMap enc).drop (i * size)
  |[],i=>by simp
  |u::l,0=>by simp
  |u::l,i+1=>by
    rw [List.drop_succ_cons,List.flatMap_cons,n5_ hl l i];have h1:(i+1) * size=(enc u).length+i * size:=by rw [hl,Nat.add_mul];omega
    rw [h1,List.drop_append,Nat.add_sub_cancel_left,List.drop_of_length_le (Nat.le_add_right _ _),List.nil_append]
theorem RS.subL(h:RS σ size enc (.slice a m c) l)(i:Nat)(hi:i<=l.length): ∃(a':Option Addr) (c':Nat),RS σ size enc (.slice a' (l.drop i).length c') (l.drop i)/\
    ∀{P:Program} {n:Nat} {e:Env} {H:List Res} {o:Oper} {x z:Operand} {T E:TypeId} {k:IntKind} (_:o.op= .slice T x (some z) none none) (_:P.underlying T=some (.slice E)) (_:szOf P E=some size) (_:ev e x= .slice a m c) (_:ev e z= .int k (i:Nat)),OpVal P n o e σ H (.slice a' (l.drop i).length c'):=by
  have hlj:(l.drop i).length=l.length - i:=by rw [List.length_drop]
  obtain ⟨a1,c1,hv,hn,hc⟩:=h.rv.sl;cases hv;rw [hlj];refine ⟨if c - i=0/\False then a else (if c=i then a else a.map (·.add (i * size))),c - i,⟨⟨⟨_,_,by rw [hlj],λha=> ?_,by omega⟩,by rw [uf h.len],?_,λu hu=>h.rv.one u (by rw [n5_ h.len]at hu;exact List.mem_of_mem_drop hu),by have:=h.rv.big;omega⟩,h.len⟩,?_⟩
  · simp only [and_false,if_false]at ha
    split at ha
    · obtain ⟨h1,h2⟩:=hn ha;omega
    cases a with
    |none=>obtain ⟨h1,h2⟩:=hn rfl;omega
    |some ad=>simp at ha
  · intro ad m' c' hv j u hj
    simp only [and_false,if_false]at hv;rw [n5_ h.len,List.getElem?_drop]at hj;have hjl:=(List.getElem?_eq_some_iff.1 hj).1;rw [uf h.len]at hjl;have hil:i<l.length:=by
      rcases Nat.lt_or_ge i l.length with h1|h1
      · exact h1
      have:=Nat.mul_le_mul_right size h1;omega
    have hci: ¬ c=i:=by omega
    rw [if_neg hci]at hv;cases a with
    |none=>simp at hv
    |some a0=>
      simp only [Option.map_some,Value.slice.injEq,Option.some.injEq]at hv;obtain ⟨rfl,_⟩:=hv;rw [Yv];exact h.rv.cell a0 _ c rfl _ u hj
  intro P n e H o x z T E k ho hT hs hx hz w _;have hsz:=xX (P:=P) hs;have hrun:(Instr.slice T (.slice a l.length c) (some (.int k i)) none none).run P w= .ok (.slice (if c=i then a else a.map (·.add (i * size))) (l.length - i) (c - i)) w:=by
    simp [Instr.slice,Instr.sliceBounds,Instr.sliceBound,asIntOf,run_underlying hT,hsz];intro hlt;omega
  simp [execOp,ho,hx,hz,Instr.sliceAt,run_underlying hT,hrun]
end
end Go.E
end

noncomputable section
namespace Go.E
open Go
section
variable {X:Ctx} {ops:Array Oper} {Q:QP} {e:Env} {σ σr:aj} {H H' Hr F:List Res} {late:List Nat} {fuel:Nat} {listed:Array Bool} {c:Code} {l:List Oper}
theorem TC.by(h: ∀{u0 C0 τ0} w,Reach u0 C0 τ0 σ w H->Reach u0 C0 τ0 σ w H')(k:TC X Q c e σ H'):TC X Q c e σ H:=λw a hw ha=>k w a (hw.by h) ha
theorem TL.by(h: ∀{u0 C0 τ0} w,Reach u0 C0 τ0 σ w H->Reach u0 C0 τ0 σ w H')(k:TL X ops Q l e σ H'):TL X ops Q l e σ H:=λw a hw ha=>k w a (hw.by h) ha
theorem TA.by(h: ∀{u0 C0 τ0} w,Reach u0 C0 τ0 σ w H->Reach u0 C0 τ0 σ w H')(k:TA X ops Q σr Hr late fuel listed e σ H'):TA X ops Q σr Hr late fuel listed e σ H:=λhnd w a hw hS hc ha=>k hnd w a (hw.by h) hS hc ha
theorem TZ.by(h: ∀{u0 C0 τ0} w,Reach u0 C0 τ0 σ w H->Reach u0 C0 τ0 σ w H')(k:TZ X ops Q σr Hr late fuel listed e σ H'):TZ X ops Q σr Hr late fuel listed e σ H:=λhnd w a hw ha=>k hnd w a (hw.by h) ha
theorem TC.know{p:Prop}(h: ∀w,kH σ H w->p)(k:p->TC X Q c e σ H):TC X Q c e σ H:=λw a hw ha=>k (h w hw.sees) w a hw ha
theorem TL.know{p:Prop}(h: ∀w,kH σ H w->p)(k:p->TL X ops Q l e σ H):TL X ops Q l e σ H:=λw a hw ha=>k (h w hw.sees) w a hw ha
theorem TA.know{p:Prop}(h: ∀w,kH σ H w->p)(k:p->TA X ops Q σr Hr late fuel listed e σ H):TA X ops Q σr Hr late fuel listed e σ H:=λhnd w a hw hS hc ha=>k (h w hw.sees) hnd w a hw hS hc ha
theorem TC.cv_{p:aj->Prop}(h: ∀{u0 C0 τ0} w,Reach u0 C0 τ0 σ w H-> ∃σ',Reach u0 C0 τ0 σ' w H'/\σ.le σ'/\p σ')(k: ∀σ',σ.le σ'->p σ'->TC X Q c e σ' H'):TC X Q c e σ H:=λw a hw ha=>by
  obtain ⟨σ',h1,h2,h3⟩:=h w hw.self;exact k σ' h2 h3 w a (hw.step h1 rfl) ha
theorem TL.cv_{p:aj->Prop}(h: ∀{u0 C0 τ0} w,Reach u0 C0 τ0 σ w H-> ∃σ',Reach u0 C0 τ0 σ' w H'/\σ.le σ'/\p σ')(k: ∀σ',σ.le σ'->p σ'->TL X ops Q l e σ' H'):TL X ops Q l e σ H:=λw a hw ha=>by
  obtain ⟨σ',h1,h2,h3⟩:=h w hw.self;exact k σ' h2 h3 w a (hw.step h1 rfl) ha
theorem OpOk.by{o:Oper}{K:Env->aj->List Res->Prop}(h: ∀{u0 C0 τ0} w,Reach u0 C0 τ0 σ w H->Reach u0 C0 τ0 σ w H')(k:OpOk X o e σ H' K):OpOk X o e σ H K:=λu0 C0 τ0 w a hw ha=>k u0 C0 τ0 w a (h w hw) ha
theorem OpOk.then{o:Oper}{K K':Env->aj->List Res->Prop}(k:OpOk X o e σ H K')(h: ∀e' σ' G,K' e' σ' G-> ∃G',(∀{u0 C0 τ0} w,Reach u0 C0 τ0 σ' w G->Reach u0 C0 τ0 σ' w G')/\K e' σ' G'):OpOk X o e σ H K:=λu0 C0 τ0 w a hw ha K2 Q2 hK=>
  k u0 C0 τ0 w a hw ha K2 Q2 λe' σ' G a' w' hk hw' ha'=>by
    obtain ⟨G',h1,h2⟩:=h e' σ' G hk;exact hK e' σ' G' a' w' h2 (h1 w' hw') ha'
end
theorem OpVal.seen{P:Program}{n:Nat}{o:Oper}{e:Env}{σ:aj}{H G:List Res}{v:Value}(h: ∀w,kH σ H w->kH σ G w)(k:OpVal P n o e σ G v):OpVal P n o e σ H v:=λw hw=>k w (h w hw)
section
variable {β:Type} {E' E size:Nat} {enc:β->List Value} {v:Value}
abbrev NP(β:Type):=List β×(Option Addr×Nat)
def Dc(m:NP β):List Value:=[.slice m.2.1 m.1.length m.2.2]
theorem ng_(m:NP β):(Dc m).length=1:=rfl
theorem vd_: ∀m:NP β, ∀u∈Dc m,u.oneCell'=true:=λm u hu=>by simp [Dc]at hu;subst hu;rfl
def UK(E size:Nat)(enc:β->List Value)(m:NP β):Res:=ε E size enc (.slice m.2.1 m.1.length m.2.2) m.1
def Aa(E size:Nat)(enc:β->List Value)(z:List (NP β)):List Res:=z.map (UK E size enc)
def Res.nest(E' E size:Nat)(enc:β->List Value)(v:Value)(z:List (NP β)):Res:=Res.star (ε E' 1 Dc v z::Aa E size enc z)
def Res.dl_(E' E size:Nat)(enc:β->List Value)(v:Value)(z:List (NP β))(i:Nat):Res:=Res.star (ε E' 1 Dc v z::(Aa E size enc z).eraseIdx i)
def qo:NP β:=([],(none,0))
def Zn(z:List (NP β))(l:List (List β)):Prop:=z.map Prod.fst=l
theorem Zn.len{z:List (NP β)}{l:List (List β)}(h:Zn z l):z.length=l.length:=by rw [<-h,List.length_map]
theorem Zn.at{z:List (NP β)}{l:List (List β)}(h:Zn z l){i:Nat}(hi:i<l.length): ∃p:Option Addr×Nat,i<z.length/\nth z i qo=(nth l i [],p):=by
  have hz:i<z.length:=by rw [h.len];exact hi
  refine ⟨(nth z i qo).2,hz,?_⟩;have h1:=getD_some z hz qo;have h3:=getD_some l hi [];rw [<-h,List.getElem?_map,h1]at h3;simp only [Option.map_some,Option.some.injEq]at h3;rw [<-h,<-h3]
theorem Zn.set{z:List (NP β)}{l:List (List β)}(h:Zn z l)(i:Nat)(x:List β)(p:Option Addr×Nat):Zn (z.set i (x,p)) (l.set i x):=by
  unfold Zn at *;rw [List.map_set,h]
theorem Zn.rep(n:Nat):Zn (List.replicate n (qo:NP β)) (List.replicate n []):=by simp [Zn,qo]
theorem rx_{z:List (NP β)}{i:Nat}{m:NP β}(hi:i<z.length)(hm:nth z i qo=m):(Aa E size enc z)[i]? =some (UK E size enc m):=by
  rw [Aa,List.getElem?_map,getD_some z hi qo,hm];rfl
theorem r7_{σ:aj}{H:List Res}{q:Nat}{z:List (NP β)}(hq:H[q]? =some (Res.nest E' E size enc v z))(w:World)(h:kH σ H w):kH σ [ε E' 1 Dc v z] w:=
  ⟨h.1,λr hr=>by
    simp at hr;subst hr;exact h.2 _ (List.mem_of_getElem? hq) _ (iU ..)⟩
theorem l5_{σ:aj}{H:List Res}{q i:Nat}{z:List (NP β)}{l:List β}{p:Option Addr×Nat}(hq:H[q]? =some (Res.nest E' E size enc v z))(hi:i<z.length)(hm:nth z i qo=(l,p))(w:World)(h:kH σ H w):
    kH σ [ε E size enc (.slice p.1 l.length p.2) l] w:=
  ⟨h.1,λr hr=>by
    simp at hr;subst hr;exact h.2 _ (List.mem_of_getElem? hq) _ (rM _ (List.mem_of_getElem? (rx_ hi hm)))⟩
theorem ol_{σ:aj}{H:List Res}{w:World}{l:List β}{u:Value}(h:kH σ [ε E size enc u l] w):uo u l.length/\l.length<=281474976710656:=by
  have h:=h.2 _ (List.mem_singleton.2 rfl);exact ⟨isSl_row h.1,h.2.2⟩
theorem rG{σ:aj}{H:List Res}{q:Nat}{z:List (NP β)}{l:List (List β)}(hq:H[q]? =some (Res.nest E' E size enc v z))(hZ:Zn z l)(w:World)(h:kH σ H w):uo v l.length/\l.length<=281474976710656:=by
  have:=ol_ (H:=H) (r7_ hq w h);rw [hZ.len]at this;exact this
theorem pt_{σ:aj}{H:List Res}{q i:Nat}{z:List (NP β)}{l:List β}{p:Option Addr×Nat}(hq:H[q]? =some (Res.nest E' E size enc v z))(hi:i<z.length)(hm:nth z i qo=(l,p))(w:World)(h:kH σ H w):
    uo (.slice p.1 l.length p.2) l.length/\l.length<=281474976710656:=ol_ (H:=H) (l5_ hq hi hm w h)
section
variable {w0:World} {C:List Nat} {σ0 σ:aj} {w:World} {F:List Res} {z:List (NP β)}
theorem Reach.takeN{i:Nat}{l:List β}{p:Option Addr×Nat}(hi:i<z.length)(hm:nth z i qo=(l,p))(h:Reach w0 C σ0 σ w (Res.nest E' E size enc v z::F)):
    Reach w0 C σ0 σ w (ε E size enc (.slice p.1 l.length p.2) l::Res.dl_ E' E size enc v z i::F):=by
  have h1:=h.cc_;have hg:=rx_ (E:=E) (size:=size) (enc:=enc) hi hm;have hp:(UK E size enc (l,p)::(ε E' 1 Dc v z::(Aa E size enc z).eraseIdx i++F)).Perm (ε E' 1 Dc v z::Aa E size enc z++F):=by
    refine (List.Perm.swap _ _ _).trans (List.Perm.cons _ ?_);exact (PX hg rfl).append_right F
  have h2:=h1.perm hp;have h3:Reach w0 C σ0 σ w (([UK E size enc (l,p)]:List Res)++(ε E' 1 Dc v z::(Aa E size enc z).eraseIdx i++F)):=h2;have h4:Reach w0 C σ0 σ w ((ε E' 1 Dc v z::(Aa E size enc z).eraseIdx i)++(UK E size enc (l,p)::F)):=h2.perm (by
    refine (List.perm_middle).trans ?_;simp only [List.cons_append];exact List.Perm.refl _)
  have h5:=h4.star;exact h5.perm (List.Perm.swap _ _ _)
theorem xy_{i:Nat}(hi:i<z.length)(m:NP β):(UK E size enc m::(Aa E size enc z).eraseIdx i).Perm (Aa E size enc (z.set i m)):=by
  refine PX (i:=i) ?_ ?_
  · rw [Aa,List.getElem?_map,List.getElem?_set];simp [hi]
  rw [Aa,Aa,List.map_set,List.eraseIdx_set_eq]
theorem Reach.nils(n:Nat)(h:Reach w0 C σ0 σ w F):Reach w0 C σ0 σ w (Aa E size enc (List.replicate n qo)++F):=by
  induction n with
  |zero=>exact h
  |succ n ih=>exact ih.nilRow E size
theorem Reach.toNest(n:Nat)(h:Reach w0 C σ0 σ w (ε E' 1 Dc v (List.replicate n (qo:NP β))::F)):Reach w0 C σ0 σ w (Res.nest E' E size enc v (List.replicate n qo)::F):=by
  refine Reach.star ?_;have:=h.nils (E:=E) (size:=size) (enc:=enc) n;exact this.perm (by simp only [List.cons_append];exact List.perm_middle.symm)
theorem Reach.c8_(hl: ∀x,(enc x).length=size): ∀(z:List (NP β)) {σ:aj},Reach w0 C σ0 σ w (Aa E size enc z++F)-> ∃σ',Reach w0 C σ0 σ' w F/\σ.le σ'/\ ∀m∈z,RS σ' size enc (.slice m.2.1 m.1.length m.2.2) m.1
  |[],σ,h=>⟨σ,h,aj.le.refl _,by simp⟩
  |m::z,σ,h=>by
    obtain ⟨τ,h1,h2,h3⟩:=Reach.O4 (h:=h);obtain ⟨τ',k1,k2,k3⟩:=Reach.c8_ hl z h1;refine ⟨τ',k1,h2.trans k2,λu hu=> ?_⟩;rcases List.mem_cons.1 hu with rfl|hu
    · exact RS.mono ⟨h3,hl⟩ k2
    exact k3 u hu
theorem Reach.bf_{l:List (List β)}(hl: ∀x,(enc x).length=size)(hZ:Zn z l)(h:Reach w0 C σ0 σ w (Res.nest E' E size enc v z::F)): ∃σ',Reach w0 C σ0 σ' w F/\σ.le σ'/\RZ σ' (aF size enc hl) v l:=by
  have h1:=h.cc_;simp only [List.cons_append]at h1;obtain ⟨τ,h2,h3,h4⟩:=Reach.O4 (h:=h1);obtain ⟨τ',k1,k2,k3⟩:=Reach.c8_ hl z h2;exact ⟨τ',k1,h3.trans k2,z,⟨hZ,k3⟩,RS.mono (σ:=τ) (enc:=Dc) ⟨h4,ng_⟩ k2⟩
end
section
variable {X:Ctx} {e:Env} {σ:aj} {H F:List Res} {o:Oper} {x y:Operand} {K:Env->aj->List Res->Prop} {z:List (NP β)} {l:List (List β)}
theorem OpOk.nP{T E' E size jY d q:Nat}{enc:β->List Value}{kl kc:IntKind}{zv:Value}(ho:o.op= .makeSlice T x y)(ht:X.P.underlying T=some (.slice E'))(hs:szOf X.P E'=some 1)(hby:byOf X.P E'=some jY)(hz:zeroOf X.P E'=some zv)
    (hd:o.dst=some d) (hn:Nat.blt d X.n=true) (hx:ev e x= .int kl (q:Nat)) (hy:ev e y= .int kc (q:Nat)) (hb:jY * q<=281474976710656) (lW:0<jY)
    (hz0:zv.cells.toList=[.slice none 0 0]) (kk: ∀a c,Zn (List.replicate q (qo:NP β)) (List.replicate q [])->K (upd e d (.slice a (List.replicate q ([]:List β)).length c)) σ (Res.nest E' E size enc (.slice a (List.replicate q ([]:List β)).length c) (List.replicate q qo)::H)):OpOk X o e σ H K:=by
  refine OpOk.then (OpOk.CV (enc:=(Dc:NP β->List Value)) (K:=λe' σ' G=> ∃a c,e'=upd e d (.slice a (List.replicate q ([]:List β)).length c)/\σ'=σ/\G=ε E' 1 Dc (.slice a (List.replicate q ([]:List β)).length c) (List.replicate q (qo:NP β))::H) qo ho ht hs hby hz hd hn hx hy hb lW ng_ (by decide) hz0 vd_ λa c=>⟨a,c,by simp⟩) ?_;rintro e' σ' G ⟨a,c,rfl,rfl,rfl⟩;exact ⟨_,λw h=>h.toNest q,kk a c (Zn.rep q)⟩
theorem OpVal.EM{P:Program}{n T q i:Nat}{lk:List β}{p:Option Addr×Nat}(ho:o.op= .load T x)(hA:aggOf P T=some false)(hx:ev e x=lF v (i * 1))(hq:H[q]? =some (Res.nest E' E size enc v z))(hi:i<z.length)(hm:nth z i qo=(lk,p)):
    OpVal P n o e σ H (.slice p.1 lk.length p.2):=by
  refine OpVal.seen (r7_ hq) (OpVal.c4_ (q:=0) qo ho hA hx rfl ng_ hi ?_);rw [hm];rfl
theorem OpOk.JM{T i:Nat}{a:Option Addr}{m c:Nat}{u:Value}{l':List β}(ho:o.op= .store T x y)(hs:szOf X.P T=some 1)(hd:o.dst=none)(hx:ev e x=lF v (i * 1))(hv:ev e y=u)(hu:u= .slice a m c)(hm:l'.length=m)(hi:i<z.length)(hZ:Zn z l)
    (kk:Zn (z.set i (l',(a,c))) (l.set i l')->K e σ (Res.nest E' E size enc v (z.set i (l',(a,c)))::F)):OpOk X o e σ (ε E size enc (.slice a m c) l'::Res.dl_ E' E size enc v z i::F) K:=by
  subst hm hu;refine OpOk.by (H':=ε E' 1 Dc v z::((Aa E size enc z).eraseIdx i++(UK E size enc (l',(a,c))::F))) (λw h=> ?_) ?_
  · have h1:=(h.perm (List.Perm.swap _ _ _)).cc_
    exact h1
  refine OpOk.then (OpOk.b8_ (enc:=(Dc:NP β->List Value)) (K:=λe' σ' G=>e'=e/\σ'=σ/\G=ε E' 1 Dc v (z.set i (l',(a,c)))::((Aa E size enc z).eraseIdx i++(UK E size enc (l',(a,c))::F))) (l',(a,c)) ho hs hd hx hv rfl ng_ vd_ (by decide) hi ⟨rfl,rfl,rfl⟩) ?_;rintro e' σ' G ⟨rfl,rfl,rfl⟩;refine ⟨_,λw h=>Reach.star (h.perm ?_),kk (hZ.set i l' (a,c))⟩;simp only [List.cons_append];refine List.Perm.cons _ ?_;refine List.Perm.trans ((xy_ hi (l',(a,c))).symm.append_right F) ?_;simp only [List.cons_append];exact List.perm_middle.symm
end
end
open Classical in
def allP{α β:Type}(S:α->Prop)(f:α->Option β):Option β:=if h: ∃r,(∃x,S x)/\ ∀x,S x->f x=some r then some h.choose else none
section
variable {S R E:Type}
def runL (step : S -> Option E -> Option (S ⊕ R)) : List E -> S -> Option R
  |[],s=>match step s none with
    |some (.inr r)=>some r
    |_=>none
  |x::q,s=>match step s (some x)with
    |some (.inl s')=>runL step q s'
    |some (.inr r)=>some r
    |none=>none
def runA(step:S->Option E->Option (S⊕R))(l:List E)(s:S):Option R:=allP (λq=>q.Perm l) (λq=>runL step q s)
structure RdA (step:S->Option E->Option (S⊕R)) (r:R) (l:List E) (z:S⊕R):Prop where
  next: ∀s',z= .inl s'->runA step l s'=some r
  done: ∀r',z= .inr r'->r'=r
def optE{α β:Type}(o:Option α)(t:Option β)(f:α->Option β):Option β:=match o with|none=>t|some x=>f x
@[simp]theorem optE_none{α β:Type}(t:Option β)(f:α->Option β):optE none t f=t:=rfl
@[simp]theorem optE_some{α β:Type}(x:α)(t:Option β)(f:α->Option β):optE (some x) t f=f x:=rfl
end
end Go.E
end

noncomputable section
namespace Go.E
open Go
structure FM (K V:Type) where
  f:K->Option V
  n:Nat
section
variable {K V:Type}
def FM.emp:FM K V:=⟨λ_=>none,0⟩
def FM.put [DecidableEq K](m:FM K V)(k:K)(v:V):FM K V:=⟨λx=>if x=k then some v else m.f x,if (m.f k).isSome then m.n else m.n+1⟩
def FM.get(m:FM K V)(k:K)(d:V):V:=(m.f k).getD d
def FM.has(m:FM K V)(k:K):Bool:=(m.f k).isSome
structure Rep (l:List (K×V)) (m:FM K V):Prop where
  mem: ∀k v,(k,v)∈l↔m.f k=some v
  len:l.length=m.n
  nodup:(l.map Prod.fst).Nodup
theorem Rep.emp:Rep ([]:List (K×V)) FM.emp:=⟨by simp [FM.emp],rfl,by simp⟩
theorem Rep.perm{l l':List (K×V)}{m:FM K V}(h:Rep l m)(hp:l'.Perm l):Rep l' m:=⟨λk v=>by rw [hp.mem_iff];exact h.mem k v,by rw [hp.length_eq];exact h.len,(hp.map _).nodup_iff.2 h.nodup⟩
theorem Rep.not{l:List (K×V)}{m:FM K V}(h:Rep l m){k:K}:k∉l.map Prod.fst↔m.f k=none:=by
  constructor
  · intro hn
    cases hk:m.f k with
    |none=>rfl
    |some v=>exact absurd (List.mem_map.2 ⟨_,(h.mem k v).2 hk,rfl⟩) hn
  intro hk hm;obtain ⟨⟨k',v⟩,h1,rfl⟩:=List.mem_map.1 hm;have:=(h.mem k' v).1 h1;simp only at hk;rw [hk]at this;cases this
end
structure MapAt {K V:Type} (enc:K->Value) (encV:V->Value) (w:World) (b:Nat) (zs:List (MapEntry×(K×V))) (clock:Nat):Prop where
  at_: ∃es,w.heap[b]? =some (.map es clock)/\es.toList=zs.map Prod.fst
  key: ∀z∈zs,z.1.key=enc z.2.1
  val: ∀z∈zs,z.1.val=encV z.2.2
  born: ∀z∈zs,z.1.born<clock
  nodup:(zs.map (·.1.born)).Nodup
def aam_{K V:Type}(enc:K->Value)(encV:V->Value)(b:Nat)(m:FM K V)(w:World):Prop:= ∃zs clock,Rep (zs.map Prod.snd) m/\MapAt enc encV w b zs clock
theorem aam_.keep{K V:Type}{enc:K->Value}{encV:V->Value}{b:Nat}{m:FM K V}{w w':World}(h:aam_ enc encV b m w)(hb:w'.heap[b]? =w.heap[b]?):aam_ enc encV b m w':=by
  obtain ⟨zs,c,h1,⟨es,h2,h3⟩,h4,h5,h6,h7⟩:=h;exact ⟨zs,c,h1,⟨es,by rw [hb];exact h2,h3⟩,h4,h5,h6,h7⟩
def Γ{K V:Type}(enc:K->Value)(encV:V->Value)(b:Option Nat)(m:FM K V):Res where
  bl:=b.toList
  holds w:=(b=none->m=FM.emp)/\ ∀k,b=some k->aam_ enc encV k m w
  lt w k hk h:=by obtain ⟨_,_,_,⟨_,h,_⟩,_⟩:=h.2 k (Option.mem_toList.1 hk);exact (Array.getElem?_eq_some_iff.1 h).1
  keep w w' hb h:=⟨h.1,λk hk=>(h.2 k hk).keep (hb k (Option.mem_toList.2 hk))⟩
def Res.rngN{K V:Type}(it:Nat)(m:FM K V)(left:List (K×V))(last:Option (K×V)):Res where
  bl:=[it]
  holds w:=(m=FM.emp/\left=[]/\last=none)/\w.heap[it]? =some (.mapIter none 0 #[] 0)
  lt w k hk h:=by rw [List.mem_singleton.1 hk];exact (Array.getElem?_eq_some_iff.1 h.2).1
  keep w w' hb h:=⟨h.1,by rw [hb it (List.mem_singleton.2 rfl)];exact h.2⟩
def Res.rngS {K V : Type} (enc : K -> Value) (encV : V -> Value) (b it : Nat) (m : FM K V) (left : List (K × V)) (last : Option (K × V)) : Res where
  bl:=[b,it]
  holds w:=b≠it/\ ∃zs clock seen,Rep (zs.map Prod.snd) m/\MapAt enc encV w b zs clock/\w.heap[it]? =some (.mapIter (some b) clock seen clock)/\
    left.Perm ((zs.filter λz=> !seen.contains z.1.born).map Prod.snd)/\ ∀x,last=some x-> ∃z∈zs, ∃s:Array Nat,seen=s.push z.1.born/\z.2=x
  lt w k hk h:=by
    obtain ⟨_,zs,c,seen,_,⟨⟨_,h,_⟩,_⟩,h',_⟩:=h;simp at hk;rcases hk with rfl|rfl
    · exact (Array.getElem?_eq_some_iff.1 h).1
    exact (Array.getElem?_eq_some_iff.1 h').1
  keep w w' hb h:=by
    obtain ⟨hne,zs,c,seen,h1,⟨⟨es,h2,h3⟩,h4,h5,h6,h7⟩,h8,h9⟩:=h;exact ⟨hne,zs,c,seen,h1,⟨⟨es,by rw [hb b (by simp)];exact h2,h3⟩,h4,h5,h6,h7⟩,by rw [hb it (by simp)];exact h8,h9⟩
def Res.rng{K V:Type}(enc:K->Value)(encV:V->Value)(b:Option Nat)(it:Nat)(m:FM K V)(left:List (K×V))(last:Option (K×V)):Res:=match b with
  |none=>Res.rngN it m left last
  |some b=>Res.rngS enc encV b it m left last
structure KeyL {K:Type} [DecidableEq K] (P:Program) (T:TypeId) (enc:K->Value):Prop where
  check: ∀x c w,(Instr.checkKey c 10000 T (enc x)).run P w= .ok () w
  find: ∀x (l:List K) (es:List MapEntry) w,es.map (·.key)=l.map enc-> ∃r,(Instr.findKey T (enc x) es).run P w= .ok r w/\
    (x∉l->r=none)/\(x∈l-> ∃i m,r=some (i,m.val)/\es[i]? =some m/\l[i]? =some x)
  stays: ∀x w,(Instr.keyThatStays (enc x) (enc x)).run P w= .ok (enc x) w
theorem nx_{K:Type}[DecidableEq K]{d:TypeDesc}{enc:K->Value}(h: ∀x y,Instr.sameNow d (enc x) (enc y)=some (decide (x=y)))(x:K): ∀(l:List K) (es:List MapEntry) (i:Nat),es.map (·.key)=l.map enc-> ∃r,Instr.findNow d (enc x) es i=some r/\
    (x∉l->r=none)/\(x∈l-> ∃j m,r=some (i+j,m.val)/\es[j]? =some m/\l[j]? =some x)
  |[],[],i,_=>⟨none,rfl,λ_=>rfl,λh=>by simp at h⟩
  |[],_::_,i,h=>by simp at h
  |_::_,[],i,h=>by simp at h
  | y :: l, m :: es, i, hk => by
    simp only [List.map_cons,List.cons.injEq]at hk;obtain ⟨h1,h2⟩:=hk;unfold Instr.findNow;rw [h1,h]
    by_cases hxy:x=y
    · subst hxy
      simp only [decide_true];exact ⟨_,rfl,λh=>absurd (iU ..) h,λ_=>⟨0,m,rfl,rfl,rfl⟩⟩
    rw [decide_eq_false hxy];obtain ⟨r,h3,h4,h5⟩:=nx_ h x l es (i+1) h2;refine ⟨r,h3,λhn=>h4 λhm=>hn (rM _ hm),λhm=> ?_⟩;obtain ⟨j,m',e1,e2,e3⟩:=h5 ((List.mem_cons.1 hm).resolve_left hxy);exact ⟨j+1,m',by rw [e1];congr 2;omega,by simpa using e2,by simpa using e3⟩
theorem KeyL.now{K:Type}[DecidableEq K]{P:Program}{T:TypeId}{d:TypeDesc}{enc:K->Value}(hT:P.underlying T=some d)(h: ∀x y,Instr.sameNow d (enc x) (enc y)=some (decide (x=y)))(hc: ∀x c w,(Instr.checkKey c 10000 T (enc x)).run P w= .ok () w)(hs: ∀x,Instr.sameBits 10000 (enc x) (enc x)=true):KeyL P T enc where
  check:=hc
  find x l es w he:=by
    obtain ⟨r,h1,h2,h3⟩:=nx_ h x l es 0 he;refine ⟨r,by simp [Instr.findKey,run_underlying hT,h1],h2,λhm=> ?_⟩;obtain ⟨j,m,e1,e2⟩:=h3 hm;exact ⟨j,m,by rw [e1,Nat.zero_add],e2⟩
  stays x w:=by simp [Instr.keyThatStays,hs]
theorem kf_{K:Type}[DecidableEq K]{P:Program}{T:TypeId}{enc:K->Value}(h: ∀x y w,(Op.equal T (enc x) (enc y)).run P w= .ok (decide (x=y)) w)(x:K)(w:World): ∀(l:List K) (es:List MapEntry) (i:Nat),es.map (·.key)=l.map enc-> ∃r,(Instr.findAsking T (enc x) es i).run P w= .ok r w/\
    (x∉l->r=none)/\(x∈l-> ∃j m,r=some (i+j,m.val)/\es[j]? =some m/\l[j]? =some x)
  |[],[],i,_=>⟨none,by simp [Instr.findAsking],λ_=>rfl,λh=>by simp at h⟩
  |[],_::_,i,h=>by simp at h
  |_::_,[],i,h=>by simp at h
  | y :: l, m :: es, i, hk => by
    simp only [List.map_cons,List.cons.injEq]at hk;obtain ⟨h1,h2⟩:=hk;unfold Instr.findAsking;rw [h1]
    by_cases hxy:x=y
    · subst hxy
      exact ⟨some (i,m.val),by simp [h],λh=>absurd (iU ..) h,λ_=>⟨0,m,rfl,rfl,rfl⟩⟩
    obtain ⟨r,h3,h4,h5⟩:=kf_ h x w l es (i+1) h2;refine ⟨r,by simp [h,hxy,h3],λhn=>h4 λhm=>hn (rM _ hm),λhm=> ?_⟩;obtain ⟨j,m',e1,e2,e3⟩:=h5 ((List.mem_cons.1 hm).resolve_left hxy);exact ⟨j+1,m',by rw [e1];congr 2;omega,by simpa using e2,by simpa using e3⟩
theorem KeyL.asking {K : Type} [DecidableEq K] {P : Program} {T : TypeId} {d : TypeDesc} {enc : K -> Value} (hT : P.underlying T = some d) (hn : ∀ x y, Instr.sameNow d (enc x) (enc y) = none) (h : ∀ x y w, (Op.equal T (enc x) (enc y)).run P w = .ok (decide (x = y)) w) (hc : ∀ x c w, (Instr.checkKey c 10000 T (enc x)).run P w = .ok () w) (hs : ∀ x, Instr.sameBits 10000 (enc x) (enc x) = true) : KeyL P T enc where
  check:=hc
  find x l es w he:=by
    cases l with
    |nil=>
      have:es=[]:=by cases es<;>simp_all
      subst this;exact ⟨none,by simp [Instr.findKey,run_underlying hT,Instr.findNow],λ_=>rfl,λh=>by simp at h⟩
    |cons y l=>
      obtain ⟨r,h1,h2,h3⟩:=kf_ h x w (y::l) es 0 he;cases es with
      |nil=>simp at he
      |cons m es=>
        have hk:m.key=enc y:=by simp at he;exact he.1
        refine ⟨r,by simp [Instr.findKey,run_underlying hT,Instr.findNow,hk,hn,h1],h2,λhm=> ?_⟩;obtain ⟨j,m',e1,e2⟩:=h3 hm;exact ⟨j,m',by rw [e1,Nat.zero_add],e2⟩
  stays x w:=by simp [Instr.keyThatStays,hs]
theorem ri_{P:Program}{T:TypeId}(hT:P.underlying T=some (.int .i64)):KeyL P T gX:=
  KeyL.now hT (λx y=>by simp only [Instr.sameNow,gX,if_true];congr 1) (λx c w=>m3_ hT 9999 x c w) (λx=>by unfold gX;rw [Instr.sameBits];simp)
def iQ(x:List UInt8):Value:= .string (bs x)
theorem zd_(l m:List UInt8):(bs l == bs m)=decide (l=m):=by
  rw [Bool.eq_iff_iff,decide_eq_true_iff,MapKept.bytes_beq];exact ⟨bs_inj,λh=>by rw [h]⟩
theorem na_{P:Program}{K:TypeId}(hK:P.underlying K=some .string)(d:Nat)(x:List UInt8)(c:Bool)(w:World):(Instr.checkKey c (d+1) K (iQ x)).run P w= .ok () w:=by
  simp [Instr.checkKey,run_underlying hK,iQ]
theorem JH{P:Program}{T:TypeId}(hT:P.underlying T=some .string):KeyL P T iQ:=
  KeyL.now hT (λx y=>by
    simp only [Instr.sameNow,iQ,zd_]) (λx c w=>na_ hT 9999 x c w) (λx=>by unfold iQ;rw [Instr.sameBits,zd_];simp)
section
variable {X:Ctx} {e:Env} {σ:aj} {H F:List Res} {o:Oper} {x y z:Operand} {C:Env->aj->List Res->Prop} {K V:Type} {enc:K->Value} {encV:V->Value}
theorem OpOk.as_{T d:Nat}(ho:o.op= .makeMap T none)(hd:o.dst=some d)(hn:Nat.blt d X.n=true)(k: ∀b,C (upd e d (.map (some b))) σ (Γ enc encV (some b) FM.emp::H)):OpOk X o e σ H C:=by
  intro u0 C0 τ0 w a hw ha K' Q hK;refine Oper.wG (w':=w.alloc (.map #[] 0)) (v:= .map (some w.heap.size)) ?_ (hK _ _ _ _ _ (k w.heap.size) (hw.OT (some _) rfl rfl rfl rfl (by simp) (Nat.le_refl _) (λk hk=>Ol w _ _ hk) ⟨λh=>(by cases h),λk hk=>by cases hk;exact ⟨[],0,Rep.emp,⟨#[],heap_alloc_new w _,rfl⟩,by simp,by simp,by simp,by simp⟩⟩ (λb hb=>by cases hb;exact Nat.le_refl _)) (xR ha hd hn _));simp [execOp,ho,Instr.makeMap]
theorem nz_{b i:Nat}{m:FM K V}{w:World}(hi:H[i]? =some (Γ enc encV (some b) m))(hw:kH σ H w): ∃zs clock,Rep (zs.map Prod.snd) m/\MapAt enc encV w b zs clock:=(hw.2 _ (List.mem_of_getElem? hi)).2 b rfl
theorem qm_{i:Nat}{m:FM K V}{w:World}(hi:H[i]? =some (Γ enc encV none m))(hw:kH σ H w):m=FM.emp:=(hw.2 _ (List.mem_of_getElem? hi)).1 rfl
theorem MapAt.keys{b clock:Nat}{w:World}{zs:List (MapEntry×(K×V))}(h:MapAt enc encV w b zs clock):(zs.map Prod.fst).map (·.key)=((zs.map Prod.snd).map Prod.fst).map enc:=by
  rw [List.map_map,List.map_map,List.map_map];exact List.map_congr_left λz hz=>h.key z hz
theorem nj_ [DecidableEq K]{P:Program}{KT:Nat}{b:Nat}{m:FM K V}{w:World}{zs:List (MapEntry×(K×V))}{clock:Nat}(hR:Rep (zs.map Prod.snd) m)(hM:MapAt enc encV w b zs clock)(KL:KeyL P KT enc)(q:K){es:Array MapEntry}(he:es.toList=zs.map Prod.fst):
    (m.f q=none/\(Instr.findKey KT (enc q) es.toList).run P w= .ok none w)\/ ∃i z,m.f q=some z.2.2/\zs[i]? =some z/\z.2.1=q/\(Instr.findKey KT (enc q) es.toList).run P w= .ok (some (i,encV z.2.2)) w:=by
  obtain ⟨r,k1,k2,k3⟩:=KL.find q ((zs.map Prod.snd).map Prod.fst) es.toList w (by rw [he];exact hM.keys)
  by_cases hq:q∈(zs.map Prod.snd).map Prod.fst
  · obtain ⟨i,m',e1,e2,e3⟩:=k3 hq
    rw [e1]at k1;rw [he,List.getElem?_map]at e2;cases hz:zs[i]? with
    |none=>rw [hz]at e2;simp at e2
    |some z=>
      rw [hz]at e2;simp only [Option.map_some,Option.some.injEq]at e2;rw [List.getElem?_map,List.getElem?_map,hz]at e3;simp only [Option.map_some,Option.some.injEq]at e3;have hzm:=List.mem_of_getElem? hz;refine .inr ⟨i,z,?_,hz,e3,?_⟩
      · rw [<-e3,<-hR.mem];exact List.mem_map.2 ⟨z,hzm,rfl⟩
      rw [k1,<-e2,hM.val z hzm]
  rw [k2 hq]at k1;exact .inl ⟨hR.not.1 hq,k1⟩
theorem OpVal.Xh [DecidableEq K]{P:Program}{n T KT ET i:Nat}{b:Option Nat}{m:FM K V}{q:K}(d:V)(ho:o.op= .lookup T x y true)(ht:P.underlying T=some (.map KT ET))(hz:zeroOf P ET=some (encV d))(hx:ev e x= .map b)(hi:H[i]? =some (Γ enc encV b m))(hy:ev e y=enc q)(KL:KeyL P KT enc):
    OpVal P n o e σ H (.tuple #[encV (m.get q d),.bool (m.has q)]):=λw hw=>by
  cases b with
  |none=>
    obtain rfl:=qm_ hi hw;obtain ⟨r,k1,k2,_⟩:=KL.find q [] [] w rfl;rw [k2 (by simp)]at k1;simp [execOp,ho,hx,hy,Instr.lookup,run_underlying ht,KL.check,k1,PZ hz,FM.get,FM.has,FM.emp]
  |some b=>
    obtain ⟨zs,clock,hR,hM⟩:=nz_ hi hw;obtain ⟨es,h1,h2⟩:=hM.at_;have hg:(getObj b).run P w= .ok (.map es clock) w:=go_ h1;rcases nj_ hR hM KL q h2 with ⟨h3,h4⟩|⟨j,z,h3,_,_,h4⟩
    · simp [execOp,ho,hx,hy,Instr.lookup,run_underlying ht,hg,KL.check,h4,PZ hz,FM.get,FM.has,h3]
    simp [execOp,ho,hx,hy,Instr.lookup,run_underlying ht,hg,KL.check,h4,FM.get,FM.has,h3]
theorem OpVal.ds_ [DecidableEq K]{P:Program}{n T KT ET i:Nat}{b:Option Nat}{m:FM K V}{q:K}(d:V)(ho:o.op= .lookup T x y false)(ht:P.underlying T=some (.map KT ET))(hz:zeroOf P ET=some (encV d))(hx:ev e x= .map b)(hi:H[i]? =some (Γ enc encV b m))(hy:ev e y=enc q)(KL:KeyL P KT enc):
    OpVal P n o e σ H (encV (m.get q d)):=λw hw=>by
  cases b with
  |none=>
    obtain rfl:=qm_ hi hw;obtain ⟨r,k1,k2,_⟩:=KL.find q [] [] w rfl;rw [k2 (by simp)]at k1;simp [execOp,ho,hx,hy,Instr.lookup,run_underlying ht,KL.check,k1,PZ hz,FM.get,FM.has,FM.emp]
  |some b=>
    obtain ⟨zs,clock,hR,hM⟩:=nz_ hi hw;obtain ⟨es,h1,h2⟩:=hM.at_;have hg:(getObj b).run P w= .ok (.map es clock) w:=go_ h1;rcases nj_ hR hM KL q h2 with ⟨h3,h4⟩|⟨j,z,h3,_,_,h4⟩
    · simp [execOp,ho,hx,hy,Instr.lookup,run_underlying ht,hg,KL.check,h4,PZ hz,FM.get,h3]
    simp [execOp,ho,hx,hy,Instr.lookup,run_underlying ht,hg,KL.check,h4,FM.get,h3]
theorem OpVal.lenB{P:Program}{n T KT ET i:Nat}{b:Option Nat}{m:FM K V}(ho:o.op= .call {callee:= .builtin .len,args:= #[x],argTypes:= #[T]})(ht:P.underlying T=some (.map KT ET))(hx:ev e x= .map b)(hi:H[i]? =some (Γ enc encV b m)):
    OpVal P n o e σ H (.int .i64 (m.n:Nat)):=λw hw=>by
  cases b with
  |none=>
    obtain rfl:=qm_ hi hw;simp [execOp,ho,resolve,invoke,builtin,hx,Builtin.len_,run_underlying ht,goInt,FM.emp]
  |some b=>
    obtain ⟨zs,clock,hR,hM⟩:=nz_ hi hw;obtain ⟨es,h1,h2⟩:=hM.at_;have hl:es.size=m.n:=by have:=congrArg List.length h2;have h3:=hR.len;simp at this h3;omega
    have hg:(getObj b).run P w= .ok (.map es clock) w:=go_ h1;simp [execOp,ho,resolve,invoke,builtin,hx,Builtin.len_,run_underlying ht,hg,goInt,hl]
theorem OpOk.updB [DecidableEq K] {T KT ET : Nat} {b : Nat} {m : FM K V} (q : K) (v : V) (ho : o.op = .mapUpdate T x y z) (ht : X.P.underlying T = some (.map KT ET)) (hd : o.dst = none) (hx : ev e x = .map (some b)) (hy : ev e y = enc q) (hz : ev e z = encV v) (KL : KeyL X.P KT enc)
    (k:C e σ (Γ enc encV (some b) (m.put q v)::F)):OpOk X o e σ (Γ enc encV (some b) m::F) C:=by
  intro u0 C0 τ0 w a hw ha K' Q hK;obtain ⟨zs,clock,hR,hM⟩:=(hw.holds _ (iU ..)).2 b rfl;obtain ⟨es,h1,h2⟩:=hM.at_;have hg:(getObj b).run X.P w= .ok (.map es clock) w:=go_ h1;have hblt:b<w.heap.size:=(Array.getElem?_eq_some_iff.1 h1).1;have key: ∀es' clock' (zs':List (MapEntry×(K×V))),es'.toList=zs'.map Prod.fst->Rep (zs'.map Prod.snd) (m.put q v)->(∀z∈zs',z.1.key=enc z.2.1)->(∀z∈zs',z.1.val=encV z.2.2)->(∀z∈zs',z.1.born<clock')->(zs'.map (·.1.born)).Nodup->
      Reach u0 C0 τ0 σ {w with heap:=w.heap.setIfInBounds b (.map es' clock')} (Γ enc encV (some b) (m.put q v)::F):=λes' clock' zs' g1 g2 g3 g4 g5 g6=>
    hw.F7 (some _) (some _) rfl rfl rfl rfl rfl (by simp) (Nat.le_refl _) (λk hk hne=>by
      have:b≠k:=λhx=>hne (by rw [hx]);simp [Array.getElem?_setIfInBounds,this]) ⟨λh=>(by cases h),λk hk=>by cases hk;exact ⟨zs',clock',g2,⟨es',by simp [Array.getElem?_setIfInBounds,hblt],g1⟩,g3,g4,g5,g6⟩⟩ (λc hc=> .inl (by cases hc;rfl))
  rcases nj_ hR hM KL q h2 with ⟨h3,h4⟩|⟨j,u,h3,hj,hu,h4⟩
  · refine Oper.a1_ (w':={w with heap:=w.heap.setIfInBounds b (.map (es.push {key:=enc q,val:=encV v,born:=clock}) (clock+1))}) ?_ (hK _ _ _ _ _ k (key _ _ (zs++[({key:=enc q,val:=encV v,born:=clock},(q,v))]) ?_ ?_ ?_ ?_ ?_ ?_) (jx_ ha hd _))
    · rw [ha.eval']
      simp [execOp,ho,hx,hy,hz,Instr.mapUpdate,run_underlying ht,hg,KL.check,h4,g7_ _ h1]
    · simp [h2]
    · rw [List.map_append]
      refine ⟨λk' v'=> ?_,?_,?_⟩
      · have:=hR.mem k' v'
        simp only [FM.put,List.mem_append,this,List.map_cons,List.map_nil,JC,Prod.mk.injEq]
        by_cases hk:k'=q
        · subst hk;simp [h3];exact eq_comm
        simp [hk]
      · have:=hR.len
        simp only [iK,FM.put,h3,List.length_map,jm]at this ⊢;simp;omega
      have:=hR.not.2 h3;rw [List.map_append,List.nodup_append];refine ⟨hR.nodup,by simp,λa ha c hc=> ?_⟩;simp at hc;subst hc;intro e;subst e;exact this ha
    · intro z hz
      rcases List.mem_append.1 hz with hz|hz
      · exact hM.key z hz
      simp at hz;subst hz;rfl
    · intro z hz
      rcases List.mem_append.1 hz with hz|hz
      · exact hM.val z hz
      simp at hz;subst hz;rfl
    · intro z hz
      rcases List.mem_append.1 hz with hz|hz
      · have:=hM.born z hz;omega
      simp at hz;subst hz;simp
    rw [List.map_append,List.nodup_append];refine ⟨hM.nodup,by simp,λa ha c hc=> ?_⟩;simp at hc;subst hc;obtain ⟨z,hz,rfl⟩:=List.mem_map.1 ha;have:=hM.born z hz;omega
  have hum:=List.mem_of_getElem? hj;have hes:es[j]? =some u.1:=by
    rw [<-Array.getElem?_toList,h2,List.getElem?_map,hj];rfl
  have hlt:j<es.size:=(Array.getElem?_eq_some_iff.1 hes).1;have huk:u.1.key=enc q:=by rw [hM.key u hum,hu]
  have hfst: ∀i z,(zs.modify j λp=>({p.1 with key:=enc q,val:=encV v},(q,v)))[i]? =some z-> ∃p,zs[i]? =some p/\((i=j/\z=({p.1 with key:=enc q,val:=encV v},(q,v)))\/(i≠j/\z=p)):=by
    intro i z hz;rw [List.getElem?_modify]at hz;cases hp:zs[i]? with
    |none=>rw [hp]at hz;simp at hz
    |some p=>
      rw [hp]at hz;refine ⟨p,rfl,?_⟩
      by_cases hij:j=i
      · subst hij;simp at hz;exact .inl ⟨rfl,hz.symm⟩
      simp [hij]at hz;exact .inr ⟨λh=>hij h.symm,hz.symm⟩
  have hkeys:((zs.modify j λp=>({p.1 with key:=enc q,val:=encV v},(q,v))).map Prod.snd).map Prod.fst=(zs.map Prod.snd).map Prod.fst:=by
    apply List.ext_getElem?;intro i;simp only [List.getElem?_map,List.getElem?_modify]
    by_cases hij:j=i
    · subst hij;simp [hj,hu]
    simp [hij]
  refine Oper.a1_ (w':={w with heap:=w.heap.setIfInBounds b (.map (es.modify j λm=>{m with key:=enc q,val:=encV v}) clock)}) ?_ (hK _ _ _ _ _ k (key _ _ (zs.modify j λp=>({p.1 with key:=enc q,val:=encV v},(q,v))) ?_ ?_ ?_ ?_ ?_ ?_) (jx_ ha hd _))
  · rw [ha.eval']
    simp [execOp,ho,hx,hy,hz,Instr.mapUpdate,run_underlying ht,hg,KL.check,h4,g7_ _ h1,hes,huk,KL.stays]
  · apply List.ext_getElem?
    intro i;rw [Array.getElem?_toList,Array.getElem?_modify,List.getElem?_map,List.getElem?_modify,<-Array.getElem?_toList,h2,List.getElem?_map]
    by_cases hij:j=i
    · subst hij;simp [hj]
    simp [hij]
  · refine ⟨λk' v'=> ?_,?_,by rw [hkeys];exact hR.nodup⟩
    · simp only [FM.put]
      have hin: ∀k' v',(k',v')∈(zs.modify j λp=>({p.1 with key:=enc q,val:=encV v},(q,v))).map Prod.snd->(k'=q/\v'=v)\/(k'≠q/\(k',v')∈zs.map Prod.snd):=by
        intro k' v' hm;obtain ⟨z,hz,hzk⟩:=List.mem_map.1 hm;obtain ⟨i,hi⟩:=List.mem_iff_getElem?.1 hz;obtain ⟨p,hp,⟨_,rfl⟩|⟨hij,rfl⟩⟩:=hfst i z hi
        · simp at hzk;exact .inl ⟨hzk.1.symm,hzk.2.symm⟩
        refine .inr ⟨λhk=> ?_,List.mem_map.2 ⟨z,List.mem_of_getElem? hp,hzk⟩⟩;have h5:((zs.map Prod.snd).map Prod.fst)[i]? =some q:=by simp [hp,hzk,hk]
        have h6:((zs.map Prod.snd).map Prod.fst)[j]? =some q:=by simp [hj,hu]
        obtain ⟨hi5,e5⟩:=List.getElem?_eq_some_iff.1 h5;obtain ⟨hi6,e6⟩:=List.getElem?_eq_some_iff.1 h6;exact hij ((List.nodup_iff_pairwise_ne.1 hR.nodup |> List.pairwise_iff_getElem.1) |> λhpw=>by
          rcases Nat.lt_trichotomy i j with h|h|h
          · exact absurd (e5.trans e6.symm) (hpw i j hi5 hi6 h)
          · exact h
          exact absurd (e6.trans e5.symm) (hpw j i hi6 hi5 h))
      have hout1:(q,v)∈(zs.modify j λp=>({p.1 with key:=enc q,val:=encV v},(q,v))).map Prod.snd:=
        List.mem_of_getElem? (i:=j) (by simp [List.getElem?_modify,hj])
      by_cases hk:k'=q
      · subst hk
        simp only [if_true,Option.some.injEq];constructor
        · intro hm
          rcases hin _ _ hm with h|h
          · exact h.2.symm
          exact absurd rfl h.1
        rintro rfl;exact hout1
      rw [if_neg hk,<-hR.mem];constructor
      · intro hm
        rcases hin _ _ hm with h|h
        · exact absurd h.1 hk
        exact h.2
      intro hm;obtain ⟨z,hz,hzk⟩:=List.mem_map.1 hm;obtain ⟨i,hi⟩:=List.mem_iff_getElem?.1 hz;have hij:j≠i:=by
        rintro rfl;rw [hj]at hi;cases hi;rw [hzk]at hu;exact hk hu
      exact List.mem_of_getElem? (i:=i) (by simp [List.getElem?_modify,hij,hi,hzk])
    have:=hR.len;simp only [FM.put,h3,Option.isSome_some,if_true,List.length_map,List.length_modify]at this ⊢;exact this
  · intro z hz
    obtain ⟨i,hi⟩:=List.mem_iff_getElem?.1 hz;obtain ⟨p,hp,⟨_,rfl⟩|⟨_,rfl⟩⟩:=hfst i z hi
    · rfl
    exact hM.key z (List.mem_of_getElem? hp)
  · intro z hz
    obtain ⟨i,hi⟩:=List.mem_iff_getElem?.1 hz;obtain ⟨p,hp,⟨_,rfl⟩|⟨_,rfl⟩⟩:=hfst i z hi
    · rfl
    exact hM.val z (List.mem_of_getElem? hp)
  · intro z hz
    obtain ⟨i,hi⟩:=List.mem_iff_getElem?.1 hz;obtain ⟨p,hp,⟨_,rfl⟩|⟨_,rfl⟩⟩:=hfst i z hi
    · exact hM.born p (List.mem_of_getElem? hp)
    exact hM.born z (List.mem_of_getElem? hp)
  have:(zs.modify j λp=>({p.1 with key:=enc q,val:=encV v},(q,v))).map (·.1.born)=zs.map (·.1.born):=by
    apply List.ext_getElem?;intro i;simp only [List.getElem?_map,List.getElem?_modify]
    by_cases hij:j=i
    · subst hij;simp [hj]
    simp [hij]
  rw [this];exact hM.nodup
end
abbrev FT:=Bool×TypeId×Nat
def fieldsB(P : Program)(T : TypeId) : List FT := (P.fieldsOf T).toList.map fun f => (f.name == "_", f.type, f.offset)
def EqAt(P:Program)(n:Nat)(T:TypeId)(u v:Value)(b:Bool):Prop:= ∀d w,(Op.equalIn (d+n) T u v).run P w= .ok b w
inductive EqC (P:Program) (n:Nat) (xs ys:Array Value):List FT->Bool->Prop
  |nil:EqC P n xs ys [] true
  |one {t o:Nat} {ts:List FT} {u v:Value} {b q:Bool} (hA:aggOf P t=some false) (hu:xs[o]? =some u) (hv:ys[o]? =some v) (he:EqAt P n t u v b) (k:EqC P n xs ys ts q):EqC P n xs ys ((false,t,o)::ts) (b && q)
  |agg {t o s:Nat} {ts:List FT} {us vs:Array Value} {b q:Bool} (hA:aggOf P t=some true) (hz:szOf P t=some s) (hu:xs.extract o (o+s)=us) (hv:ys.extract o (o+s)=vs) (he:EqAt P n t (.agg us) (.agg vs) b) (k:EqC P n xs ys ts q):EqC P n xs ys ((false,t,o)::ts) (b && q)
theorem EqAt.up{P:Program}{n m:Nat}{T:TypeId}{u v:Value}{b:Bool}(h:EqAt P n T u v b)(hm:n<=m):EqAt P m T u v b:=λd w=>by
  have:=h (d+(m - n)) w
  rwa [show d+(m - n)+n=d+m by omega]at this
theorem EqC.run{P : Program}{n : Nat}{xs ys : Array Value}{ts : List FT}{q : Bool}(h : EqC P n xs ys ts q) : ∀ (fs : List Field), (fs.map fun f => (f.name == "_", f.type, f.offset)) = ts → ∀ d w, (Op.eqFields (d + n) xs ys fs).run P w = .ok q w := by
  induction h with
  | nil => intro fs hf d w; have : fs = [] := by simpa using hf
           subst this;simp [Op.eqFields]
  | @one t o ts u v b q hA hu hv he k ih=>
    intro fs hf d w;cases fs with
    |nil=>simp at hf
    |cons f fs=>
      simp only [List.map_cons,List.cons.injEq,Prod.mk.injEq]at hf;obtain ⟨⟨h1,h2,h3⟩,h4⟩:=hf
      have h1 : f.name ≠ "_" := by simpa using h1
      simp only [Op.eqFields,h1,h2,h3,ne_eq,not_false_eq_true,if_true,Sem.run_bind,ZF hA hu,ZF hA hv,Result.andThen_ok,he d w];cases b
      · simp
      simp [ih fs h4 d w]
  | @agg t o s ts us vs b q hA hz hu hv he k ih=>
    intro fs hf d w;cases fs with
    |nil=>simp at hf
    |cons f fs=>
      simp only [List.map_cons,List.cons.injEq,Prod.mk.injEq]at hf;obtain ⟨⟨h1,h2,h3⟩,h4⟩:=hf
      have h1 : f.name ≠ "_" := by simpa using h1
      simp only [Op.eqFields,h1,h2,h3,ne_eq,not_false_eq_true,if_true,Sem.run_bind,r0_ hA hz,hu,hv,Result.andThen_ok,he d w];cases b
      · simp
      simp [ih fs h4 d w]
theorem EqAt.struct{P:Program}{n:Nat}{T:TypeId}{xs ys:Array Value}{ts:List FT}{q:Bool}(hu:P.underlying T=some (.struct (P.fieldsOf T)))(hp:P.stoodInHeld T=false)(hf:fieldsB P T=ts)(h:EqC P n xs ys ts q):EqAt P (n+1) T (.agg xs) (.agg ys) q:=λd w=>by
  rw [<-Nat.add_assoc,run_equalIn_struct w (d+n) T xs ys hu hp];exact h.run _ hf d w
theorem EqAt.of{P:Program}{n:Nat}{T:TypeId}{u v:Value}{b b':Bool}(h:EqAt P n T u v b)(e:b=b'):EqAt P n T u v b':=e▸h
theorem EqAt.int{P:Program}{T:TypeId}{k:IntKind}(hT:P.underlying T=some (.int k))(a b:Int):EqAt P 1 T (.int k a) (.int k b) (decide (a=b)):=λd w=>by
  rw [run_equalIn_int w d T k k a b hT];rfl
theorem EqAt.bool{P:Program}{T:TypeId}(hT:P.underlying T=some .bool)(a b:Bool):EqAt P 1 T (.bool a) (.bool b) (decide (a=b)):=λd w=>by
  rw [run_equalIn_bool w d T a b hT];cases a<;>cases b<;>rfl
theorem EqAt.str{P:Program}{T:TypeId}(hT:P.underlying T=some .string)(a b:List UInt8):EqAt P 1 T (.string (bs a)) (.string (bs b)) (decide (a=b)):=λd w=>by
  rw [run_equalIn_string w d T (bs a) (bs b) hT,yr_]
theorem EqAt.set{P:Program}{T E:TypeId}(hT:P.underlying T=some (.array 4 E))(hE:P.underlying E=some (.int .u64))(hA:aggOf P E=some false)(hz:szOf P E=some 1)(a b:BSet):EqAt P 2 T (.agg (setA a)) (.agg (setA b)) (decide (a=b)):=λd w=>by
  have h:=p2_ (P:=P) (k:= .u64) d hT hE hA hz (a.a:Nat) (a.b:Nat) (a.c:Nat) (a.d:Nat) (b.a:Nat) (b.b:Nat) (b.c:Nat) (b.d:Nat) w;rw [show decide (a=b)=decide (((a.a:Nat):Int)=(b.a:Nat)/\((a.b:Nat):Int)=(b.b:Nat)/\((a.c:Nat):Int)=(b.c:Nat)/\((a.d:Nat):Int)=(b.d:Nat))from by rw [decide_eq_decide];exact BSet.eq_iff a b];exact h
section
variable {P:Program} {n m:Nat} {e:Env} {σ:aj} {H:List Res} {o:Oper} {x y:Operand} {T T':TypeId} {xs ys:Array Value} {p:Prop} [Decidable p]
theorem OpVal.eqlSt(ho:o.op= .binOp .eql T x y T')(hx:ev e x= .agg xs)(hy:ev e y= .agg ys)(hg:P.eqGuardType P.depth T=false)(h:EqAt P m T (.agg xs) (.agg ys) (decide p))(hm:Nat.ble m 10000=true):OpVal P n o e σ H (.bool (decide p)):=λw _=>by
  have hm:=Nat.le_of_ble_eq_true hm;have h1:=h (10000 - m) w;rw [Nat.sub_add_cancel hm]at h1;simp only [execOp,ho,hx,hy,Sem.run_bind,run_eqGuard_agg _ _ _ _ _ _ _ hg,Result.andThen_ok];rw [ij_ (by simp) h1 rfl];rfl
theorem OpVal.neqSt(ho:o.op= .binOp .neq T x y T')(hx:ev e x= .agg xs)(hy:ev e y= .agg ys)(hg:P.eqGuardType P.depth T=false)(h:EqAt P m T (.agg xs) (.agg ys) (decide p))(hm:Nat.ble m 10000=true):OpVal P n o e σ H (.bool (decide (¬ p))):=λw _=>by
  have hm:=Nat.le_of_ble_eq_true hm;have h1:=h (10000 - m) w;rw [Nat.sub_add_cancel hm]at h1;simp only [execOp,ho,hx,hy,Sem.run_bind,run_eqGuard_agg _ _ _ _ _ _ _ hg,Result.andThen_ok,decide_not];rw [mp_ (by simp) h1 rfl];rfl
end
def Dy(P:Program)(n:Nat)(T:TypeId)(v:Value):Prop:= ∀d c w,(Instr.checkKey c (d+n) T v).run P w= .ok () w
inductive CkC (P:Program) (n:Nat) (xs:Array Value):List FT->Prop
  |nil:CkC P n xs []
  |one {t o:Nat} {ts:List FT} {u:Value} (hA:aggOf P t=some false) (hu:xs[o]? =some u) (he:Dy P n t u) (k:CkC P n xs ts):CkC P n xs ((false,t,o)::ts)
  |agg {t o s:Nat} {ts:List FT} {us:Array Value} (hA:aggOf P t=some true) (hz:szOf P t=some s) (hu:xs.extract o (o+s)=us) (he:Dy P n t (.agg us)) (k:CkC P n xs ts):CkC P n xs ((false,t,o)::ts)
theorem Dy.up{P:Program}{n m:Nat}{T:TypeId}{u:Value}(h:Dy P n T u)(hm:n<=m):Dy P m T u:=λd c w=>by
  have:=h (d+(m - n)) c w
  rwa [show d+(m - n)+n=d+m by omega]at this
theorem Dy.int{P:Program}{T:TypeId}{k:IntKind}(hT:P.underlying T=some (.int k))(a:Int):Dy P 1 T (.int k a):=λd c w=>by simp [Instr.checkKey,run_underlying hT]
theorem Dy.bool{P:Program}{T:TypeId}(hT:P.underlying T=some .bool)(a:Bool):Dy P 1 T (.bool a):=λd c w=>by simp [Instr.checkKey,run_underlying hT]
theorem iq_{P:Program}{α:Type}{w:World}(f:α->PUnit->Sem (ForInStep PUnit)): ∀(l:List α),(∀a∈l,(f a PUnit.unit).run P w= .ok (.yield PUnit.unit) w)->(forIn l PUnit.unit f).run P w= .ok PUnit.unit w
  |[],_=>by simp
  |a::l,h=>by
    rw [List.forIn_cons,Sem.run_bind,h a (iU ..),Result.andThen_ok];exact iq_ f l λb hb=>h b (rM _ hb)
theorem Dy.set{P:Program}{T E:TypeId}(hT:P.underlying T=some (.array 4 E))(hE:P.underlying E=some (.int .u64))(hA:aggOf P E=some false)(hz:szOf P E=some 1)(s:BSet):Dy P 2 T (.agg (setA s)):=λd c w=>by
  have h0: ∀a,(Instr.checkKey c (d+1) E (.int .u64 a)).run P w= .ok () w:=λa=>Dy.int hE a d c w;rw [Instr.checkKey];simp only [Sem.run_bind,run_underlying hT,Result.andThen_ok,Std.Legacy.Range.forIn_eq_forIn_range',Std.Legacy.Range.size,Nat.sub_zero,Nat.add_sub_cancel,Nat.div_one];rw [iq_]
  · rfl
  intro i hi;have hi4:i<4:=by
    have:=List.mem_range'.1 hi;omega
  have hp:(part E (setA s) i).run P w= .ok (.int .u64 (s.word i:Nat)) w:=ZF hA (rc_ s hi4) w;simp only [Sem.run_bind,xX hz,Result.andThen_ok,Nat.mul_one,hp,h0,Sem.run_pure]
def Bits(v:Value):Prop:= ∀n,Instr.sameBits n v v=true
theorem mb_{cs:Array Value}(h: ∀u∈cs.toList,Bits u)(n:Nat):Instr.sameBits (n+1) (.agg cs) (.agg cs)=true:=by
  rw [Instr.sameBits];simp only [beq_self_eq_true,Bool.true_and,List.all_eq_true];rintro ⟨a,b⟩ hab;have h1:=List.of_mem_zip hab;have h2:a=b:=by
    obtain ⟨i,hi⟩:=List.mem_iff_getElem?.1 hab;rw [List.getElem?_zip_eq_some]at hi;exact Option.some.inj (hi.1.symm.trans hi.2)
  subst h2;exact h a h1.1 n
theorem Bits.int(k:IntKind)(a:Int):Bits (.int k a):=λn=>by cases n<;>(rw [Instr.sameBits];simp)
theorem Bits.bool(a:Bool):Bits (.bool a):=λn=>by cases n<;>(rw [Instr.sameBits];simp)
theorem ul_{P:Program}{T E:TypeId}(hT:P.underlying T=some (.array 4 E))(hE:P.underlying E=some (.int .u64))(hA:aggOf P E=some false)(hz:szOf P E=some 1):KeyL P T vk:=
  KeyL.asking hT (λx y=>rfl) (λx y w=>by
    have:=EqAt.set hT hE hA hz x y 9998 w;show (Op.equal T (.agg (setA x)) (.agg (setA y))).run P w=_;simpa [Op.equal,Op.maxDepth]using this) (λx c w=>Dy.set hT hE hA hz x 9998 c w) (λx=>mb_ (by
    intro u hu;simp [setA]at hu;rcases hu with rfl|rfl|rfl|rfl<;>exact Bits.int _ _) 9999)
def Yf(a b:Nat):Nat:=(a+b) % 18446744073709551616
def UL(a b:Nat):Nat:=a * b % 18446744073709551616
def Lu(a b:Nat):Nat:=(BitVec.ofNat 64 a &&& BitVec.ofNat 64 b).toNat
def Qo(a b:Nat):Nat:=(BitVec.ofNat 64 a ||| BitVec.ofNat 64 b).toNat
def u64shl(a b:Nat):Nat:=a * 2 ^ (min b 64) % 18446744073709551616
def DT(a b:Nat):Nat:=a / 2 ^ (min b 64)
def AP(a:Int):Nat:=(a % 18446744073709551616).toNat
theorem ll_(a:Int):IntKind.u64.wrap a=a % 18446744073709551616:=by simp [IntKind.wrap,IntKind.bits,IntKind.signed]
theorem so_(a:Int):((AP a:Nat):Int)=IntKind.u64.wrap a:=by rw [ll_,AP];omega
theorem bv_of(a:Nat):BitVec.ofInt IntKind.u64.bits (a:Int)=BitVec.ofNat 64 a:=by simp [IntKind.bits,BitVec.ofInt_natCast]
theorem x1_(b:BitVec 64):IntKind.u64.wrap (b.toNat:Int)=(b.toNat:Int):=by rw [ll_];have:=b.isLt;omega
section
variable {P:Program} {n:Nat} {e:Env} {σ:aj} {H:List Res} {o:Oper} {x y:Operand} {T T':TypeId} {a b:Nat}
theorem OpVal.addU(ho:o.op= .binOp .add T x y T')(hx:ev e x= .int .u64 (a:Nat))(hy:ev e y= .int .u64 (b:Nat)):OpVal P n o e σ H (.int .u64 ((Yf a b:Nat):Int)):=by
  have:=OpVal.addW (P:=P) (n:=n) (σ:=σ) (H:=H) ho hx hy;rw [ll_]at this;rw [show ((Yf a b:Nat):Int)=((a:Int)+(b:Int)) % 18446744073709551616 from by unfold Yf;omega];exact this
theorem OpVal.mulU(ho:o.op= .binOp .mul T x y T')(hx:ev e x= .int .u64 (a:Nat))(hy:ev e y= .int .u64 (b:Nat)):OpVal P n o e σ H (.int .u64 ((UL a b:Nat):Int)):=by
  have:=OpVal.mulW (P:=P) (n:=n) (σ:=σ) (H:=H) ho hx hy;rw [ll_]at this;rw [show ((UL a b:Nat):Int)=((a:Int) * (b:Int)) % 18446744073709551616 from by unfold UL;rw [Int.natCast_emod,Int.natCast_mul];rfl];exact this
theorem OpVal.andU(ho:o.op= .binOp .and T x y T')(hx:ev e x= .int .u64 (a:Nat))(hy:ev e y= .int .u64 (b:Nat)):OpVal P n o e σ H (.int .u64 ((Lu a b:Nat):Int)):= .bin ho hx hy λw=>by
  simp only [binOp,ne_eq,not_true_eq_false,if_false,Op.intBits,bv_of];exact congrArg (λz=>Result.ok (Value.int .u64 z) w) (x1_ (BitVec.ofNat 64 a &&& BitVec.ofNat 64 b))
theorem OpVal.orU(ho:o.op= .binOp .or T x y T')(hx:ev e x= .int .u64 (a:Nat))(hy:ev e y= .int .u64 (b:Nat)):OpVal P n o e σ H (.int .u64 ((Qo a b:Nat):Int)):= .bin ho hx hy λw=>by
  simp only [binOp,ne_eq,not_true_eq_false,if_false,Op.intBits,bv_of];exact congrArg (λz=>Result.ok (Value.int .u64 z) w) (x1_ (BitVec.ofNat 64 a ||| BitVec.ofNat 64 b))
theorem OpVal.shlU{k:IntKind}(ho:o.op= .binOp .shl T x y T')(hx:ev e x= .int .u64 (a:Nat))(hy:ev e y= .int k (b:Nat)):OpVal P n o e σ H (.int .u64 ((u64shl a b:Nat):Int)):=λw _=>by
  have h0: ¬ (b:Int)<0:=by omega
  simp only [execOp,ho,hx,hy,Sem.run_bind,f6_,Result.andThen_ok,binOp,Op.shift,h0,if_false,nI,ll_,u64shl,IntKind.bits];rw [show (a:Int) * 2 ^ min b 64 % 18446744073709551616=((a * 2 ^ min b 64 % 18446744073709551616:Nat):Int)from by rw [Int.natCast_emod,Int.natCast_mul,Int.natCast_pow];rfl];rfl
theorem OpVal.shrU{k:IntKind}(ho:o.op= .binOp .shr T x y T')(hx:ev e x= .int .u64 (a:Nat))(hy:ev e y= .int k (b:Nat)):OpVal P n o e σ H (.int .u64 ((DT a b:Nat):Int)):=λw _=>by
  have h0: ¬ (b:Int)<0:=by omega
  have h2:(a:Int).fdiv (2 ^ min b 64)=((a / 2 ^ min b 64:Nat):Int):=by
    rw [Int.fdiv_eq_ediv_of_nonneg _ (by exact_mod_cast Nat.zero_le _)];exact_mod_cast rfl
  simp only [execOp,ho,hx,hy,Sem.run_bind,f6_,Result.andThen_ok,binOp,Op.shift,h0,if_false,nI,DT,IntKind.bits,h2];rfl
theorem OpVal.convU{k:IntKind}{i:Int}{d:TypeDesc}{S:TypeId}(ho:o.op= .convert S T x)(hs:P.underlying S=some d)(ht:P.underlying T=some (.int .u64))(hx:ev e x= .int k i):OpVal P n o e σ H (.int .u64 ((AP i:Nat):Int)):=by
  rw [so_];exact OpVal.bx_ ho hs ht hx
theorem OpVal.eqlU{k:IntKind}(ho:o.op= .binOp .eql T x y T')(hx:ev e x= .int k (a:Nat))(hy:ev e y= .int k (b:Nat)):OpVal P n o e σ H (.bool (decide (a=b))):=OpVal.eqlN ho hx hy
theorem OpVal.neqU{k:IntKind}(ho:o.op= .binOp .neq T x y T')(hx:ev e x= .int k (a:Nat))(hy:ev e y= .int k (b:Nat)):OpVal P n o e σ H (.bool (decide (a≠b))):=by
  have:=OpVal.neq (P:=P) (n:=n) (σ:=σ) (H:=H) ho hx hy
  rwa [show decide ((a:Int)≠(b:Int))=decide (a≠b)from by rw [decide_eq_decide];omega]at this
theorem OpVal.lssU{k:IntKind}(ho:o.op= .binOp .lss T x y T')(hx:ev e x= .int k (a:Nat))(hy:ev e y= .int k (b:Nat)):OpVal P n o e σ H (.bool (decide (a<b))):=by
  have:=OpVal.lss (P:=P) (n:=n) (σ:=σ) (H:=H) ho hx hy
  rwa [show decide ((a:Int)<(b:Int))=decide (a<b)from by rw [decide_eq_decide];omega]at this
theorem OpVal.gtrU{k:IntKind}(ho:o.op= .binOp .gtr T x y T')(hx:ev e x= .int k (a:Nat))(hy:ev e y= .int k (b:Nat)):OpVal P n o e σ H (.bool (decide (b<a))):=by
  have:=OpVal.gtr (P:=P) (n:=n) (σ:=σ) (H:=H) ho hx hy
  rwa [show decide ((b:Int)<(a:Int))=decide (b<a)from by rw [decide_eq_decide];omega]at this
end
def encW(x:Nat):List Value:=[.int .u64 (x:Nat)]
theorem uj_(x:Nat):(encW x).length=1:=rfl
theorem u7_: ∀x, ∀u∈encW x,u.oneCell'=true:=λx u hu=>by simp [encW]at hu;subst hu;rfl
def oQ(x:BSet):List Value:=(setA x).toList
theorem Ei(x:BSet):(oQ x).length=4:=rfl
theorem vz_: ∀x, ∀u∈oQ x,u.oneCell'=true:=z3_
def Rdb(w:World)(v:Value)(xs:List Value):Prop:= ∀a m c,v= .slice (some a) m c-> ∀j u,xs[j]? =some u->w.cell? (a.add j)=some u
theorem rdb_row{α:Type}{σ:aj}{H:List Res}{E size q:Nat}{enc:α->List Value}{v:Value}{l:List α}{w:World}(hq:H[q]? =some (ε E size enc v l))(hw:kH σ H w):Rdb w v (l.flatMap enc):=by
  intro a m c hv j u hj;have hown:=(hw.2 _ (List.mem_of_getElem? hq)).1;subst hv;obtain ⟨h1,h2⟩:=hown;rcases h2 with ⟨h2,_⟩|⟨g,cap,cur,h2,_,hg,h3,h4,h5,h6⟩
  · cases h2
  cases h2;rw [EK];have hj2:=(List.getElem?_eq_some_iff.1 hj).1;rw [<-h6,List.getElem?_take]at hj
  split at hj
  · simp only [World.cell?,hg,Option.isSome_none,Bool.false_eq_true,if_false,Nat.zero_add]
    rw [<-Array.getElem?_toList];exact hj
  cases hj
theorem OpVal.bg_{P:Program}{n:Nat}{e:Env}{σ:aj}{H:List Res}{o:Oper}{x:Operand}{S T E m c:Nat}{a:Option Addr}{l:List UInt8}(ho:o.op= .convert S T x)(hs:P.underlying S=some (.slice E))(he:P.underlying E=some (.int .u8))(ht:P.underlying T=some .string)
    (hx:ev e x= .slice a m c) (hl:uo (.slice a m c) l.length) (hr: ∀w,kH σ H w->Rdb w (.slice a m c) (l.flatMap jo)):OpVal P n o e σ H (.string (bs l)):=λw hw=>by
  obtain ⟨a',c',hv,hn,hc⟩:=hl;cases hv;cases a with
  |none=>
    obtain ⟨h1,_⟩:=hn rfl;have hl0:l=[]:=FV h1;subst hl0;have:=run_convert_bytes_nil (P:=P) w S E hs he 0 c T ht;simp only [execOp,ho,hx];simp only [List.length_nil,Sem.run_bind,this,Result.andThen_ok,Sem.run_pure];rfl
  |some ad=>
    have hcell:=hr w hw ad _ c rfl;have h1:(loadCells ad l.length).run P w= .ok ((l.map λb=>(b.toNat:Int)).map (Value.int .u8)).toArray w:=by
      have:=run_loadCells_list (P:=P) w ad ((l.map λb=>(b.toNat:Int)).map (Value.int .u8)) (λj v hj=>hcell j v (by rw [x0_];simpa using hj));simpa using this
    have h2:=run_convert_bytes_string (P:=P) w S T E (some ad) l.length c hs he ht;have h3:=run_bytesToString (P:=P) w ad l.length c (l.map λb=>(b.toNat:Int)) h1;have h4:(⟨(ByteArray.empty.data++(((l.map λb=>(b.toNat:Int)).map λn=>UInt8.ofNat n.toNat)).toArray)⟩:ByteArray)=bs l:=by
      simp [bs,ByteArray.empty,ByteArray.emptyWithCapacity,Function.comp_def];rfl
    rw [foldl_push_bytes,h4]at h3;simp only [execOp,ho,hx,Sem.run_bind,h2,h3,Result.andThen_ok,Sem.run_pure]
theorem OpVal.cmpStr{P : Program}{n : Nat}{e : Env}{σ : aj}{H : List Res}{o : Oper}{x p q : Operand}{ts : Array TypeId}{J : FuncId}{fn : Func}{a b : List UInt8}(ho : o.op = .call { callee := .value x, args := #[p, q], argTypes := ts })(hx : ev e x = .func (.func J) #[] #[])(hf : P.funcs[J]? = some fn)(hname : (fn.name == "runtime.NumGoroutine") = false)
    (hb:fn.body.isNone=true) (hn:Extern.findNext fn=none) (he:Extern.find fn=some Extern.BytealgCompare.compare) (hp:ev e p= .string (bs a)) (hq:ev e q= .string (bs b)):OpVal P n o e σ H (.int .i64 (Lib.compareBytes a b)):=λw _=>by
  have h:=run_callFunc_extern hf hname hb hn he #[.string (bs a),.string (bs b)] w;rw [Lib.run_compareString]at h;simp [execOp,ho,resolve,Deferred.ofValue,invoke,hx,hp,hq,h,Result.andThen,l8_]
structure VwOk (v u:Value) (size k n:Nat):Prop where
  sl:uo u n
  el: ∀j,j<n->lF u (j * size)=lF v ((k+j) * size)
theorem VwOk.self{v:Value}{size n:Nat}(h:uo v n):VwOk v v size 0 n:=⟨h,λj _=>by rw [Nat.zero_add]⟩
theorem wh_{a:Option Addr}{m c size k:Nat}(h:uo (.slice a m c) m)(hk:k<=m): ∃(a':Option Addr) (c':Nat),VwOk (.slice a m c) (.slice a' (m - k) c') size k (m - k)/\
    ∀{P:Program} {n:Nat} {e:Env} {σ:aj} {H:List Res} {o:Oper} {x z:Operand} {T E:TypeId} {kk:IntKind} (_:o.op= .slice T x (some z) none none) (_:P.underlying T=some (.slice E)) (_:szOf P E=some size) (_:ev e x= .slice a m c) (_:ev e z= .int kk (k:Nat)),OpVal P n o e σ H (.slice a' (m - k) c'):=by
  obtain ⟨a1,c1,hv,hn,hc⟩:=h;cases hv;refine ⟨if c=k then a else a.map (·.add (k * size)),c - k,⟨⟨_,_,rfl,λha=> ?_,by omega⟩,λj hj=> ?_⟩,?_⟩
  · split at ha
    · obtain ⟨h1,h2⟩:=hn ha;omega
    cases a with
    |none=>obtain ⟨h1,h2⟩:=hn rfl;omega
    |some ad=>simp at ha
  · have hck: ¬ c=k:=by omega
    rw [if_neg hck];cases a with
    |none=>obtain ⟨h1,h2⟩:=hn rfl;omega
    |some ad=>simp only [lF,Option.map_some];rw [Yv,Nat.add_mul]
  intro P n e σ H o x z T E kk ho hT hs hx hz w _;have hsz:=xX (P:=P) hs;have hrun:(Instr.slice T (.slice a m c) (some (.int kk k)) none none).run P w= .ok (.slice (if c=k then a else a.map (·.add (k * size))) (m - k) (c - k)) w:=by
    simp [Instr.slice,Instr.sliceBounds,Instr.sliceBound,asIntOf,run_underlying hT,hsz];intro hlt;omega
  simp [execOp,ho,hx,hz,Instr.sliceAt,run_underlying hT,hrun]
theorem OpVal.elVw{P:Program}{n:Nat}{e:Env}{σ:aj}{H:List Res}{o:Oper}{v u:Value}{size k m j:Nat}(hv:VwOk v u size k m)(hj:j<m)(h:OpVal P n o e σ H (lF u (j * size))):OpVal P n o e σ H (lF v ((k+j) * size)):=hv.el j hj▸h
theorem o6_{α:Type}{enc:α->List Value}{size:Nat}{z:Value}(x0:α)(hz:z.cells.toList=enc x0)(hl: ∀x,(enc x).length=size)(m:Nat)(h0:0<size):(Builtin.zeroCells z.cells m).toList=(List.replicate m x0).flatMap enc:=by
  have:=hq_ z x0 hz m (by rw [hl];exact h0);rw [hl]at this;rw [<-this];have hzs:z.cells.size=size:=by rw [<-Array.length_toList,hz,hl]
  simp [Builtin.zeroCells,madeCells,hzs]
theorem wp_{α:Type}{enc:α->List Value}{size:Nat}(hl: ∀x,(enc x).length=size)(l:List α)(k:Nat)(x0:α)(hk:k<=l.length):
    pI (l.flatMap enc) (k * size) ((List.replicate (l.length - k) x0).flatMap enc)=(l.take k++List.replicate (l.length - k) x0).flatMap enc:=by
  rw [List.flatMap_append,pI,k2_ hl];have h1:((List.replicate (l.length - k) x0).flatMap enc).length=(l.length - k) * size:=by rw [uf hl,oI]
  rw [h1];have h2:(l.flatMap enc).length=l.length * size:=uf hl l;rw [List.drop_of_length_le (by rw [h2,<-Nat.add_mul];exact Nat.mul_le_mul_right _ (by omega)),List.append_nil]
theorem OpOk.cw_{X:Ctx}{e:Env}{σ:aj}{F:List Res}{o:Oper}{x:Operand}{K:Env->aj->List Res->Prop}{α:Type}{T E size k m':Nat}{enc:α->List Value}{zv v u:Value}{l:List α}(x0:α)(ho:o.op= .call {callee:= .builtin .clear,args:= #[x],argTypes:= #[T]})(ht:X.P.underlying T=some (.slice E))(hz:zeroOf X.P E=some zv)
    (hd:o.dst=none) (hx:ev e x=u) (hv:VwOk v u size k m') (hm:l.length - k=m') (hk:k<=l.length) (hl: ∀x,(enc x).length=size) (h0:0<size) (hz0:zv.cells.toList=enc x0) (h1: ∀x, ∀u∈enc x,u.oneCell'=true)
    (kk:K e σ (ε E size enc v (l.take k++List.replicate (l.length - k) x0)::F)):OpOk X o e σ (ε E size enc v l::F) K:=by
  subst hm;intro u0 C0 τ0 w a hw ha K' Q hK;obtain ⟨hown,hone,hbg⟩:=hw.holds _ (iU ..);have hlen:(l.take k++List.replicate (l.length - k) x0).length=l.length:=by simp;omega
  obtain ⟨a',c',rfl,hn,hc⟩:=hv.sl
  by_cases hkl:k=l.length
  · subst hkl
    have e1:l.take l.length++List.replicate (l.length - l.length) x0=l:=by simp
    rw [e1]at kk;have hrun:(Builtin.clear_ #[T] o.type #[.slice a' (l.length - l.length) c']).run X.P w= .ok (.tuple #[]) w:=by
      rw [Nat.sub_self];cases a'<;>simp [Builtin.clear_,run_underlying ht]
    refine Oper.wG (v:= .tuple #[]) (w':=w) ?_ (hK _ _ _ _ _ kk hw (by rw [hd];exact ⟨ha,rfl⟩));rw [ha.eval'];rw [Nat.sub_self]at hrun;simp [execOp,ho,resolve,invoke,builtin,hx,hrun]
  have hj:0<l.length - k:=by omega
  have hel:=hv.el 0 hj;cases a' with
  |none=>obtain ⟨h2,_⟩:=hn rfl;omega
  |some ad=>
    rcases id hown.2 with ⟨hvn,hmn⟩|⟨g,cap,cur,rfl,_⟩
    · omega
    simp only [lF,Nat.zero_mul,Nat.add_zero]at hel;have had:ad=⟨g,k * size,none⟩:=by
      have h3:(ad.add 0)=(⟨g,0,none⟩:Addr).add (k * size):=by injection hel with h;injection h
      rw [EK]at h3;simpa [Addr.add]using h3
    subst had;have hzl:=o6_ (size:=size) x0 hz0 hl (l.length - k) h0;obtain ⟨w',hst,hown',hgr,hdr⟩:=World.ownsRow.spliced X.P hown (k:=k * size) (vs:=(List.replicate (l.length - k) x0).flatMap enc) (by rw [uf hl,uf hl,oI,<-Nat.add_mul];exact Nat.mul_le_mul_right _ (by omega)) (λu hu=>by
      obtain ⟨q,_,hq⟩:=List.mem_flatMap.1 hu;exact h1 q u hq)
    rw [wp_ hl l k x0 hk]at hown';have hrun:(Builtin.clear_ #[T] o.type #[.slice (some ⟨g,k * size,none⟩) (l.length - k) c']).run X.P w= .ok (.tuple #[]) w':=by
      have hne:l.length - k≠0:=by omega
      simp only [Builtin.clear_];simp [run_underlying ht,PZ hz,hzl,hst]
    have hR:Reach u0 C0 τ0 σ w' (ε E size enc (.slice (some ⟨g,0,none⟩) l.length cap) (l.take k++List.replicate (l.length - k) x0)::F):=by
      refine hw.F7 (some g) (some g) rfl rfl hgr.os hgr.tape hgr.output hgr.size hdr (λq hq hne=>hgr.block q hq (λhx=>hne (by cases hx;rfl))) ?_ (λq hq=> .inl hq);show _/\_/\_;rw [hlen];refine ⟨hown',λu hu=> ?_,hbg⟩;obtain ⟨q,_,hq⟩:=List.mem_flatMap.1 hu;exact h1 q u hq
    refine Oper.wG (v:= .tuple #[]) (w':=w') ?_ (hK _ _ _ _ _ kk hR (by rw [hd];exact ⟨ha,rfl⟩));rw [ha.eval'];simp [execOp,ho,resolve,invoke,builtin,hx,hrun]
theorem RS.dd_{α:Type}{τ:aj}{b k m E:Nat}{cs:Array Value}{enc:α->List Value}{l:List α}(h:τ b=some (.cells cs E (0,0)))(hl: ∀x,(enc x).length=1)(h1: ∀x, ∀u∈enc x,u.oneCell'=true)(hk:(cs.toList.drop k).take m=l.flatMap enc)(hm:l.length=m)(hb:Nat.ble l.length 281474976710656=true):RS τ 1 enc (.slice (some ⟨b,k,none⟩) m m) l:=by
  subst hm;refine ⟨⟨⟨_,_,rfl,(λh=>by cases h),Nat.le_refl _⟩,uf hl l,?_,λu hu=> ?_,Nat.le_of_ble_eq_true hb⟩,hl⟩
  · intro a m c hv j u hj
    cases hv;rw [EK];unfold aj.cell;simp only [h,Option.isSome_none,Bool.false_eq_true,if_false];rw [<-hk,List.getElem?_take]at hj
    split at hj
    · rw [List.getElem?_drop,Array.getElem?_toList]at hj;exact hj
    cases hj
  obtain ⟨q,_,hq⟩:=List.mem_flatMap.1 hu;exact h1 q u hq
theorem Con.lendC{P:Program}{f:FuncId}{args:Array Value}{σ:aj}{F:List Res}{r:Value}{b E:Nat}{cs:Array Value}
    (h: ∀τ,σ.le τ->τ b=some (.cells cs E (0,0))->Con P f args τ F (yo_ r τ F)):Con P f args σ (ω b cs E::F) (yo_ r σ (ω b cs E::F)):=by
  intro w hw;have ho:w.heap[b]? =some (.cells cs E (0,0)):=hw.holds _ (iU ..);obtain ⟨h1,h2⟩:=hw.sealB (b:=b) rfl ho;have h3:σ.with b (.cells cs E (0,0)) b=some (.cells cs E (0,0)):=by simp [aj.with]
  generalize σ.with b (.cells cs E (0,0))=τ at h1 h2 h3;have h0:Reach w (fJ F) τ τ w F:=⟨rfl,rfl,rfl,Nat.le_refl _,λ_ _ _=>rfl,aj.le.refl _,h1.fit,λb o hb=> .inl hb,h1.holds,λr hr b hb=> .inl (xk.2 ⟨r,hr,hb⟩),h1.nodup,h1.apart,Nat.le_refl _⟩;refine (h τ h2 h3 w h0).mono λex w' ⟨r',σ',H',he,⟨e1,e2,e3⟩,k⟩=> ?_;subst e1 e2 e3;refine ⟨r',σ,_,he,⟨rfl,rfl,rfl⟩,?_⟩;have hb:b<w.heap.size/\b∉fJ H':=by
    refine ⟨(Array.getElem?_eq_some_iff.1 ho).1,λhx=> ?_⟩;have hnd:=hw.nodup;simp only [fJ,List.flatMap_cons]at hnd;exact (Yz.1 hnd).2.2 b (by simp [ω]) hx
  have hframe: ∀i,i<w.heap.size->i∉fJ H'->w'.heap[i]? =w.heap[i]? :=k.frame;refine ⟨k.os,k.tape,k.output,k.size,?_,aj.le.refl _,λb o hs=>k.fit b o (h2 b o hs),λb o hs=> .inl hs,?_,?_,?_,?_,k.drawn⟩
  · intro i hi hn
    refine hframe i hi λhx=>hn ?_;obtain ⟨r2,hr2,hb2⟩:=xk.1 hx;exact xk.2 ⟨r2,rM _ hr2,hb2⟩
  · intro r2 hr2
    rcases List.mem_cons.1 hr2 with rfl|hr2
    · exact (ω b cs E).keep w w' (λc hc=>by rw [List.mem_singleton.1 hc];exact hframe b hb.1 hb.2) ho
    exact k.holds r2 hr2
  · intro r2 hr2 b hb2
    exact .inl (xk.2 ⟨r2,hr2,hb2⟩)
  · exact hw.nodup
  intro r2 hr2 b hb2;exact hw.apart r2 hr2 b hb2
theorem OpVal.co_{P:Program}{n:Nat}{e:Env}{σ:aj}{H:List Res}{o:Oper}{x:Operand}{T E m b k s:Nat}(ho:o.op= .slice T x none none none)(ht:P.underlying T=some (.array m E))(hs:szOf P E=some s)(hx:ev e x=loc b k):OpVal P n o e σ H (.slice (some ⟨b,k,none⟩) m m):=λw _=>by
  have hsz:=xX (P:=P) hs;simp [execOp,ho,hx,loc,Instr.sliceAt,Instr.sureAddr,run_underlying ht,Instr.slice,Instr.sliceBounds,Instr.sliceBound,hsz,Addr.add]
theorem oU{H B:List Res}(is:List Nat)(h:is.map (λi=>H[i]?)=B.map some){r:Res}(hr:r∈B):r∈H:=by
  have h1:some r∈B.map some:=List.mem_map.2 ⟨r,hr,rfl⟩;rw [<-h]at h1;obtain ⟨i,_,hi⟩:=List.mem_map.1 h1;exact List.mem_of_getElem? hi
end Go.E
end

noncomputable section
namespace Go.E
open Go Go.Sort Go.Proofs Go.Shelf
theorem Reach.grown{w w':World}{σ:aj}{H:List Res}(h:Reach w [] (λ_=>none) σ w' H): ∃q os',w'=grow (w.drewN q) os':=by
  refine ⟨w'.drawn - w.drawn,w'.heap.extract w.heap.size w'.heap.size,?_⟩;have h1:w'.heap=w.heap++w'.heap.extract w.heap.size w'.heap.size:=by
    apply Array.ext_getElem?;intro i;rw [Array.getElem?_append]
    split
    · rename_i hi;exact h.frame i hi (by simp)
    rename_i hi
    by_cases hl:i<w'.heap.size
    · rw [Array.getElem?_extract_of_lt (by omega)];simp only [show w.heap.size+(i - w.heap.size)=i by omega];exact Array.getElem?_eq_getElem hl
    rw [Array.getElem?_eq_none (by omega),Array.getElem?_eq_none (by simp;omega)]
  have h2:=h.drawn;cases w' with
  |mk heap tape drawn os output=>
    have e1:=h.os;have e2:=h.tape;have e3:=h.output;simp only at h1 h2 e1 e2 e3;simp only [grow,World.drewN];rw [World.mk.injEq];exact ⟨h1,e2,by omega,e1,e3⟩
theorem sg_(w:World):Reach w [] (λ_=>none) (λ_=>none) w []:=
  ⟨rfl,rfl,rfl,Nat.le_refl _,λ_ _ _=>rfl,aj.le.refl _,(λ_ _ h=>by cases h),(λ_ _ h=>by cases h),by simp,by simp,by simp [fJ],by simp,Nat.le_refl _⟩
section
variable {α:Type} [Inhabited α] {P:Program}
theorem tj_{g:Nat}{enc:α->Value}{cf:α->α->Int}{blk off size:Nat}{w:World}(h: ∀x y τ,Con P g #[enc x,enc y] τ [] (jq (.int .i64 (cf x y)) τ)):CmpLays1 P g #[] enc cf blk off size w:=by
  intro m os dk _ x y;refine (h x y (λ_=>none) _ (sg_ _)).mono λe w' ⟨r,σ',H',he,⟨hr,_,_⟩,k⟩=>⟨by rw [he,hr],Reach.grown k⟩
theorem v9_{g k:Nat}{enc:α->List Value}{cf:α->α->Int}{blk off size:Nat}{w:World}(h: ∀x y τ,Con P g #[.agg (enc x).toArray,.agg (enc y).toArray] τ [] (jq (.int .i64 (cf x y)) τ)):CmpLays P g #[] enc k cf blk off size w:=by
  intro m os dk _ x y;refine (h x y (λ_=>none) _ (sg_ _)).mono λe w' ⟨r,σ',H',he,⟨hr,_,_⟩,k⟩=>⟨by rw [he,hr],Reach.grown k⟩
end
theorem getBang{α:Type}[Inhabited α](l:List α)(i:Nat)(h:i<l.length):l.toArray[i]! =l[i]:=by simp [h]
theorem Reach.sorted{w0:World}{C:List Nat}{σ0 σ:aj}{w:World}{F:List Res}{E size n cap g m:Nat}{xs xs':List Value}{os:Array Obj}(h:Reach w0 C σ0 σ w (Res.row E size (.slice (some ⟨g,0,none⟩) n cap) n xs::F))(hl:xs'.length=xs.length)(h1: ∀u∈xs',u.oneCell'=true):
    Reach w0 C σ0 σ (grow (putRow (id:Value->Value) (Sort.ahead w m) g 0 xs'.toArray) os) (Res.row E size (.slice (some ⟨g,0,none⟩) n cap) n xs'::F):=by
  obtain ⟨hown,hone,hbg⟩:=h.holds _ (iU ..);obtain ⟨hlen,hc⟩:=hown;rcases hc with ⟨hc,_⟩|⟨g',cap',cur,hv,hb0,hg,h3,h4,h5,h6⟩
  · cases hc
  cases hv;have hgl:g<w.heap.size:=(Array.getElem?_eq_some_iff.1 hg).1;have hnew:(grow (putRow (id:Value->Value) (Sort.ahead w m) g 0 xs'.toArray) os).heap[g]? =some (.cells (putCells (id:Value->Value) 0 xs'.toArray cur) E):=by
    rw [heap_grow_old _ _ (by simpa using hgl)];simp [putRow,mapBlock,Sort.ahead,Array.getElem?_modify,hg,onCells]
  have hold: ∀k,k<w.heap.size->k≠g->(grow (putRow (id:Value->Value) (Sort.ahead w m) g 0 xs'.toArray) os).heap[k]? =w.heap[k]? :=by
    intro k hk hne;rw [heap_grow_old _ _ (by simpa using hk)];have:g≠k:=λe=>hne e.symm;simp [putRow,mapBlock,Sort.ahead,Array.getElem?_modify,this]
  have hcur:xs.length<=cur.size:=by
    have:=congrArg List.length h6;simp at this;omega
  refine h.F7 (some g) (some g) rfl rfl rfl rfl rfl (by simp [grow]) (by simp [grow,putRow,mapBlock,Sort.ahead]) (λk hk hne=>hold k hk λe=>hne (by rw [e])) ⟨⟨by rw [hl];exact hlen,.inr ⟨g,cap,_,rfl,hb0,hnew,h3,h4,by simp [putCells,h5],?_⟩⟩,h1,hbg⟩ (λb hb=> .inl hb);apply List.ext_getElem?;intro i
  by_cases hi:i<n * size
  · have hi2:i<xs'.length:=by rw [hl,hlen];exact hi
    rw [List.getElem?_take_of_lt hi,Array.getElem?_toList];simp [putCells,hi2,show i<cur.size by omega]
  rw [List.getElem?_take_eq_none (by omega),List.getElem?_eq_none (by omega)]
theorem holds_row{w:World}{E size n cap g:Nat}{xs:List Value}(h:w.ownsRow 0 E size (.slice (some ⟨g,0,none⟩) n cap) n xs):Holds (id:Value->Value) w g 0 xs.toArray/\g<w.heap.size:=by
  obtain ⟨hlen,hc⟩:=h;rcases hc with ⟨hc,_⟩|⟨g',cap',cur,hv,hb0,hg,h3,h4,h5,h6⟩
  · cases hc
  cases hv;refine ⟨λj hj=> ?_,(Array.getElem?_eq_some_iff.1 hg).1⟩;have hj':j<xs.length:=by simpa using hj
  refine ⟨?_,by simp [World.frozen?,hg]⟩;have h7:(cur.toList.take (n * size))[j]? =xs[j]? :=by rw [h6]
  rw [List.getElem?_take_of_lt (by omega)]at h7;simp only [World.cell?,hg,Nat.zero_add,Option.isSome_none,Bool.false_eq_true,if_false];rw [<-Array.getElem?_toList,h7];simp [hj']
theorem ry_{α:Type}[Inhabited α](enc:α->Value)(w:World)(g:Nat)(l:List α):putRow enc w g 0 l.toArray=putRow (id:Value->Value) w g 0 (l.map enc).toArray:=by
  unfold putRow;congr 1
  funext c
  unfold putCells;apply Array.ext_getElem?;intro i;simp only [Array.getElem?_mapIdx];cases hc:c[i]? with
  |none=>rfl
  |some v=>
    simp only [Option.map_some,Nat.zero_le,true_and,Nat.zero_add,Nat.sub_zero,List.size_toArray,List.length_map]
    split
    · rename_i hi;simp [hi]
    rfl
theorem p4_ {α : Type} [Inhabited α] {enc : α -> List Value} {k : Nat} (hk : ∀ x, (enc x).length = k) (l : List α) : flatK enc k l.toArray = (l.flatMap enc).toArray := by
  have hl:(l.flatMap enc).length=l.length * k:=uf hk l;refine ext_get! (by simp [hl]) λt ht=> ?_;have ht':t<l.length * k:=by simpa using ht
  have k0 : 0 < k := by rcases Nat.eq_zero_or_pos k with h | h
                        · subst h;simp at ht'
                        exact h
  have hd:t / k<l.length:=Nat.div_lt_of_lt_mul (by rw [Nat.mul_comm];exact ht');have hm:t % k<k:=Nat.mod_lt _ k0;rw [get_flatK _ _ _ _ (by simpa using ht'),getBang l _ hd];have h2:=ZG hk l (t / k) (t % k) l[t / k] (List.getElem?_eq_getElem hd) hm;rw [Nat.div_add_mod' t k]at h2;have hb:t<(l.flatMap enc).toArray.size:=by simpa [hl]using ht'
  have h3:(l.flatMap enc).toArray[t]! =(enc l[t / k])[t % k]! :=by
    rw [getElem!_pos (l.flatMap enc).toArray t hb];have h4:(l.flatMap enc)[t]? =some ((l.flatMap enc).toArray[t]'hb):=by rw [<-List.getElem?_toArray];exact Array.getElem?_eq_getElem hb
    rw [h2]at h4;have hlt:t % k<(enc l[t / k]).length:=by rw [hk];exact hm
    rw [List.getElem?_eq_getElem hlt,Option.some.injEq]at h4;rw [getElem!_pos (enc l[t / k]) (t % k) hlt,h4]
  rw [h3]
def rF{α:Type}(cf:α->α->Int)(l:List α):List α:=l.mergeSort λx y=> !decide (cf y x<0)
def Uc{α:Type}(E size:Nat)(enc:α->List Value)(a:Option Addr)(c:Nat)(l l':List α)(σ:aj):Value->aj->List Res->Prop:=λv σ' H'=>v= .tuple #[]/\σ=σ'/\H'=[ε E size enc (.slice a l.length c) l']
structure TotalCmp {α:Type} (cf:α->α->Int):Prop where
  swo:SWO (ltOf cf)
  tot: ∀x y,ltOf cf x y=false->ltOf cf y x=false->x=y
section
variable {α:Type} [Inhabited α] {P:Program} {ρ:Ren}
theorem Con.sort1(L:SlLaysF.n6 P ρ)(L0:SlLaysF0.n6 P ρ){enc:α->Value}{encL:α->List Value}{cf:α->α->Int}{f g E c:Nat}{a:Option Addr}{l:List α}{σ:aj}(hf:ρ.f 6=f)(he: ∀x,encL x=[enc x])(h1:OneCell enc)(hO:TotalCmp cf)
    (eg: ∀args w,(callFunc g args).run P w= .ok (.enter g args) w) (hc: ∀x y τ,Con P g #[enc x,enc y] τ [] (jq (.int .i64 (cf x y)) τ)):
    Con P f #[.slice a l.length c,.func (.func g) #[] #[]] σ [ε E 1 encL (.slice a l.length c) l] (Uc E 1 encL a c l (rF cf l) σ):=by
  subst hf;have hflat: ∀l:List α,l.flatMap encL=l.map enc:=λl=>by
    induction l with
    |nil=>rfl
    |cons x l ih=>rw [List.flatMap_cons,ih,he];rfl
  have hlen:(rF cf l).length=l.length:=List.length_mergeSort _;intro w hw;obtain ⟨hown,hone,hbg⟩:=hw.holds _ (iU ..);have hsl:=isSl_row hown;rcases id hown.2 with ⟨hn,hm⟩|⟨g',cap',cur,hv,hb0,hg,h3,h4,h5,h6⟩
  · have hl0:l=[]:=FV hm
    subst hl0;refine (AnyF.slices_SortFunc_none L0 a c (.func (.func g) #[] #[]) w).mono λe w' ⟨h1,h2⟩=>⟨_,σ,_,h1,⟨rfl,rfl,rfl⟩,?_⟩;subst h2;rw [show rF cf ([]:List α)=[]from by simp [rF]];exact hw
  cases hv;have hH:=holds_row hown;rw [hflat]at hH;have hHe:Holds enc w g' 0 l.toArray:=λj hj=>by
    have:=hH.1 j (by simpa using hj);have hj':j<l.length:=by simpa using hj
    simpa [hj']using this
  have hsz:l.toArray.size<4611686018427387904:=by simp;omega
  have:=Any.slices_SortFunc_total L enc h1 cf hO.swo g #[] g' 0 c l.toArray w eg (tj_ hc) hHe hH.2 hsz hO.tot;refine this.mono λe w' ⟨h7,n,os,h8⟩=>⟨_,σ,_,h7,⟨rfl,rfl,rfl⟩,?_⟩;subst h8;have h9:(l.toArray.toList.mergeSort λx y=> !(ltOf cf) y x)=rF cf l:=rfl;rw [h9];unfold sortWorld;rw [ry_];have:=Reach.sorted (h:=hw) (m:=n) (os:=os) (xs':=(rF cf l).map enc) (by rw [hflat,List.length_map,List.length_map,hlen]) (λu hu=>by
    obtain ⟨x,_,rfl⟩:=List.mem_map.1 hu;exact h1 x)
  unfold ε;rw [hflat (rF cf l),hlen];exact this
theorem Con.sortK(L:SlLaysF0.n6 P ρ){k:Nat}{enc:α->List Value}{cf:α->α->Int}{f g E c:Nat}{a:Option Addr}{l:List α}{σ:aj}(hf:ρ.f 6=f)(aE: ∀w,(isAgg (ρ.t 24)).run P w= .ok true w)(zE: ∀w,(Go.sizeOf (ρ.t 24)).run P w= .ok k w)(hk: ∀x,(enc x).length=k)(h1: ∀x, ∀u∈enc x,u.oneCell'=true)(hO:TotalCmp cf)
    (eg: ∀args w,(callFunc g args).run P w= .ok (.enter g args) w) (hc: ∀x y τ,Con P g #[.agg (enc x).toArray,.agg (enc y).toArray] τ [] (jq (.int .i64 (cf x y)) τ)):
    Con P f #[.slice a l.length c,.func (.func g) #[] #[]] σ [ε E k enc (.slice a l.length c) l] (Uc E k enc a c l (rF cf l) σ):=by
  subst hf;have hlen:(rF cf l).length=l.length:=List.length_mergeSort _;intro w hw;obtain ⟨hown,hone,hbg⟩:=hw.holds _ (iU ..);rcases id hown.2 with ⟨hn,hm⟩|⟨g',cap',cur,hv,hb0,hg,h3,h4,h5,h6⟩
  · have hl0:l=[]:=FV hm
    subst hl0;refine (AnyF.slices_SortFunc_none L a c (.func (.func g) #[] #[]) w).mono λe w' ⟨h1,h2⟩=>⟨_,σ,_,h1,⟨rfl,rfl,rfl⟩,?_⟩;subst h2;rw [show rF cf ([]:List α)=[]from by simp [rF]];exact hw
  cases hv;have hH:=holds_row hown;have hHe:HoldsK enc k w g' 0 l.toArray:=by
    unfold HoldsK;rw [p4_ hk];exact hH.1
  have hsz:l.toArray.size<4611686018427387904:=by simp;omega
  have:=AnyQ.slices_SortFunc_total L k aE zE enc hk h1 cf hO.swo g #[] g' 0 c l.toArray w eg (v9_ hc) hHe hH.2 hsz hO.tot;refine this.mono λe w' ⟨h7,n,os,h8⟩=>⟨_,σ,_,h7,⟨rfl,rfl,rfl⟩,?_⟩;subst h8;have h9:(l.toArray.toList.mergeSort λx y=> !(ltOf cf) y x)=rF cf l:=rfl;rw [h9];unfold sortWorldK putRowK;rw [p4_ hk];have:=Reach.sorted (h:=hw) (m:=n) (os:=os) (xs':=(rF cf l).flatMap enc) (by rw [uf hk,uf hk,hlen]) (λu hu=>by
    obtain ⟨x,_,hx⟩:=List.mem_flatMap.1 hu;exact h1 x u hx)
  unfold ε;rw [hlen];exact this
end
theorem iu_(l:List Int):l.flatMap ak=l.map (Value.int .i64):=by
  induction l with
  |nil=>rfl
  |cons x l ih=>rw [List.flatMap_cons,ih];rfl
theorem Con.sortInt{P:Program}{ρ:Ren}(L:Lays.n189 P ρ){f E c:Nat}{a:Option Addr}{l:List Int}{σ:aj}(hf:ρ.f 189=f):
    Con P f #[.slice a l.length c] σ [ε E 1 ak (.slice a l.length c) l] (Uc E 1 ak a c l (l.mergeSort λx y=>decide (x<=y)) σ):=by
  subst hf;have hlen:(l.mergeSort λx y=>decide (x<=y)).length=l.length:=List.length_mergeSort _;intro w hw;obtain ⟨hown,hone,hbg⟩:=hw.holds _ (iU ..);have hsl:=isSl_row hown;rcases id hown.2 with ⟨hn,hm⟩|⟨g',cap',cur,hv,hb0,hg,h3,h4,h5,h6⟩
  · have hl0:l=[]:=FV hm
    subst hl0;refine (Any.slices_Sort_int_none L a c w).mono λe w' ⟨h1,h2⟩=>⟨_,σ,_,h1,⟨rfl,rfl,rfl⟩,?_⟩;subst h2;rw [show (([]:List Int).mergeSort λx y=>decide (x<=y))=[]from by simp];exact hw
  cases hv;have hH:=holds_row hown;rw [iu_]at hH;have hHe:Holds (Value.int .i64) w g' 0 l.toArray:=λj hj=>by
    have:=hH.1 j (by simpa using hj);have hj':j<l.length:=by simpa using hj
    simpa [hj']using this
  have hsz:l.length<4611686018427387904:=by omega
  have:=Any.slices_Sort_int L g' 0 c l w hHe hH.2 hsz;refine this.mono λe w' ⟨h7,n,os,h8⟩=>⟨_,σ,_,h7,⟨rfl,rfl,rfl⟩,?_⟩;subst h8;rw [ry_];have:=Reach.sorted (h:=hw) (m:=n) (os:=os) (xs':=(l.mergeSort λx y=>decide (x<=y)).map (Value.int .i64)) (by rw [iu_,List.length_map,List.length_map,hlen]) (λu hu=>by
    obtain ⟨x,_,rfl⟩:=List.mem_map.1 hu;rfl)
  unfold ε;rw [iu_ (l.mergeSort λx y=>decide (x<=y)),hlen];exact this
theorem OpVal.minI{P:Program}{n:Nat}{e:Env}{σ:aj}{H:List Res}{o:Oper}{x y:Operand}{ts:Array TypeId}{k k':IntKind}{a b:Int}(ho:o.op= .call {callee:= .builtin .min,args:= #[x,y],argTypes:=ts})(hx:ev e x= .int k a)(hy:ev e y= .int k' b):OpVal P n o e σ H (.int k (min a b)):=λw _=>by
  have h:(if b<a then b else a)=min a b:=by rw [Int.min_def];split<;>split<;>omega
  simp [execOp,ho,resolve,invoke,builtin,hx,hy,Builtin.min_,Builtin.min2,h]
theorem OpOk.dr_{X:Ctx}{e:Env}{σ:aj}{H:List Res}{o:Oper}{x y:Operand}{K:Env->aj->List Res->Prop}{α:Type}{T E size jY d m:Nat}{kl kc:IntKind}{enc:α->List Value}{z:Value}(ho:o.op= .makeSlice T x y)(ht:X.P.underlying T=some (.slice E))(hs:szOf X.P E=some size)(hby:byOf X.P E=some jY)(hz:zeroOf X.P E=some z)
    (hd:o.dst=some d) (hn:Nat.blt d X.n=true) (hx:ev e x= .int kl 0) (hy:ev e y= .int kc (m:Nat)) (hb:jY * m<=281474976710656) (lW:0<jY)
    (k: ∀a c,K (upd e d (.slice a ([]:List α).length c)) σ (ε E size enc (.slice a ([]:List α).length c) []::H)):OpOk X o e σ H K:=OpOk.make0 ho ht hs hby hz hd hn hx hy hb lW k
theorem Con.lendG{P:Program}{f:FuncId}{args:Array Value}{σ:aj}{F:List Res}{v:Value}{α:Type}{E size:Nat}{enc:α->List Value}{l:List α}{Post:aj->Value->aj->List Res->Prop}(hl: ∀x,(enc x).length=size)
    (hP: ∀τ τ' r σ' H',Post τ r σ' H'->σ'=τ/\Post τ' r τ' H') (h: ∀τ,σ.le τ->RS τ size enc v l->Con P f args τ F (Post τ)):Con P f args σ (ε E size enc v l::F) (λr σ' H'=> ∃H'',Post σ r σ' H''/\H'=H''++[ε E size enc v l]):=by
  intro w hw;obtain ⟨τ,h1,h2,h3⟩:=hw.O4;have h0:Reach w (fJ F) τ τ w F:=⟨rfl,rfl,rfl,Nat.le_refl _,λ_ _ _=>rfl,aj.le.refl _,h1.fit,λb o hb=> .inl hb,h1.holds,λr hr b hb=> .inl (xk.2 ⟨r,hr,hb⟩),h1.nodup,h1.apart,Nat.le_refl _⟩;refine (h τ h2 ⟨h3,hl⟩ w h0).mono λex w' ⟨r',σ',H',he,hp,k⟩=> ?_;obtain ⟨e2,hp'⟩:=hP τ σ r' σ' H' hp;subst e2;refine ⟨r',σ,_,he,⟨H',hp',rfl⟩,?_⟩;have hb: ∀b,b∈(ε E size enc v l).bl->b<w.heap.size/\b∉fJ F:=λb hb=>by
    refine ⟨hw.block_lt (iU ..) hb,λhx=> ?_⟩;have hnd:=hw.nodup;simp only [fJ,List.flatMap_cons]at hnd;exact (Yz.1 hnd).2.2 b hb hx
  have hF: ∀b,b∈fJ F->b∈fJ (ε E size enc v l::F):=λb hx=>by
    obtain ⟨r2,hr2,hb2⟩:=xk.1 hx;exact xk.2 ⟨r2,rM _ hr2,hb2⟩
  have hframe: ∀i,i<w.heap.size->i∉fJ F->w'.heap[i]? =w.heap[i]? :=k.frame;refine ⟨k.os,k.tape,k.output,k.size,λi hi hn=>hframe i hi λhx=>hn (hF i hx),aj.le.refl _,λb o hs=>k.fit b o (h2 b o hs),λb o hs=> .inl hs,?_,?_,?_,?_,k.drawn⟩
  · intro r2 hr2
    rcases List.mem_append.1 hr2 with hr2|hr2
    · exact k.holds r2 hr2
    rw [List.mem_singleton.1 hr2];exact (ε E size enc v l).keep w w' (λb hbb=>hframe b (hb b hbb).1 (hb b hbb).2) (hw.holds _ (iU ..))
  · intro r2 hr2 b hb2
    rcases List.mem_append.1 hr2 with hr2|hr2
    · exact (k.own r2 hr2 b hb2).imp (hF b) id
    rw [List.mem_singleton.1 hr2]at hb2;exact .inl (xk.2 ⟨_,iU ..,hb2⟩)
  · have e:fJ (H'++[ε E size enc v l])=fJ H'++(ε E size enc v l).bl:=by simp [fJ,List.flatMap_append]
    rw [e,Yz];refine ⟨k.nodup,?_,λb hx hy=> ?_⟩
    · have hnd:=hw.nodup
      simp only [fJ,List.flatMap_cons]at hnd;exact (Yz.1 hnd).1
    obtain ⟨r2,hr2,hb2⟩:=xk.1 hx;have:=hb b hy;rcases k.own r2 hr2 b hb2 with h4|h4
    · exact this.2 h4
    omega
  intro r2 hr2 b hb2;rcases List.mem_append.1 hr2 with hr2|hr2
  · cases hs:σ b with
    |none=>rfl
    |some o=>have:=k.apart r2 hr2 b hb2;rw [h2 b o hs]at this;cases this
  rw [List.mem_singleton.1 hr2]at hb2;exact hw.apart _ (iU ..) b hb2
end Go.E
end

noncomputable section
namespace Go.Proofs.YtcfgkcfcddfccaaGreatDoor
open Go Go.E
theorem tr_{σ:aj}{a:Option Addr}{c:Nat}{l:ah}:Con Tryz.prog 128 #[.slice a l.length c] σ [ε 3 1 ak (.slice a l.length c) l] (Uc 3 1 ak a c l (l.mergeSort λx y=>decide (x<=y)) σ):=Con.sortInt layInt rfl
end Go.Proofs.YtcfgkcfcddfccaaGreatDoor
end

noncomputable section
namespace Go.Proofs.YtcfgkcfcddfccaaGreatDoor
open Go
theorem Xk:Go.E.aggOf Tryz.prog 129=some true:=by kernel_rfl
theorem CW:Go.E.aggOf Tryz.prog 3=some false:=by kernel_rfl
theorem pV:Go.E.aggOf Tryz.prog 31=some false:=by kernel_rfl
theorem ag4:Go.E.aggOf Tryz.prog 4=some false:=by kernel_rfl
theorem JA:Go.E.aggOf Tryz.prog 45=some false:=by kernel_rfl
theorem Jm:Go.E.aggOf Tryz.prog 47=some true:=by kernel_rfl
theorem ag5:Go.E.aggOf Tryz.prog 5=some false:=by kernel_rfl
theorem Jl:Go.E.aggOf Tryz.prog 63=some false:=by kernel_rfl
theorem IG:Go.E.byOf Tryz.prog 3=some 8:=by kernel_rfl
theorem eg47:Tryz.prog.eqGuardType Tryz.prog.depth 47=false:=by kernel_rfl
theorem yx_:Go.E.foOf Tryz.prog 129 0=some 0:=by kernel_rfl
theorem x5_:Go.E.foOf Tryz.prog 129 1=some 1:=by kernel_rfl
theorem yp_:Go.E.foOf Tryz.prog 129 2=some 2:=by kernel_rfl
theorem Yi:Go.E.foOf Tryz.prog 65 0=some 0:=by kernel_rfl
theorem fo65_1:Go.E.foOf Tryz.prog 65 1=some 1:=by kernel_rfl
theorem fo65_2:Go.E.foOf Tryz.prog 65 2=some 2:=by kernel_rfl
theorem w6_:Go.E.foOf Tryz.prog 65 3=some 3:=by kernel_rfl
theorem UD:Go.E.plainF Tryz.prog 144=true:=by kernel_rfl
theorem La:Go.E.plainF Tryz.prog 145=true:=by kernel_rfl
theorem pf173:Go.E.plainF Tryz.prog 173=true:=by kernel_rfl
theorem zw_:Go.E.szOf Tryz.prog 129=some 6:=by kernel_rfl
theorem oq:Go.E.szOf Tryz.prog 3=some 1:=by kernel_rfl
theorem sz4:Go.E.szOf Tryz.prog 4=some 1:=by kernel_rfl
theorem Bh:Go.E.szOf Tryz.prog 45=some 1:=by kernel_rfl
theorem PL:Go.E.szOf Tryz.prog 47=some 4:=by kernel_rfl
theorem sz5:Go.E.szOf Tryz.prog 5=some 1:=by kernel_rfl
theorem TS:Go.E.zeroOf Tryz.prog 129=some (.agg #[.int .i64 0,.int .i64 0,.int .u64 0,.int .u64 0,.int .u64 0,.int .u64 0]):=by kernel_rfl
theorem yF:Go.E.zeroOf Tryz.prog 3=some (.int .i64 0):=by kernel_rfl
theorem PK:Go.E.zeroOf Tryz.prog 47=some (.agg #[.int .u64 0,.int .u64 0,.int .u64 0,.int .u64 0]):=by kernel_rfl
end Go.Proofs.YtcfgkcfcddfccaaGreatDoor
end
