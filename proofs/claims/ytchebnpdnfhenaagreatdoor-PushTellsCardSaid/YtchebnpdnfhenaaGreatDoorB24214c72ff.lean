/- Parts of a proof, one behind the other: what a machine reaches, functions decompiled, plain lemmas. Conditions stand with each lemma. -/
import Derived.Shelf.SlSortCmp.NoneTotal
import Derived.Shelf.Sort.Plain
import Derived.Test.YtchebnpdnfhenaaGreatDoorChecked
import Derived.ProofKit
import Derived.OrdersHeld
import Derived.Laws.AppendOwn
import Derived.Laws.OwnMore
import Derived.Laws.MakeOwn
import Derived.Laws.StructEq
import Derived.Maps.OwnSet
import Derived.Maps.OwnOps
import Derived.RangeFuncNested
import Derived.RangeFuncLeaves
import Derived.OrdersIn
import Derived.TacticsIn
import Derived.Test.YtchebnpdnfhenaaGreatDoorProg
import Derived.Laws.IdiomStrings
import Derived.Laws.Strings2
import Derived.Scope
import Derived.KernelRfl
import Derived.Laws.Strings3
import Derived.Laws.Concat
import Derived.MapKept
import Derived.Lib.AppendZerosOnto
import Derived.Maps.RangeRun
import Derived.Laws.BytesArg
import Derived.Lib.Bytealg

namespace Go.E
theorem z {α : Sort _} {a : α} : a = a := rfl
theorem vN {k:IntKind}{x:Int}(h:0<=x):Value.int k x=Value.int k ((x.toNat:Nat):Int):=by rw [Int.toNat_of_nonneg h]
abbrev T_1:=List UInt8
abbrev aC:=List T_1
abbrev fO:=List aC
abbrev ak:=List Int
abbrev bZ:=List ak
abbrev B_1:=List Bool
theorem gB{α:Type _}{xs ys:List α}:(xs++ys).length=xs.length+ys.length:=List.length_append
theorem gy{α:Type _}{xs:List α}{i:Nat}{a:α}:(xs.set i a).length=xs.length:=List.length_set
theorem kD{α:Type _}{a:α}:[a].length=1:=List.length_singleton
theorem jm{α:Type _}{a:α}{l:List α}:a∈a::l:=List.mem_cons_self
theorem yK{α:Type _}{a b:α}:a∈[b]↔a=b:=List.mem_singleton
theorem iW(n:Nat):(n:Int).toNat=n:=Int.toNat_natCast n
theorem o7{α:Type _}{l:List α}:l.length=0->l=[]:=List.eq_nil_of_length_eq_zero
theorem jg{p:Prop}[inst:Decidable p]:decide p=true->p:=of_decide_eq_true
theorem jo{p:Prop}[inst:Decidable p]:decide p=false->¬p:=of_decide_eq_false
theorem pF{α:Type _}(y:α){a:α}{l:List α}:a∈l->a∈y::l:=List.mem_cons_of_mem y
theorem jV{p:Prop}[inst:Decidable p]:(decide p=true)=p:=decide_eq_true_eq
theorem r_{α:Type _}{n:Nat}{a:α}:(List.replicate n a).length=n:=List.length_replicate
theorem qH{α:Type _}(xs ys zs:List α):xs++ys++zs=xs++(ys++zs):=List.append_assoc xs ys zs
end Go.E

set_option linter.unusedVariables false
set_option linter.unusedSimpArgs false
set_option linter.unusedSectionVars false
set_option maxRecDepth 100000
set_option maxHeartbeats 8000000

noncomputable section
namespace Go.Proofs.YtchebnpdnfhenaaGreatDoor
open Go Go.Shelf
def layS_ren:Go.Shelf.Ren:=⟨fun|6=>104|15=>143|14=>142|28=>167|29=>168|20=>159|21=>160|22=>161|23=>162|24=>163|25=>164|26=>165|27=>166|46=>196|47=>197|48=>198|49=>199|50=>200|57=>210|n=>n,fun|22=>30|24=>9|25=>108|3=>3|39=>170|0=>0|53=>222|55=>62|4=>4|46=>216|45=>215|50=>183|5=>5|9=>9|66=>251|70=>255|76=>263|77=>264|n=>n,fun|n=>n⟩
def xf_:Go.Shelf.Ren:=⟨fun|6=>124|15=>143|14=>153|28=>167|29=>168|20=>178|21=>179|22=>180|23=>181|24=>182|25=>183|26=>184|27=>185|46=>204|47=>197|48=>198|49=>205|50=>206|57=>215|n=>n,fun|22=>22|24=>76|25=>152|3=>3|39=>170|0=>0|53=>222|55=>62|4=>4|46=>216|45=>215|50=>183|5=>5|9=>9|66=>251|70=>255|76=>263|77=>264|n=>n,fun|n=>n⟩
theorem layT0:Go.Proofs.SlLaysF0.n6 Tryz.prog xf_:={
  mixed:=by kernel_rfl,
  f6:=⟨Tryz.f124.name,by decide,Tryz.func124.trans (congrArg some (by kernel_rfl))⟩,
  f14:=⟨Tryz.f153.name,by decide,Tryz.func153.trans (congrArg some (by kernel_rfl))⟩,
  f15:=Tryz.func143.trans (congrArg some (by kernel_rfl)),
  f20:=⟨Tryz.f178.name,by decide,Tryz.func178.trans (congrArg some (by kernel_rfl))⟩,
  f21:=⟨Tryz.f179.name,by decide,Tryz.func179.trans (congrArg some (by kernel_rfl))⟩,
  f22:=⟨Tryz.f180.name,by decide,Tryz.func180.trans (congrArg some (by kernel_rfl))⟩,
  f23:=⟨Tryz.f181.name,by decide,Tryz.func181.trans (congrArg some (by kernel_rfl))⟩,
  f24:=⟨Tryz.f182.name,by decide,Tryz.func182.trans (congrArg some (by kernel_rfl))⟩,
  f25:=⟨Tryz.f183.name,by decide,Tryz.func183.trans (congrArg some (by kernel_rfl))⟩,
  f26:=⟨Tryz.f184.name,by decide,Tryz.func184.trans (congrArg some (by kernel_rfl))⟩,
  f27:=⟨Tryz.f185.name,by decide,Tryz.func185.trans (congrArg some (by kernel_rfl))⟩,
  f28:=Tryz.func167.trans (congrArg some (by kernel_rfl)),
  f29:=Tryz.func168.trans (congrArg some (by kernel_rfl)),
  f46:=⟨Tryz.f204.name,by decide,Tryz.func204.trans (congrArg some (by kernel_rfl))⟩,
  f47:=Tryz.func197.trans (congrArg some (by kernel_rfl)),
  f48:=Tryz.func198.trans (congrArg some (by kernel_rfl)),
  f49:=⟨Tryz.f205.name,by decide,Tryz.func205.trans (congrArg some (by kernel_rfl))⟩,
  f50:=⟨Tryz.f206.name,by decide,Tryz.func206.trans (congrArg some (by kernel_rfl))⟩,
  f57:=⟨Tryz.f215.name,by decide,Tryz.func215.trans (congrArg some (by kernel_rfl))⟩,
  t0:=Tryz.underlying0,
  a0:=Tryz.isAgg0,
  z0:=Tryz.sizeOf0,
  v0:=Tryz.zeroValue0,
  t3:=Tryz.underlying3,
  a3:=Tryz.isAgg3,
  z3:=Tryz.sizeOf3,
  v3:=Tryz.zeroValue3,
  t4:=Tryz.underlying4,
  a4:=Tryz.isAgg4,
  z4:=Tryz.sizeOf4,
  v4:=Tryz.zeroValue4,
  t5:=Tryz.underlying5,
  a5:=Tryz.isAgg5,
  z5:=Tryz.sizeOf5,
  v5:=Tryz.zeroValue5,
  t9:=Tryz.underlying9,
  a9:=Tryz.isAgg9,
  z9:=Tryz.sizeOf9,
  v9:=Tryz.zeroValue9,
  t22:=Tryz.underlying22,
  a22:=Tryz.isAgg22,
  z22:=Tryz.sizeOf22,
  v22:=Tryz.zeroValue22,
  t25:=Tryz.underlying152,
  a25:=Tryz.isAgg152,
  z25:=Tryz.sizeOf152,
  v25:=Tryz.zeroValue152,
  t39:=Tryz.underlying170,
  a39:=Tryz.isAgg170,
  z39:=Tryz.sizeOf170,
  v39:=Tryz.zeroValue170,
  t45:=Tryz.underlying215,
  a45:=Tryz.isAgg215,
  z45:=Tryz.sizeOf215,
  v45:=Tryz.zeroValue215,
  t46:=Tryz.underlying216,
  a46:=Tryz.isAgg216,
  z46:=Tryz.sizeOf216,
  v46:=Tryz.zeroValue216,
  t50:=Tryz.underlying183,
  a50:=Tryz.isAgg183,
  z50:=Tryz.sizeOf183,
  v50:=Tryz.zeroValue183,
  t53:=Tryz.underlying222,
  a53:=Tryz.isAgg222,
  z53:=Tryz.sizeOf222,
  v53:=Tryz.zeroValue222,
  t55:=Tryz.underlying62,
  a55:=Tryz.isAgg62,
  z55:=Tryz.sizeOf62,
  v55:=Tryz.zeroValue62,
  t66:=Tryz.underlying251,
  a66:=Tryz.isAgg251,
  z66:=Tryz.sizeOf251,
  v66:=Tryz.zeroValue251,
  t70:=Tryz.underlying255,
  a70:=Tryz.isAgg255,
  z70:=Tryz.sizeOf255,
  v70:=Tryz.zeroValue255,
  t76:=Tryz.underlying263,
  a76:=Tryz.isAgg263,
  z76:=Tryz.sizeOf263,
  v76:=Tryz.zeroValue263,
  t77:=Tryz.underlying264,
  a77:=Tryz.isAgg264,
  z77:=Tryz.sizeOf264,
  v77:=Tryz.zeroValue264}
def w6_:Go.Shelf.Ren:=⟨fun|6=>137|15=>143|14=>157|28=>167|29=>168|20=>187|21=>188|22=>189|23=>190|24=>191|25=>192|26=>193|27=>194|46=>207|47=>197|48=>198|49=>208|50=>209|57=>216|n=>n,fun|22=>23|24=>66|25=>154|3=>3|39=>170|0=>0|53=>222|55=>62|4=>4|46=>216|45=>215|50=>183|5=>5|9=>9|66=>251|70=>255|76=>263|77=>264|n=>n,fun|n=>n⟩
theorem layA0:Go.Proofs.SlLaysF0.n6 Tryz.prog w6_:={
  mixed:=by kernel_rfl,
  f6:=⟨Tryz.f137.name,by decide,Tryz.func137.trans (congrArg some (by kernel_rfl))⟩,
  f14:=⟨Tryz.f157.name,by decide,Tryz.func157.trans (congrArg some (by kernel_rfl))⟩,
  f15:=Tryz.func143.trans (congrArg some (by kernel_rfl)),
  f20:=⟨Tryz.f187.name,by decide,Tryz.func187.trans (congrArg some (by kernel_rfl))⟩,
  f21:=⟨Tryz.f188.name,by decide,Tryz.func188.trans (congrArg some (by kernel_rfl))⟩,
  f22:=⟨Tryz.f189.name,by decide,Tryz.func189.trans (congrArg some (by kernel_rfl))⟩,
  f23:=⟨Tryz.f190.name,by decide,Tryz.func190.trans (congrArg some (by kernel_rfl))⟩,
  f24:=⟨Tryz.f191.name,by decide,Tryz.func191.trans (congrArg some (by kernel_rfl))⟩,
  f25:=⟨Tryz.f192.name,by decide,Tryz.func192.trans (congrArg some (by kernel_rfl))⟩,
  f26:=⟨Tryz.f193.name,by decide,Tryz.func193.trans (congrArg some (by kernel_rfl))⟩,
  f27:=⟨Tryz.f194.name,by decide,Tryz.func194.trans (congrArg some (by kernel_rfl))⟩,
  f28:=Tryz.func167.trans (congrArg some (by kernel_rfl)),
  f29:=Tryz.func168.trans (congrArg some (by kernel_rfl)),
  f46:=⟨Tryz.f207.name,by decide,Tryz.func207.trans (congrArg some (by kernel_rfl))⟩,
  f47:=Tryz.func197.trans (congrArg some (by kernel_rfl)),
  f48:=Tryz.func198.trans (congrArg some (by kernel_rfl)),
  f49:=⟨Tryz.f208.name,by decide,Tryz.func208.trans (congrArg some (by kernel_rfl))⟩,
  f50:=⟨Tryz.f209.name,by decide,Tryz.func209.trans (congrArg some (by kernel_rfl))⟩,
  f57:=⟨Tryz.f216.name,by decide,Tryz.func216.trans (congrArg some (by kernel_rfl))⟩,
  t0:=Tryz.underlying0,
  a0:=Tryz.isAgg0,
  z0:=Tryz.sizeOf0,
  v0:=Tryz.zeroValue0,
  t3:=Tryz.underlying3,
  a3:=Tryz.isAgg3,
  z3:=Tryz.sizeOf3,
  v3:=Tryz.zeroValue3,
  t4:=Tryz.underlying4,
  a4:=Tryz.isAgg4,
  z4:=Tryz.sizeOf4,
  v4:=Tryz.zeroValue4,
  t5:=Tryz.underlying5,
  a5:=Tryz.isAgg5,
  z5:=Tryz.sizeOf5,
  v5:=Tryz.zeroValue5,
  t9:=Tryz.underlying9,
  a9:=Tryz.isAgg9,
  z9:=Tryz.sizeOf9,
  v9:=Tryz.zeroValue9,
  t22:=Tryz.underlying23,
  a22:=Tryz.isAgg23,
  z22:=Tryz.sizeOf23,
  v22:=Tryz.zeroValue23,
  t25:=Tryz.underlying154,
  a25:=Tryz.isAgg154,
  z25:=Tryz.sizeOf154,
  v25:=Tryz.zeroValue154,
  t39:=Tryz.underlying170,
  a39:=Tryz.isAgg170,
  z39:=Tryz.sizeOf170,
  v39:=Tryz.zeroValue170,
  t45:=Tryz.underlying215,
  a45:=Tryz.isAgg215,
  z45:=Tryz.sizeOf215,
  v45:=Tryz.zeroValue215,
  t46:=Tryz.underlying216,
  a46:=Tryz.isAgg216,
  z46:=Tryz.sizeOf216,
  v46:=Tryz.zeroValue216,
  t50:=Tryz.underlying183,
  a50:=Tryz.isAgg183,
  z50:=Tryz.sizeOf183,
  v50:=Tryz.zeroValue183,
  t53:=Tryz.underlying222,
  a53:=Tryz.isAgg222,
  z53:=Tryz.sizeOf222,
  v53:=Tryz.zeroValue222,
  t55:=Tryz.underlying62,
  a55:=Tryz.isAgg62,
  z55:=Tryz.sizeOf62,
  v55:=Tryz.zeroValue62,
  t66:=Tryz.underlying251,
  a66:=Tryz.isAgg251,
  z66:=Tryz.sizeOf251,
  v66:=Tryz.zeroValue251,
  t70:=Tryz.underlying255,
  a70:=Tryz.isAgg255,
  z70:=Tryz.sizeOf255,
  v70:=Tryz.zeroValue255,
  t76:=Tryz.underlying263,
  a76:=Tryz.isAgg263,
  z76:=Tryz.sizeOf263,
  v76:=Tryz.zeroValue263,
  t77:=Tryz.underlying264,
  a77:=Tryz.isAgg264,
  z77:=Tryz.sizeOf264,
  v77:=Tryz.zeroValue264}
end Go.Proofs.YtchebnpdnfhenaaGreatDoor
end

noncomputable section
namespace Go.E
open Go
theorem gi_(w:World)(o:Obj)(k:Nat)(h:k<w.heap.size):(w.alloc o).heap[k]? =w.heap[k]? :=by
  show (w.heap.push o)[k]? =w.heap[k]?
  rw [Array.getElem?_push,if_neg (Nat.ne_of_lt h)]
abbrev Env:=Nat->Value
abbrev aj:=Nat->Option Obj
def upd(e:Env)(d:Nat)(v:Value):Env:=λt=>if t=d then v else e t
def mask(M:List Nat)(j e:Env):Env:=λt=>if M.contains t then j t else e t
def ev(e:Env):Operand->Value
  | .tmp t=>e t
  | .const v=>v
  | .global g=> .pointer (some ⟨g,0,none⟩)
  | .func f=> .func (.func f) #[] #[]
structure St (n:Nat) (e:Env) (a:Act):Prop where
  size:a.tmps.size=n
  get: ∀t,a.tmps.getD t undef=e t
theorem St.eval{n:Nat}{e:Env}{a:Act}(h:St n e a)(x:Operand):a.eval x=ev e x:=by
  cases x with
  |tmp t=>exact h.get t
  |_=>rfl
theorem St.eval'{n:Nat}{e:Env}{a:Act}(h:St n e a):a.eval=ev e:=funext h.eval
theorem St.put{n:Nat}{e:Env}{a:Act}(h:St n e a){d:Nat}(hd:d<n)(v:Value):St n (upd e d v) (a.put (some d) v):=by
  refine ⟨by simp [Act.put,h.size],λt=> ?_⟩
  have hg:=h.get t
  have hs:=h.size
  simp only [Act.put,upd,Array.getD_eq_getD_getElem?,Array.getElem?_setIfInBounds]at *
  by_cases ht:t=d
  · subst ht;simp [hs,hd]
  have: ¬ d=t:=λx=>ht x.symm
  simp [this,ht,hg]
structure StD (n:Nat) (e:Env) (a0 a:Act):Prop extends St n e a where
  same:a.defers=a0.defers
theorem St.d{n:Nat}{e:Env}{a:Act}(h:St n e a):StD n e a a:=⟨h,rfl⟩
structure Res where
  bl:List Nat
  holds:World->Prop
  lt: ∀w b,b∈bl->holds w->b<w.heap.size
  keep: ∀w w',(∀b,b∈bl->w'.heap[b]? =w.heap[b]?)->holds w->holds w'
theorem Res.di_{r:Res}{w w':World}(h: ∀b,b<w.heap.size->b∈r.bl->w'.heap[b]? =w.heap[b]?)(hr:r.holds w):r.holds w':=
  r.keep w w' (λb hb=>h b (r.lt w b hb hr) hb) hr
abbrev iJ(H:List Res):List Nat:=H.flatMap Res.bl
def aj.le(σ τ:aj):Prop:= ∀b o,σ b=some o->τ b=some o
theorem aj.le.refl(σ:aj):σ.le σ:=λ_ _ h=>h
theorem aj.le.trans{a b c:aj}(h:a.le b)(k:b.le c):a.le c:=λi o hi=>k i o (h i o hi)
structure Reach (w0:World) (C:List Nat) (σ0 σ:aj) (w:World) (H:List Res):Prop where
  os:w.os=w0.os
  tape:w.tape=w0.tape
  output:w.output=w0.output
  size:w0.heap.size<=w.heap.size
  frame: ∀k,k<w0.heap.size->k∉C->w.heap[k]? =w0.heap[k]?
  le:σ0.le σ
  fit: ∀b o,σ b=some o->w.heap[b]? =some o
  fresh: ∀b o,σ b=some o->σ0 b=some o\/b∈C\/w0.heap.size<=b
  holds: ∀r∈H,r.holds w
  own: ∀r∈H, ∀b,b∈r.bl->b∈C\/w0.heap.size<=b
  nodup:(iJ H).Nodup
  apart: ∀r∈H, ∀b,b∈r.bl->σ b=none
  drawn:w0.drawn<=w.drawn
def Con(P:Program)(f:FuncId)(args:Array Value)(σ:aj)(H:List Res)(Post:Value->aj->List Res->Prop):Prop:=
  ∀w,Reach w (iJ H) σ σ w H->Calls P f args w λe w'=> ∃r σ' H',e= .returned r/\Post r σ' H'/\Reach w (iJ H) σ σ' w' H'
theorem Reach.self{w0:World}{C:List Nat}{σ0 σ:aj}{w:World}{H:List Res}(h:Reach w0 C σ0 σ w H):Reach w (iJ H) σ σ w H:=
  ⟨rfl,rfl,rfl,Nat.le_refl _,λ_ _ _=>rfl,aj.le.refl _,h.fit,λ_ _ hb=> .inl hb,h.holds,λr hr b hb=> .inl (by simp only [iJ,List.mem_flatMap];exact ⟨r,hr,hb⟩),h.nodup,h.apart,Nat.le_refl _⟩
theorem yQ{H:List Res}{b:Nat}:b∈iJ H↔ ∃r∈H,b∈r.bl:=by simp [iJ,List.mem_flatMap]
theorem Reach.block_lt{w0:World}{C:List Nat}{σ0 σ:aj}{w:World}{H:List Res}(h:Reach w0 C σ0 σ w H){r:Res}(hr:r∈H){b:Nat}(hb:b∈r.bl):b<w.heap.size:=
  r.lt w b hb (h.holds r hr)
theorem k4_{a b:List Nat}:(a++b).Nodup↔a.Nodup/\b.Nodup/\ ∀x∈a,x∉b:=by
  rw [List.nodup_append]
  constructor
  · rintro ⟨h1,h2,h3⟩;exact ⟨h1,h2,λx hx hy=>h3 x hx x hy rfl⟩
  rintro ⟨h1,h2,h3⟩;exact ⟨h1,h2,λx hx y hy hxy=>h3 x hx (hxy▸hy)⟩
theorem Reach.call{w0:World}{C:List Nat}{σ0 σ σ':aj}{w w':World}{H1 F Iu:List Res}(h:Reach w0 C σ0 σ w (H1++F))
    (k:Reach w (iJ H1) σ σ' w' Iu):Reach w0 C σ0 σ' w' (Iu++F):=by
  have hnd:(iJ H1++iJ F).Nodup:=by have:=h.nodup;simpa [iJ,List.flatMap_append]using this
  obtain ⟨n1,n2,n3⟩:=k4_.1 hnd
  have hF: ∀r∈F, ∀b,b∈r.bl->b<w.heap.size/\b∉iJ H1:=λr hr b hb=>
    ⟨h.block_lt (List.mem_append_right _ hr) hb,λhx=>n3 b hx (yQ.2 ⟨r,hr,hb⟩)⟩
  have hC: ∀b∈iJ H1,b∈C\/w0.heap.size<=b:=λb hb=>by
    obtain ⟨r,hr,hrb⟩:=yQ.1 hb
    exact h.own r (List.mem_append_left _ hr) b hrb
  refine ⟨k.os.trans h.os,k.tape.trans h.tape,k.output.trans h.output,Nat.le_trans h.size k.size,?_,h.le.trans k.le,k.fit,?_,?_,?_,?_,?_,Nat.le_trans h.drawn k.drawn⟩
  · intro i hi hiC
    rw [k.frame i (Nat.lt_of_lt_of_le hi h.size) (λhx=> ?_),h.frame i hi hiC]
    rcases hC i hx with hc|hc
    · exact hiC hc
    omega
  · intro b o hb
    rcases k.fresh b o hb with h1|h1|h1
    · exact h.fresh b o h1
    · exact .inr (hC b h1)
    exact .inr (.inr (Nat.le_trans h.size h1))
  · intro r hr
    rcases List.mem_append.1 hr with hr|hr
    · exact k.holds r hr
    exact r.di_ (λb hb hrb=>k.frame b hb (hF r hr b hrb).2) (h.holds r (List.mem_append_right _ hr))
  · intro r hr b hb
    rcases List.mem_append.1 hr with hr|hr
    · rcases k.own r hr b hb with h1|h1
      · exact hC b h1
      exact .inr (Nat.le_trans h.size h1)
    exact h.own r (List.mem_append_right _ hr) b hb
  · have:iJ (Iu++F)=iJ Iu++iJ F:=by simp [iJ,List.flatMap_append]
    rw [this,k4_]
    refine ⟨k.nodup,n2,λx hx hxF=> ?_⟩
    obtain ⟨r,hr,hrb⟩:=yQ.1 hx
    obtain ⟨r',hr',hrb'⟩:=yQ.1 hxF
    have:=hF r' hr' x hrb'
    rcases k.own r hr x hrb with h1|h1
    · exact this.2 h1
    omega
  intro r hr b hb
  rcases List.mem_append.1 hr with hr|hr
  · exact k.apart r hr b hb
  cases hs:σ' b with
  |none=>rfl
  |some o=>
    have h0:=h.apart r (List.mem_append_right _ hr) b hb
    have hf:=hF r hr b hb
    rcases k.fresh b o hs with h1|h1|h1
    · rw [h0]at h1;cases h1
    · exact absurd h1 hf.2
    omega
theorem Reach.drew{w0:World}{C:List Nat}{σ0 σ:aj}{w:World}{H:List Res}(h:Reach w0 C σ0 σ w H):Reach w0 C σ0 σ w.drew H:=by
  have hk: ∀r∈H,r.holds w.drew:=λr hr=>r.keep w w.drew (λ_ _=>rfl) (h.holds r hr)
  exact ⟨h.os,h.tape,h.output,h.size,h.frame,h.le,h.fit,h.fresh,hk,h.own,h.nodup,h.apart,Nat.le_trans h.drawn (Nat.le_succ _)⟩
theorem y0_{H H':List Res}(h:H'.Sublist H):(iJ H').Sublist (iJ H):=by
  induction h with
  |slnil=>exact List.Sublist.refl _
  |cons a _ ih=>simp only [iJ,List.flatMap_cons]at ih ⊢;exact ih.trans (List.sublist_append_right _ _)
  |cons_cons a _ ih=>simp only [iJ,List.flatMap_cons]at ih ⊢;exact (List.Sublist.refl _).append ih
theorem wp_{H H':List Res}(h:H'.Perm H):(iJ H').Perm (iJ H):=h.flatMap_right _
theorem Reach.sub{w0:World}{C:List Nat}{σ0 σ:aj}{w:World}{H H':List Res}(h:Reach w0 C σ0 σ w H)(hs:H'.Sublist H):Reach w0 C σ0 σ w H':=by
  have hm: ∀r∈H',r∈H:=λr hr=>hs.subset hr
  exact ⟨h.os,h.tape,h.output,h.size,h.frame,h.le,h.fit,h.fresh,λr hr=>h.holds r (hm r hr),λr hr=>h.own r (hm r hr),(y0_ hs).nodup h.nodup,λr hr=>h.apart r (hm r hr),h.drawn⟩
theorem Reach.perm{w0:World}{C:List Nat}{σ0 σ:aj}{w:World}{H H':List Res}(h:Reach w0 C σ0 σ w H)(hp:H'.Perm H):Reach w0 C σ0 σ w H':=by
  have hm: ∀r∈H',r∈H:=λr hr=>hp.subset hr
  exact ⟨h.os,h.tape,h.output,h.size,h.frame,h.le,h.fit,h.fresh,λr hr=>h.holds r (hm r hr),λr hr=>h.own r (hm r hr),(wp_ hp).nodup_iff.2 h.nodup,λr hr=>h.apart r (hm r hr),h.drawn⟩
theorem Reach.turn{w0:World}{C:List Nat}{σ0 σ:aj}{w w':World}{r r':Res}{F:List Res}(h:Reach w0 C σ0 σ w (r::F))
    (hos:w'.os=w.os) (ht:w'.tape=w.tape) (ho:w'.output=w.output) (hs:w.heap.size<=w'.heap.size) (hdr:w.drawn<=w'.drawn)
    (hb: ∀k,k<w.heap.size->k∉r.bl->w'.heap[k]? =w.heap[k]?)
    (hh:r'.holds w') (hbk: ∀b,b∈r'.bl->b∈r.bl\/w.heap.size<=b) (hnd:r'.bl.Nodup):Reach w0 C σ0 σ w' (r'::F):=by
  have hC: ∀k,k∈iJ [r]↔k∈r.bl:=λk=>by simp [iJ]
  refine Reach.call (H1:=[r]) (Iu:=[r']) h ⟨hos,ht,ho,hs,λk hk hkn=>hb k hk (λhx=>hkn ((hC k).2 hx)),aj.le.refl _,?_,λb o hb=> .inl hb,?_,?_,?_,?_,hdr⟩
  · intro b o hbo
    have h1:=h.fit b o hbo
    rw [hb b (Array.getElem?_eq_some_iff.1 h1).1 (λhx=> ?_),h1]
    have:=h.apart r (jm ..) b hx
    rw [this]at hbo;cases hbo
  · intro x hx;simp at hx;subst hx;exact hh
  · intro x hx b hxb;simp at hx;subst hx
    rcases hbk b hxb with h1|h1
    · exact .inl ((hC b).2 h1)
    exact .inr h1
  · simpa [iJ]using hnd
  intro x hx b hxb;simp at hx;subst hx
  rcases hbk b hxb with h1|h1
  · exact h.apart r (jm ..) b h1
  cases hs':σ b with
  |none=>rfl
  |some o=>have:=(Array.getElem?_eq_some_iff.1 (h.fit b o hs')).1;omega
def Res.no:Res:=⟨[],λ_=>True,λ_ _ h=>by simp at h,λ_ _ _ _=>trivial⟩
theorem Reach.no{w0:World}{C:List Nat}{σ0 σ:aj}{w:World}{H:List Res}(h:Reach w0 C σ0 σ w H):Reach w0 C σ0 σ w (Res.no::H):=
  ⟨h.os,h.tape,h.output,h.size,h.frame,h.le,h.fit,h.fresh,
    λr hr => by    rcases List.mem_cons.1 hr with rfl | hr; · trivial
                   · exact h.holds r hr,
    λr hr b hb => by    rcases List.mem_cons.1 hr with rfl | hr; · simp [Res.no] at hb
                        · exact h.own r hr b hb,
    by have:=h.nodup;simpa [iJ,Res.no]using this,
    λr hr b hb => by    rcases List.mem_cons.1 hr with rfl | hr; · simp [Res.no] at hb
                        · exact h.apart r hr b hb,h.drawn⟩
theorem Reach.gain{w0:World}{C:List Nat}{σ0 σ:aj}{w w':World}{r':Res}{H:List Res}(h:Reach w0 C σ0 σ w H)
    (hos:w'.os=w.os) (ht:w'.tape=w.tape) (ho:w'.output=w.output) (hs:w.heap.size<=w'.heap.size) (hdr:w.drawn<=w'.drawn)
    (hb: ∀k,k<w.heap.size->w'.heap[k]? =w.heap[k]?)
    (hh:r'.holds w') (hbk: ∀b,b∈r'.bl->w.heap.size<=b) (hnd:r'.bl.Nodup):Reach w0 C σ0 σ w' (r'::H):=
  h.no.turn hos ht ho hs hdr (λk hk _=>hb k hk) hh (λb hb=> .inr (hbk b hb)) hnd
theorem Reach.G9{w0:World}{C:List Nat}{σ0 σ:aj}{w w':World}{r r':Res}{F:List Res}(o o':Option Nat)(h:Reach w0 C σ0 σ w (r::F))(e:r.bl=o.toList)(e':r'.bl=o'.toList)
    (hos:w'.os=w.os) (ht:w'.tape=w.tape) (ho:w'.output=w.output) (hs:w.heap.size<=w'.heap.size) (hdr:w.drawn<=w'.drawn)
    (hb: ∀k,k<w.heap.size->o≠some k->w'.heap[k]? =w.heap[k]?)
    (hh:r'.holds w') (hbk: ∀b,o'=some b->o=some b\/w.heap.size<=b):Reach w0 C σ0 σ w' (r'::F):=
  h.turn hos ht ho hs hdr (λk hk hn=>hb k hk λhx=>hn (by rw [e,hx];simp)) hh (λb hb'=>by
    rw [e',Option.mem_toList]at hb'
    rcases hbk b hb' with h1|h1
    · exact .inl (by rw [e,h1];simp)
    exact .inr h1) (by rw [e'];cases o'<;>simp)
theorem Reach.Y5{w0:World}{C:List Nat}{σ0 σ:aj}{w w':World}{r':Res}{H:List Res}(o':Option Nat)(h:Reach w0 C σ0 σ w H)(e':r'.bl=o'.toList)
    (hos:w'.os=w.os) (ht:w'.tape=w.tape) (ho:w'.output=w.output) (hs:w.heap.size<=w'.heap.size) (hdr:w.drawn<=w'.drawn)
    (hb: ∀k,k<w.heap.size->w'.heap[k]? =w.heap[k]?)
    (hh:r'.holds w') (hbk: ∀b,o'=some b->w.heap.size<=b):Reach w0 C σ0 σ w' (r'::H):=
  h.gain hos ht ho hs hdr hb hh (λb hb'=>hbk b (by rw [e',Option.mem_toList]at hb';exact hb')) (by rw [e'];cases o'<;>simp)
def Res.star(H:List Res):Res where
  bl:=iJ H
  holds w:= ∀r∈H,r.holds w
  lt w b hb h:=by obtain ⟨r,hr,hrb⟩:=yQ.1 hb;exact r.lt w b hrb (h r hr)
  keep w w' hb h r hr:=r.keep w w' (λb hrb=>hb b (yQ.2 ⟨r,hr,hrb⟩)) (h r hr)
theorem Reach.Vd{w0:World}{C:List Nat}{σ0 σ:aj}{w:World}{G F:List Res}(h:Reach w0 C σ0 σ w (Res.star G::F)):Reach w0 C σ0 σ w (G++F):=by
  have hm: ∀r∈G, ∀b∈r.bl,b∈(Res.star G).bl:=λr hr b hb=>yQ.2 ⟨r,hr,hb⟩
  have hS:=jm (a:=Res.star G) (l:=F)
  refine ⟨h.os,h.tape,h.output,h.size,h.frame,h.le,h.fit,h.fresh,λr hr=> ?_,λr hr b hb=> ?_,?_,λr hr b hb=> ?_,h.drawn⟩
  · rcases List.mem_append.1 hr with hr|hr
    · exact h.holds _ hS r hr
    exact h.holds r (pF _ hr)
  · rcases List.mem_append.1 hr with hr|hr
    · exact h.own _ hS b (hm r hr b hb)
    exact h.own r (pF _ hr) b hb
  · have:=h.nodup
    simpa [iJ,Res.star]using this
  rcases List.mem_append.1 hr with hr|hr
  · exact h.apart _ hS b (hm r hr b hb)
  exact h.apart r (pF _ hr) b hb
theorem Reach.star{w0:World}{C:List Nat}{σ0 σ:aj}{w:World}{G F:List Res}(h:Reach w0 C σ0 σ w (G++F)):Reach w0 C σ0 σ w (Res.star G::F):=by
  refine ⟨h.os,h.tape,h.output,h.size,h.frame,h.le,h.fit,h.fresh,λr hr=> ?_,λr hr b hb=> ?_,?_,λr hr b hb=> ?_,h.drawn⟩
  · rcases List.mem_cons.1 hr with rfl|hr
    · exact λr hr=>h.holds r (List.mem_append_left _ hr)
    exact h.holds r (List.mem_append_right _ hr)
  · rcases List.mem_cons.1 hr with rfl|hr
    · obtain ⟨r,hr,hrb⟩:=yQ.1 hb;exact h.own r (List.mem_append_left _ hr) b hrb
    exact h.own r (List.mem_append_right _ hr) b hb
  · have:=h.nodup
    simpa [iJ,Res.star]using this
  rcases List.mem_cons.1 hr with rfl|hr
  · obtain ⟨r,hr,hrb⟩:=yQ.1 hb;exact h.apart r (List.mem_append_left _ hr) b hrb
  exact h.apart r (List.mem_append_right _ hr) b hb
def aj.with(σ:aj)(b:Nat)(o:Obj):aj:=λk=>if k=b then some o else σ k
theorem aj.dk_{σ:aj}{b:Nat}{o:Obj}(h:σ b=none):σ.le (σ.with b o):=λk x hk=>by
  unfold aj.with
  split
  · subst_vars;rw [h]at hk;cases hk
  exact hk
theorem Reach.sealB{w0:World}{C:List Nat}{σ0 σ:aj}{w:World}{r:Res}{F:List Res}(h:Reach w0 C σ0 σ w (r::F)){b:Nat}{o:Obj}(hb:r.bl=[b])(ho:w.heap[b]? =some o):
    Reach w0 C σ0 (σ.with b o) w F/\σ.le (σ.with b o):=by
  have hbm:b∈r.bl:=by rw [hb];exact List.mem_singleton.2 rfl
  have h0:=h.apart r (jm ..) b hbm
  have hle:=aj.dk_ (o:=o) h0
  have hF:=h.sub (List.sublist_cons_self r F)
  refine ⟨⟨hF.os,hF.tape,hF.output,hF.size,hF.frame,h.le.trans hle,?_,?_,hF.holds,hF.own,hF.nodup,?_,hF.drawn⟩,hle⟩
  · intro k x hk
    unfold aj.with at hk
    split at hk
    · subst_vars;rw [ho];exact hk
    exact h.fit k x hk
  · intro k x hk
    unfold aj.with at hk
    split at hk
    · subst_vars;exact .inr (h.own r (jm ..) _ hbm)
    exact h.fresh k x hk
  intro r' hr' k hk
  unfold aj.with
  split
  · subst_vars
    have hnd:=h.nodup
    simp only [iJ,List.flatMap_cons,hb,List.singleton_append,List.nodup_cons]at hnd
    exact absurd (yQ.2 ⟨r',hr',hk⟩) hnd.1
  exact hF.apart r' hr' k hk
structure Ctx where
  P:Program
  w0:World
  C:List Nat
  σ0:aj
  n:Nat
  rnd:Option Nat:=none
  own:Option (List Deferred):=none
@[reducible]def fence(r:Option Nat):Fence:={fn:=λ_=>True,depth:=none,alive:=false,round:=r}
theorem hb_{r:Option Nat}{n:Nat}{P:Program}{f:FuncId}{args:Array Value}{w:World}{R:Ending->World->Prop}:CallsIn (fence r) n P f args w R↔Calls P f args w R:=(callsIn_wide (n:=n)).symm.symm
structure MarksOk (w0:World) (rnd:Option Nat) (own:Option (List Deferred)) (ds:List Deferred) (σ:aj) (H:List Res) (w:World):Prop where
  ex:own=none-> ∃Ds:List Nat,ds=Ds.map (λD=>{target:= .collected D,args:= #[]})/\Ds.Nodup/\ ∀D∈Ds,w.heap[D]? =some (.deferred (some []))/\w0.heap.size<=D/\D∉iJ H/\σ D=none
  is: ∀l,own=some l->ds=l
  rc: ∀l,rnd=some l->ds=[]/\(∃r,w.heap[l]? =some (.loop r))/\l∉iJ H/\σ l=none
theorem MarksOk.nil{w0:World}{σ:aj}{H:List Res}{w:World}:MarksOk w0 none none [] σ H w:=⟨λ_=>⟨[],rfl,List.nodup_nil,by simp⟩,(λ_ h=>by cases h),λ_ h=>by cases h⟩
theorem Reach.far{σ σ':aj}{H H':List Res}{w w':World}(k:Reach w (iJ H) σ σ' w' H'){D:Nat}{o:Obj}(g1:w.heap[D]? =some o)(g3:D∉iJ H)(g4:σ D=none):w'.heap[D]? =some o/\D∉iJ H'/\σ' D=none:=by
  have hlt:=(Array.getElem?_eq_some_iff.1 g1).1
  refine ⟨by rw [k.frame D hlt g3];exact g1,λhx=> ?_,?_⟩
  · obtain ⟨r,hr,hb⟩:=yQ.1 hx
    rcases k.own r hr D hb with h4|h4
    · exact g3 h4
    omega
  cases hs:σ' D with
  |none=>rfl
  |some o=>
    rcases k.fresh D o hs with h4|h4|h4
    · rw [g4]at h4;cases h4
    · exact absurd h4 g3
    omega
theorem MarksOk.step{w0:World}{rnd:Option Nat}{own:Option (List Deferred)}{ds:List Deferred}{σ σ':aj}{H H':List Res}{w w':World}(h:MarksOk w0 rnd own ds σ H w)(k:Reach w (iJ H) σ σ' w' H'):MarksOk w0 rnd own ds σ' H' w':=by
  refine ⟨λho=> ?_,h.is,λl hl=> ?_⟩
  · obtain ⟨Ds,h1,h2,h3⟩:=h.ex ho
    refine ⟨Ds,h1,h2,λD hD=> ?_⟩
    obtain ⟨g1,g2,g3,g4⟩:=h3 D hD
    obtain ⟨k1,k2,k3⟩:=k.far g1 g3 g4
    exact ⟨k1,g2,k2,k3⟩
  obtain ⟨g0,⟨r,g1⟩,g3,g4⟩:=h.rc l hl
  obtain ⟨k1,k2,k3⟩:=k.far g1 g3 g4
  exact ⟨g0,⟨r,k1⟩,k2,k3⟩
structure RM (X:Ctx) (a:Act) (σ:aj) (w:World) (H:List Res):Prop extends Reach X.w0 X.C X.σ0 σ w H where
  marks:MarksOk X.w0 X.rnd X.own a.defers σ H w
theorem RM.step{X:Ctx}{a a':Act}{σ σ':aj}{H H':List Res}{w w':World}(h:RM X a σ w H)(k:Reach w (iJ H) σ σ' w' H')(hd:a'.defers=a.defers):RM X a' σ' w' H':=by
  refine ⟨?_,by rw [hd];exact h.marks.step k⟩
  have h1:Reach X.w0 X.C X.σ0 σ w (H++[]):=by rw [List.append_nil];exact h.toReach
  have:=h1.call k
  rwa [List.append_nil]at this
theorem RM.by{X:Ctx}{a:Act}{σ σ':aj}{H H':List Res}{w:World}(h:RM X a σ w H)(f: ∀{u0 C0 τ0} w,Reach u0 C0 τ0 σ w H->Reach u0 C0 τ0 σ' w H'):RM X a σ' w H':=h.step (f w h.self) rfl
theorem RM.perm{X:Ctx}{a:Act}{σ:aj}{H H':List Res}{w:World}(h:RM X a σ w H)(hp:H'.Perm H):RM X a σ w H':=h.by λ_ k=>k.perm hp
theorem RM.drew{X:Ctx}{a:Act}{σ:aj}{H:List Res}{w:World}(h:RM X a σ w H):RM X a σ w.drew H:=h.step h.self.drew rfl
abbrev QP:=Exit->Env->aj->List Res->Prop
def low(X:Ctx)(Q:QP):Exit->Act->World->Prop:=λex a w=>
  ∃e σ H,St X.n e a/\RM X a σ w H/\Q ex e σ H
def TC(X:Ctx)(Q:QP)(c:Code)(e:Env)(σ:aj)(H:List Res):Prop:=
  ∀w a,RM X a σ w H->St X.n e a->c.wpIn (fence X.rnd) 0 X.P (low X Q) a w
def TL(X:Ctx)(ops:Array Oper)(Q:QP)(l:List Oper)(e:Env)(σ:aj)(H:List Res):Prop:=
  ∀w a,RM X a σ w H->St X.n e a->wpListIn (fence X.rnd) 0 X.P ops (low X Q) l a w
def OpOk (X : Ctx) (o : Oper) (e : Env) (σ : aj) (H : List Res) (K : Env -> aj -> List Res -> Prop) : Prop :=
  ∀(u0:World) (C0:List Nat) (τ0:aj) w a,Reach u0 C0 τ0 σ w H->St X.n e a-> ∀(K':Act->World->Prop) (Q:Exit->Act->World->Prop),
    (∀e' σ' H' a' w',K e' σ' H'->Reach u0 C0 τ0 σ' w' H'->StD X.n e' a a'->K' a' w')->o.wpIn (fence X.rnd) 0 X.P a w K' Q
theorem OpOk.at{X:Ctx}{o:Oper}{e:Env}{σ:aj}{H:List Res}{K:Env->aj->List Res->Prop}(h:OpOk X o e σ H K){w:World}{a:Act}(hw:RM X a σ w H)(ha:St X.n e a){K':Act->World->Prop}{Q:Exit->Act->World->Prop}
    (k: ∀e' σ' H' a' w',K e' σ' H'->RM X a' σ' w' H'->St X.n e' a'->K' a' w'):o.wpIn (fence X.rnd) 0 X.P a w K' Q:=
  h w (iJ H) σ w a hw.self ha K' Q λe' σ' H' a' w' hk hw' ha'=>k e' σ' H' a' w' hk (hw.step hw' ha'.same) ha'.toSt
def jR(σ:aj)(H:List Res)(w:World):Prop:=(∀b o,σ b=some o->w.heap[b]? =some o)/\ ∀r∈H,r.holds w
theorem Reach.sees{w0:World}{C:List Nat}{σ0 σ:aj}{w:World}{H:List Res}(h:Reach w0 C σ0 σ w H):jR σ H w:=⟨h.fit,h.holds⟩
def OpVal(P:Program)(n:Nat)(o:Oper)(e:Env)(σ:aj)(H:List Res)(v:Value):Prop:=
  ∀w,jR σ H w->(execOp (ev e) o).run P w= .ok (.value v) w
theorem zg_{P:Program}{ρ:Operand->Value}{o:Oper}{w w':World}{x:Next}(h:(execOp ρ o).run P w= .ok x w')(hx: ∀d,x≠ .defer d): ∀c,o.op≠ .defer c:=λc hc=>by
  unfold execOp at h
  rw [hc]at h
  simp only [Sem.run_bind]at h
  cases hr:(resolve ρ c o.type).run P w with
  |ok d w2=>rw [hr]at h;simp only [Result.andThen_ok,Sem.run_pure]at h;injection h with h1 _;exact hx d h1.symm
  |halt y w2=>rw [hr]at h;simp [Result.andThen]at h
theorem Oper.b1_{r:Option Nat}{P:Program}{o:Oper}{a:Act}{w w':World}{x:Next}{K:Act->World->Prop}{Q:Exit->Act->World->Prop}
    (h:(execOp a.eval o).run P w= .ok x w') (hx: ∀d,x≠ .defer d) (k:o.uponIn (fence r) 0 P a K Q (.ok x w')):o.wpIn (fence r) 0 P a w K Q:=by
  refine ⟨λ_ _=>trivial,?_⟩
  rw [Oper.semAt_eq _ _ _ (zg_ h hx),h];exact k
theorem Oper.vZ{r:Option Nat}{P:Program}{o:Oper}{a:Act}{w w':World}{v:Value}{K:Act->World->Prop}{Q:Exit->Act->World->Prop}
    (h:(execOp a.eval o).run P w= .ok (.value v) w') (k:K (a.put o.dst v) w'):o.wpIn (fence r) 0 P a w K Q:=Oper.b1_ h (λ_=>by simp) k
theorem Oper.be_{r:Option Nat}{P:Program}{o:Oper}{a:Act}{w w':World}{K:Act->World->Prop}{Q:Exit->Act->World->Prop}
    (h:(execOp a.eval o).run P w= .ok .skip w') (k:K (a.put o.dst undef) w'):o.wpIn (fence r) 0 P a w K Q:=Oper.b1_ h (λ_=>by simp) k
theorem Oper.b4_{r:Option Nat}{P:Program}{o:Oper}{a:Act}{w w':World}{f:FuncId}{args:Array Value}{K:Act->World->Prop}{Q:Exit->Act->World->Prop}{R:Ending->World->Prop}
    (h:(execOp a.eval o).run P w= .ok (.enter f args) w') (hc:Calls P f args w' R) (k: ∀e w'',R e w''-> ∃v,e= .returned v/\K (a.put o.dst v) w''):o.wpIn (fence r) 0 P a w K Q:=by
  refine Oper.b1_ h (λ_=>by simp) ⟨λh=>(by cases h),hb_.2 (hc.mono λe w'' he=> ?_)⟩
  obtain ⟨v,rfl,hv⟩:=k e w'' he
  exact hv
theorem mz_(a:Act)(d:Option Tmp)(v:Value):(a.put d v).defers=a.defers:=by cases d<;>rfl
theorem OpVal.ok{X:Ctx}{o:Oper}{e:Env}{σ:aj}{H:List Res}{v:Value}{d:Nat}{K:Env->aj->List Res->Prop}
    (h:OpVal X.P X.n o e σ H v) (hd:o.dst=some d) (hn:Nat.blt d X.n=true) (k:K (upd e d v) σ H):OpOk X o e σ H K:=by
  intro u0 C0 τ0 w a hw ha K' Q hK
  refine Oper.vZ (w':=w) (v:=v) (by rw [ha.eval'];exact h w hw.sees) (hK _ _ _ _ _ k hw ⟨?_,mz_ _ _ _⟩)
  rw [hd];exact ha.put (by simpa [Nat.blt_eq]using hn) v
section rules
variable {X:Ctx} {ops:Array Oper} {Q:QP} {e:Env} {σ:aj} {H:List Res} {o:Oper} {rest:List Oper}
theorem TL.nil(h:Q .normal e σ H):TL X ops Q [] e σ H:=λw a hw ha=>⟨e,σ,H,ha,hw,h⟩
theorem ν(hg:o.guard=none)(h:OpOk X o e σ H (TL X ops Q rest)):TL X ops Q (o::rest) e σ H:=λw a hw ha=>
  wpListIn_plain hg λK hK=>h.at hw ha λe' σ' H' a' w' hk hw' ha'=>hK a' w' (hk w' a' hw' ha')
theorem U9{n:Nat}{e:Env}{a:Act}(ha:St n e a){ops:Array Oper}{j dj:Nat}{oj:Oper}(hj:ops[j]? =some oj)(hd:oj.dst=some dj)(hn:Nat.blt dj n=true):
    yielded ops a.tmps j=match e dj with| .bool b=>some b|_=>none:=by
  have hlt:dj<a.tmps.size:=by rw [ha.size];simpa [Nat.blt_eq]using hn
  have hg:=ha.get dj
  rw [Array.getD_eq_getD_getElem?,Array.getElem?_eq_getElem hlt,Option.getD_some]at hg
  unfold yielded
  rw [hj]
  simp only [Option.bind_some,hd,Array.getElem?_eq_getElem hlt,hg]
  generalize e dj=v
  cases v<;>rfl
theorem TL.gon{j dj:Nat}{b:Bool}{oj:Oper}(hg:o.guard=some (j,b))(hj:ops[j]? =some oj)(hd:oj.dst=some dj)(hn:Nat.blt dj X.n=true)(hb:e dj= .bool b)
    (h:OpOk X o e σ H (TL X ops Q rest)):TL X ops Q (o::rest) e σ H:=λw a hw ha=>
  wpListIn_step λK hK=>by
    rw [if_pos (by simp [Region.wanted,hg,U9 ha hj hd hn,hb])]
    exact h.at hw ha λe' σ' H' a' w' hk hw' ha'=>hK a' w' (hk w' a' hw' ha')
theorem TL.goff{j dj d:Nat}{b b':Bool}{oj:Oper}(hg:o.guard=some (j,b))(hj:ops[j]? =some oj)(hd:oj.dst=some dj)(hn:Nat.blt dj X.n=true)(hb:e dj= .bool b')(hbb:b'= !b)
    (ho:o.dst=some d) (hdn:Nat.blt d X.n=true) (h:TL X ops Q rest (upd e d undef) σ H):TL X ops Q (o::rest) e σ H:=λw a hw ha=>
  wpListIn_step λK hK=>by
    rw [if_neg (by simp [Region.wanted,hg,U9 ha hj hd hn,hb,hbb])]
    rw [ho]
    exact ⟨λ_ _=>trivial,hK _ _ (h w _ (hw.step hw.self (mz_ _ _ _)) (ha.put (by simpa [Nat.blt_eq]using hdn) undef))⟩
theorem TL.goff'{j dj d:Nat}{b:Bool}{oj:Oper}(hg:o.guard=some (j,b))(hj:ops[j]? =some oj)(hd:oj.dst=some dj)(hn:Nat.blt dj X.n=true)(hb:e dj=undef)
    (ho:o.dst=some d) (hdn:Nat.blt d X.n=true) (h:TL X ops Q rest (upd e d undef) σ H):TL X ops Q (o::rest) e σ H:=λw a hw ha=>
  wpListIn_step λK hK=>by
    rw [if_neg (by simp [Region.wanted,hg,U9 ha hj hd hn,hb,undef])]
    rw [ho]
    exact ⟨λ_ _=>trivial,hK _ _ (h w _ (hw.step hw.self (mz_ _ _ _)) (ha.put (by simpa [Nat.blt_eq]using hdn) undef))⟩
variable {c c1 c2:Code}
theorem η{id:Nat}{l:List Oper}(h:TL X l.toArray Q l e σ H):TC X Q (.region id l.toArray false) e σ H:=λw a hw ha=>
  wpIn_region_lit (h w a hw ha)
theorem TC.weak{Q':QP}(h:TC X Q c e σ H)(hq: ∀ex e σ H,Q ex e σ H->Q' ex e σ H):TC X Q' c e σ H:=λw a hw ha=>
  Go.wpIn_mono (h w a hw ha) λex a' w' ⟨e',σ',H',h1,h2,h3⟩=>⟨e',σ',H',h1,h2,hq _ _ _ _ h3⟩
@[reducible]def seqQ(K:Env->aj->List Res->Prop)(Q:QP):QP:=λex=>match ex with
  | .normal=>K
  |ex=>Q ex
theorem ζ(h:TC X (seqQ (TC X Q c2) Q) c1 e σ H):TC X Q (.seq c1 c2) e σ H:=λw a hw ha=>
  Go.wpIn_seq (Go.wpIn_mono (h w a hw ha) λex a' w' ⟨e',σ',H',h1,h2,h3⟩=>by
    cases ex
    case normal=>exact h3 w' a' h2 h1
    all_goals exact ⟨e',σ',H',h1,h2,h3⟩)
theorem TC.cut(J:Env->aj->List Res->Prop)(h:TC X (seqQ J Q) c1 e σ H)(k: ∀e' σ' H',J e' σ' H'->TC X Q c2 e' σ' H'):TC X Q (.seq c1 c2) e σ H:=
  ζ (h.weak λex e' σ' H' hq=>by cases ex<;>first|exact k _ _ _ hq|exact hq)
theorem ι(h:Q .normal e σ H):TC X Q .skip e σ H:=λw a hw ha=>Go.wpIn_skip ⟨e,σ,H,ha,hw,h⟩
theorem TC.exit{id:Nat}(h:Q (.exit id) e σ H):TC X Q (.exit id) e σ H:=λw a hw ha=>Go.wpIn_exit ⟨e,σ,H,ha,hw,h⟩
theorem TC.ret(h:Q .ret e σ H):TC X Q .ret e σ H:=λw a hw ha=>Go.wpIn_ret ⟨e,σ,H,ha,hw,h⟩
theorem TC.cond{x:Operand}{t:Bool}(hc:ev e x= .bool t)(ht:t=true->TC X Q c1 e σ H)(hf:t=false->TC X Q c2 e σ H):TC X Q (.cond x c1 c2) e σ H:=λw a hw ha=>
  Go.wpIn_cond_split (t:=t) (by rw [ha.eval];exact hc) (λh=>ht h w a hw ha) (λh=>hf h w a hw ha)
theorem TC.condD{x:Operand}{p:Prop}[Decidable p](hc:ev e x= .bool (decide p))(ht:p->TC X Q c1 e σ H)(hf: ¬ p->TC X Q c2 e σ H):TC X Q (.cond x c1 c2) e σ H:=
  TC.cond hc (λh=>ht (jg h)) (λh=>hf (jo h))
@[reducible]def blkQ(id:Nat)(Q:QP):QP:=λex=>match ex with
  | .exit i=>if i=id then Q .normal else Q (.exit i)
  |ex=>Q ex
theorem υ{id:Nat}(h:TC X (blkQ id Q) c e σ H):TC X Q (.block id c) e σ H:=λw a hw ha=>
  Go.wpIn_block (Go.wpIn_mono (h w a hw ha) λex a' w' ⟨e',σ',H',h1,h2,h3⟩=>by
    cases ex with
    |exit i=>
      simp only [Exit.inBlock]
      by_cases hi:i=id
      · rw [if_pos hi];simp only [blkQ,if_pos hi]at h3;exact ⟨e',σ',H',h1,h2,h3⟩
      rw [if_neg hi];simp only [blkQ,if_neg hi]at h3;exact ⟨e',σ',H',h1,h2,h3⟩
    |normal=>exact ⟨e',σ',H',h1,h2,h3⟩
    |goto l=>exact ⟨e',σ',H',h1,h2,h3⟩
    |ret=>exact ⟨e',σ',H',h1,h2,h3⟩
    |panic l=>exact ⟨e',σ',H',h1,h2,h3⟩
    |outgrown=>exact ⟨e',σ',H',h1,h2,h3⟩)
theorem Δ{id:Nat}(h:Q .normal e σ H):blkQ id Q (.exit id) e σ H:=by simp only [blkQ,if_true];exact h
theorem m2_{p:Nat->Prop}(h: ∃k,p k): ∃k,p k/\ ∀j,p j->k<=j:=by
  obtain ⟨k,hk⟩:=h
  induction k using Nat.strongRecOn with
  | _ k ih =>
    by_cases hx: ∃j,j<k/\p j
    · obtain ⟨j,hj,hp⟩:=hx
      exact ih j hj hp
    exact ⟨k,hk,λj hj=>Nat.le_of_not_lt λhlt=>hx ⟨j,hlt,hj⟩⟩
theorem TC.loop(I:Nat->Env->aj->List Res->Prop)(k0:Nat)(h0:I k0 e σ H)
    (round: ∀k e' σ' H',I k e' σ' H'->TC X (seqQ (λe'' σ'' H''=> ∃k',k'<k/\I k' e'' σ'' H'') Q) c e' σ' H'):TC X Q (.loop c) e σ H:=by
  intro w a hw ha
  classical
  have hex: ∃k, ∃e' σ' H',St X.n e' a/\RM X a σ' w H'/\I k e' σ' H':=⟨k0,e,σ,H,ha,hw,h0⟩
  let G:Act->World->Nat->Prop:=λa w k=> ∃e' σ' H',St X.n e' a/\RM X a σ' w H'/\I k e' σ' H'
  let μ:Act->World->Nat:=λa w=>if h: ∃k,G a w k then Classical.choose (m2_ h) else 0
  have hμ: ∀a w,(∃k,G a w k)->G a w (μ a w)/\ ∀j,G a w j->μ a w<=j:=λa w h=>by
    have:=Classical.choose_spec (m2_ h)
    simp only [μ,h,dif_pos];exact this
  refine Go.wpIn_loop (λa w=> ∃k,G a w k) μ hex λa w hI=> ?_
  obtain ⟨⟨e',σ',H',h1,h2,h3⟩,hmin⟩:=hμ a w hI
  refine Go.wpIn_mono (round _ e' σ' H' h3 w a h2 h1) λex a' w' ⟨e'',σ'',H'',k1,k2,k3⟩=> ?_
  cases ex
  case normal=>
    obtain ⟨k',hlt,hk'⟩:=k3
    have hg:G a' w' k':=⟨e'',σ'',H'',k1,k2,hk'⟩
    exact ⟨⟨k',hg⟩,Nat.lt_of_le_of_lt ((hμ a' w' ⟨k',hg⟩).2 k' hg) hlt⟩
  all_goals exact ⟨e'',σ'',H'',k1,k2,k3⟩
theorem TC.perm{H':List Res}(hs:H'.Perm H)(h:TC X Q c e σ H'):TC X Q c e σ H:=λw a hw ha=>h w a (hw.perm hs) ha
theorem TL.perm{H':List Res}{l:List Oper}(hs:H'.Perm H)(h:TL X ops Q l e σ H'):TL X ops Q l e σ H:=λw a hw ha=>h w a (hw.perm hs) ha
theorem Ny{α:Type}{H F:List α}{r:α}{i:Nat}(hi:H[i]? =some r)(hF:H.eraseIdx i=F):(r::F).Perm H:=by
  subst hF
  induction H generalizing i with
  |nil=>simp at hi
  |cons x H ih=>
    cases i with
    |zero=>simp at hi;subst hi;exact List.Perm.refl _
    |succ i=>simp at hi;exact (List.Perm.swap x r _).trans ((ih hi).cons x)
theorem TC.front(i:Nat){r:Res}{F:List Res}(hi:H[i]? =some r)(hF:H.eraseIdx i=F)(h:TC X Q c e σ (r::F)):TC X Q c e σ H:=TC.perm (Ny hi hF) h
theorem θ(i:Nat){r:Res}{F:List Res}{l:List Oper}(hi:H[i]? =some r)(hF:H.eraseIdx i=F)(h:TL X ops Q l e σ (r::F)):TL X ops Q l e σ H:=TL.perm (Ny hi hF) h
end rules
def Py(args:List Value):Env:=λt=>(args[t]?).getD undef
def AU(P:Program)(fn:Func)(n:Nat)(e:Env)(H:List Res)(r:Value):Prop:=
  ∀w a,St n e a->(∀s∈H,s.holds w)->(results fn a.tmps).run P w= .ok r w
structure RetOk (P:Program) (fn:Func) (n:Nat) (Post:Value->aj->List Res->Prop) (ex:Exit) (e:Env) (σ:aj) (H:List Res):Prop where
  ex:ex= .ret\/ex= .normal
  val: ∃r H',AU P fn n e H r/\H'.Sublist H/\Post r σ H'
@[reducible]def retQ(P:Program)(fn:Func)(n:Nat)(Post:Value->aj->List Res->Prop):QP:=RetOk P fn n Post
theorem mh_{P:Program}{fn:Func}{n:Nat}{tmps:Array Value}{R:Ending->World->Prop}{v:Value}{rs:World->Prop}(hR: ∀w,rs w->(results fn tmps).run P w= .ok v w/\R (.returned v) w):
    ∀(Ds:List Nat) (w:World),Ds.Nodup->(∀D∈Ds,w.heap[D]? =some (.deferred (some [])))->(∀(w:World) (D:Nat),D∈Ds->rs w->w.heap[D]? =some (.deferred (some []))->rs (w.putObj D (.deferred none)))->rs w->
    LeavesInM (fence none) n P fn tmps R (Ds.map λD=>{target:= .collected D,args:= #[]}) .returning w
  |[],w,_,_,_,h=>by
    have:=hR w h
    exact ⟨_,this.1,this.2⟩
  |D::Ds,w,hn,hd,hk,h=>by
    rw [List.nodup_cons]at hn
    have h1:=hd D (jm ..)
    refine ⟨by simp,.inl ⟨D,_,rfl,run_takeDeferred h1,mh_ hR Ds _ hn.2 (λE hE=> ?_) (λw E hE=>hk w E (pF _ hE)) (hk w D (jm ..) h h1)⟩⟩
    rw [World.putObj_heap_other (λe=>hn.1 (by rw [<-e];exact hE))]
    exact hd E (pF _ hE)
theorem Reach.other{w0:World}{C:List Nat}{σ0 σ:aj}{w:World}{H:List Res}{D:Nat}{o:Obj}(h:Reach w0 C σ0 σ w H)(hD:w0.heap.size<=D)(hb:D∉iJ H)(hs:σ D=none):Reach w0 C σ0 σ (w.putObj D o) H:=by
  have hh: ∀k,k≠D->(w.putObj D o).heap[k]? =w.heap[k]? :=λk hk=>World.putObj_heap_other hk
  refine ⟨h.os,h.tape,h.output,by simpa [World.putObj]using h.size,λk hk hkC=> ?_,h.le,λb o' hb'=> ?_,h.fresh,λr hr=> ?_,h.own,h.nodup,h.apart,h.drawn⟩
  · rw [hh k (by omega)];exact h.frame k hk hkC
  · rw [hh b (λe=>by subst e;rw [hs]at hb';cases hb')];exact h.fit b o' hb'
  exact r.keep w _ (λb hbr=>hh b λe=>hb (e▸yQ.2 ⟨r,hr,hbr⟩)) (h.holds r hr)
theorem Con.mk{P:Program}{f:FuncId}{fn:Func}{c:Code}{args:List Value}{n:Nat}{σ:aj}{H:List Res}{Post:Value->aj->List Res->Prop}
    (hf:P.funcs[f]? =some fn) (hb:fn.body=some c) (hn:fn.ntmps=n) (ha:Nat.ble args.length n=true)
    (h: ∀w0,TC ⟨P,w0,iJ H,σ,n,none,none⟩ (retQ P fn n Post) c (Py args) σ H):Con P f args.toArray σ H Post:=by
  intro w hw
  refine hb_.1 (callsIn_of_wp_marks (F:=fence none) (n:=0) hf hb trivial (Go.wpIn_mono (h w w _ ⟨hw,MarksOk.nil⟩ ⟨?_,?_⟩) ?_))
  · have:=Nat.le_of_ble_eq_true ha
    simp [hn];omega
  · intro t
    have:=Nat.le_of_ble_eq_true ha
    simp only [Array.getD_eq_getD_getElem?,Array.getElem?_append,Py,List.getElem?_toArray,List.size_toArray,Array.getElem?_replicate]
    split
    · rfl
    rename_i hlt
    rw [List.getElem?_eq_none (by omega)]
    split<;>rfl
  rintro ex a w' ⟨e',σ',H',h1,h2,⟨hex,r,H'',h3,h4,h5⟩⟩
  obtain ⟨Ds,hds,hnd,hD⟩:=h2.marks.ex rfl
  have hfin:LeavesInM (fence none) 0 P fn a.tmps (λe w'=> ∃r σ' H',e= .returned r/\Post r σ' H'/\Reach w (iJ H) σ σ' w' H') a.defers .returning w':=by
    rw [hds]
    refine mh_ (rs:=λu=>Reach w (iJ H) σ σ' u H') (v:=r) (λu hu=>⟨h3 u a h1 hu.holds,r,σ',H'',rfl,h5,hu.sub h4⟩) Ds w' hnd (λD hd=>(hD D hd).1) (λu D hd hu _=> ?_) h2.toReach
    obtain ⟨_,g2,g3,g4⟩:=hD D hd
    exact hu.other g2 g3 g4
  rcases hex with rfl|rfl
  · exact hfin
  exact hfin
section ret
variable {P:Program} {fn:Func} {n:Nat} {Post:Value->aj->List Res->Prop} {e:Env} {σ:aj} {H:List Res}
theorem RetOk.of{ex:Exit}{r:Value}(H':List Res)(hex:ex= .ret\/ex= .normal)(h:AU P fn n e H r)(hs:H'.Sublist H)(hp:Post r σ H'):RetOk P fn n Post ex e σ H:=⟨hex,r,H',h,hs,hp⟩
theorem AU.eq{r r':Value}(h:AU P fn n e H r)(hr:r=r'):AU P fn n e H r':=hr▸h
theorem AU.none(hr:fn.results= #[]):AU P fn n e H (.tuple #[]):=λw a ha _=>results_none hr _ _ _
theorem AU.one{t:Nat}(hr:fn.results= #[.tmp t]):AU P fn n e H (e t):=λw a ha _=>by
  rw [results_tmp hr,ha.get]
theorem AU.two{t u:Nat}(hr:fn.results= #[.tmp t,.tmp u]):AU P fn n e H (.tuple #[e t,e u]):=λw a ha _=>by
  rw [results_tmp2 hr,ha.get,ha.get]
end ret
def szOf(P:Program)(E:TypeId):Option Nat:=(P.info? E).map (·.size)
def byOf(P:Program)(E:TypeId):Option Nat:=(P.info? E).map (·.bytes)
def zeroOf(P:Program)(E:TypeId):Option Value:=(P.info? E).bind (·.zero)
def aggOf(P:Program)(E:TypeId):Option Bool:=(P.underlying E).map fun| .struct _=>true| .array _ _=>true|_=>false
def foOf(P:Program)(T i:Nat):Option Nat:=match P.underlying T with
  |some (.struct fs)=>(fs[i]?).bind λf=>(szOf P f.type).bind λs=>if s=0 then none else some f.offset
  |_=>none
def plOf(P:Program)(T:TypeId):Option (Array (Nat×Nat)):=match P.underlying T with
  |some (.struct fs)=>fs.toList.mapM (λf=>(szOf P f.type).map λs=>(f.offset,s)) |>.map List.toArray
  |_=>none
def plainF(P:Program)(f:FuncId):Bool:=match P.funcs[f]? with
  | some fn => !(fn.name == "runtime.NumGoroutine") && !fn.body.isNone
  |none=>false
theorem UN{P:Program}{E s:Nat}(h:szOf P E=some s): ∃i,P.info? E=some i/\i.size=s:=by
  simpa [szOf]using h
theorem zC{P:Program}{E s:Nat}(h:szOf P E=some s)(w:World):(sizeOf E).run P w= .ok s w:=by
  obtain ⟨i,hi,rfl⟩:=UN h
  simp [sizeOf,typeInfo,hi]
theorem Va{P:Program}{E:Nat}{z:Value}(h:zeroOf P E=some z)(w:World):(zeroValue E).run P w= .ok z w:=by
  unfold zeroOf at h
  cases hi:P.info? E with
  |none=>simp [hi]at h
  |some i=>simp [hi]at h;simp [zeroValue,typeInfo,hi,h]
theorem lc_{P:Program}{E:Nat}{b:Bool}(h:aggOf P E=some b)(w:World):(isAgg E).run P w= .ok b w:=by
  unfold aggOf at h
  cases hu:P.underlying E with
  |none=>simp [hu]at h
  |some d=>
    simp [hu]at h
    subst h
    simp only [isAgg,Sem.run_bind,run_underlying hu,Result.andThen_ok]
    cases d<;>rfl
theorem U_{P:Program}{f:FuncId}(h:plainF P f=true)(args:Array Value)(w:World):(callFunc f args).run P w= .ok (.enter f args) w:=by
  unfold plainF at h
  cases hf:P.funcs[f]? with
  |none=>simp [hf]at h
  |some fn=>
    simp only [hf,Bool.and_eq_true,Bool.not_eq_true']at h
    have h1 : ¬ fn.name = "runtime.NumGoroutine" := by simpa using h.1
    have h2: ¬ fn.body=none:=λhx=>by have:=h.2;simp [hx]at this
    simp [callFunc,hf,h1,h2]
def loc(b k:Nat):Value:= .pointer (some ⟨b,k,none⟩)
def oN(v:Value)(k:Nat):Value:=match v with
  | .slice (some a) _ _=> .pointer (some (a.add k))
  |_=>undef
def nb_(v:Value)(n:Nat):Prop:= ∃a c,v= .slice a n c/\(a=none->n=0/\c=0)/\n<=c
theorem nb_.some{v:Value}{n:Nat}(h:nb_ v n){i:Nat}(hi:i<n): ∃a c,v= .slice (some a) n c/\n<=c:=by
  obtain ⟨a,c,rfl,h0,hc⟩:=h
  cases a with
  |none=>have:=(h0 rfl).1;omega
  |some a=>exact ⟨a,c,rfl,hc⟩
theorem Z8(a:Addr)(m n:Nat):(a.add m).add n=a.add (m+n):=by
  unfold Addr.add
  by_cases hm:m=0<;>by_cases hn:n=0<;>simp [hm,hn,Nat.add_assoc]
theorem DJ(b k n:Nat):(⟨b,k,none⟩:Addr).add n=⟨b,k+n,none⟩:=by
  unfold Addr.add;split<;>simp_all
def κ(b:Nat)(cs:Array Value)(E:TypeId):Res where
  bl:=[b]
  holds w:=w.heap[b]? =some (.cells cs E (0,0))
  lt w k hk h:=by rw [List.mem_singleton.1 hk];exact (Array.getElem?_eq_some_iff.1 h).1
  keep w w' hb h:=by rw [hb b (List.mem_singleton.2 rfl)];exact h
def Res.row (E size : Nat) (v : Value) (n : Nat) (xs : List Value) : Res where
  bl:=v.ownBlock.toList
  holds w:=w.ownsRow 0 E size v n xs/\(∀u∈xs,u.oneCell'=true)/\n<=281474976710656
  lt w k hk h:=(h.1.lt k (Option.mem_toList.1 hk)).2
  keep w w' hb h:=by
    obtain ⟨h,ho⟩:=h
    refine ⟨⟨h.1,?_⟩,ho⟩
    rcases h.2 with hn|⟨g,cap,cur,rfl,h0,hg,rest⟩
    · exact .inl hn
    exact .inr ⟨g,cap,cur,rfl,h0,by rw [hb g (Option.mem_toList.2 rfl)];exact hg,rest⟩
def aj.cell(σ:aj)(a:Addr):Option Value:=match σ a.block with
  |some (.cells c _ _)=>if a.spot.isSome then none else c[a.off]?
  |_=>none
theorem jR.cell{σ:aj}{H:List Res}{w:World}(h:jR σ H w){a:Addr}{v:Value}(hc:σ.cell a=some v):w.cell? a=some v:=by
  unfold aj.cell at hc
  unfold World.cell?
  cases hb:σ a.block with
  |none=>simp [hb]at hc
  |some o=>rw [h.1 _ _ hb];rw [hb]at hc;exact hc
theorem aj.le.cell{σ τ:aj}(h:σ.le τ){a:Addr}{v:Value}(hc:σ.cell a=some v):τ.cell a=some v:=by
  unfold aj.cell at *
  cases hb:σ a.block with
  |none=>simp [hb]at hc
  |some o=>rw [h _ _ hb];rw [hb]at hc;exact hc
structure RV (σ:aj) (size:Nat) (v:Value) (n:Nat) (xs:List Value):Prop where
  sl:nb_ v n
  len:xs.length=n * size
  cell: ∀a m c,v= .slice (some a) m c-> ∀j u,xs[j]? =some u->σ.cell (a.add j)=some u
  one: ∀u∈xs,u.oneCell'=true
  big:n<=281474976710656
theorem RV.mono{σ τ:aj}{size:Nat}{v:Value}{n:Nat}{xs:List Value}(h:RV σ size v n xs)(hle:σ.le τ):RV τ size v n xs:=
  ⟨h.sl,h.len,λa m c hv j u hj=>hle.cell (h.cell a m c hv j u hj),h.one,h.big⟩
theorem RV.nil(σ:aj)(size:Nat):RV σ size (.slice none 0 0) 0 []:=⟨⟨none,0,rfl,λ_=>⟨rfl,rfl⟩,Nat.le_refl _⟩,by simp,(λ_ _ _ h=>by cases h),by simp,Nat.zero_le _⟩
theorem isSl_row{w:World}{E size:Nat}{v:Value}{n:Nat}{xs:List Value}(h:w.ownsRow 0 E size v n xs):nb_ v n:=by
  rcases h.2 with ⟨rfl,rfl⟩|⟨g,cap,cur,rfl,_,_,h1,h2,_⟩
  · exact ⟨none,0,rfl,λ_=>⟨rfl,rfl⟩,Nat.le_refl _⟩
  exact ⟨some _,cap,rfl,by simp,h1⟩
section opval
variable {P:Program} {n:Nat} {e:Env} {σ:aj} {H:List Res} {o:Oper} {x y:Operand}
theorem OpVal.move(ho:o.op= .move x):OpVal P n o e σ H (ev e x):=λw _=>by simp [execOp,ho]
theorem OpVal.assign(ho:o.op= .assign x):OpVal P n o e σ H (ev e x):=λw _=>by simp [execOp,ho]
theorem OpVal.pickT{c a b:Operand}{t:Bool}{v:Value}(ho:o.op= .pick c a b)(hc:ev e c= .bool t)(ht:t=true)(hv:ev e a=v):OpVal P n o e σ H v:=λw _=>by
  subst ht hv;simp [execOp,ho,hc,asBool]
theorem OpVal.pickF{c a b:Operand}{t:Bool}{v:Value}(ho:o.op= .pick c a b)(hc:ev e c= .bool t)(ht:t=false)(hv:ev e b=v):OpVal P n o e σ H v:=λw _=>by
  subst ht hv;simp [execOp,ho,hc,asBool]
theorem gx_(op:BinOp)(t:TypeId)(x y:Operand)(k k':IntKind)(a b:Int)(w:World):(eqGuard op t x y (.int k a) (.int k' b)).run P w= .ok () w:=by
  cases op<;>simp [eqGuard]
theorem OpVal.bin{op:BinOp}{T T':TypeId}{k:IntKind}{a b:Int}{v:Value}(ho:o.op= .binOp op T x y T')(hx:ev e x= .int k a)(hy:ev e y= .int k b)
    (hr: ∀w,(binOp op T (.int k a) (.int k b)).run P w= .ok v w):OpVal P n o e σ H v:=λw _=>by
  simp [execOp,ho,hx,hy,gx_,hr]
section
variable {T T':TypeId} {k:IntKind} {a b:Int}
theorem OpVal.addW(ho:o.op= .binOp .add T x y T')(hx:ev e x= .int k a)(hy:ev e y= .int k b):OpVal P n o e σ H (.int k (k.wrap (a+b))):= .bin ho hx hy λw=>by simp [binOp,Op.intArith]
theorem OpVal.subW(ho:o.op= .binOp .sub T x y T')(hx:ev e x= .int k a)(hy:ev e y= .int k b):OpVal P n o e σ H (.int k (k.wrap (a - b))):= .bin ho hx hy λw=>by simp [binOp,Op.intArith]
theorem OpVal.lss(ho:o.op= .binOp .lss T x y T')(hx:ev e x= .int k a)(hy:ev e y= .int k b):OpVal P n o e σ H (.bool (decide (a<b))):= .bin ho hx hy λw=>by simp [binOp,Op.intCmp]
theorem OpVal.leq(ho:o.op= .binOp .leq T x y T')(hx:ev e x= .int k a)(hy:ev e y= .int k b):OpVal P n o e σ H (.bool (decide (a<=b))):= .bin ho hx hy λw=>by simp [binOp,Op.intCmp]
theorem OpVal.gtr(ho:o.op= .binOp .gtr T x y T')(hx:ev e x= .int k a)(hy:ev e y= .int k b):OpVal P n o e σ H (.bool (decide (b<a))):= .bin ho hx hy λw=>by simp [binOp,Op.intCmp]
theorem OpVal.geq(ho:o.op= .binOp .geq T x y T')(hx:ev e x= .int k a)(hy:ev e y= .int k b):OpVal P n o e σ H (.bool (decide (b<=a))):= .bin ho hx hy λw=>by simp [binOp,Op.intCmp]
theorem OpVal.eql(ho:o.op= .binOp .eql T x y T')(hx:ev e x= .int k a)(hy:ev e y= .int k b):OpVal P n o e σ H (.bool (decide (a=b))):= .bin ho hx hy λw=>by
  simp [binOp,Op.intCmp,BEq.beq]
theorem OpVal.neq(ho:o.op= .binOp .neq T x y T')(hx:ev e x= .int k a)(hy:ev e y= .int k b):OpVal P n o e σ H (.bool (decide (a≠b))):= .bin ho hx hy λw=>by
  simp [binOp,Op.intCmp,bne,BEq.beq]
end
theorem UM{a:Int}(h0: -9223372036854775808<=a)(h1:a<=9223372036854775807):IntKind.i64.wrap a=a:=by rw [IntKind.wrap_i64];omega
section
variable {T T':TypeId} {a b:Int}
theorem OpVal.add(ho:o.op= .binOp .add T x y T')(hx:ev e x= .int .i64 a)(hy:ev e y= .int .i64 b)(h0: -9223372036854775808<=a+b)(h1:a+b<=9223372036854775807):OpVal P n o e σ H (.int .i64 (a+b)):=by
  have:=OpVal.addW (P:=P) (n:=n) (σ:=σ) (H:=H) ho hx hy;rwa [UM h0 h1]at this
theorem OpVal.succ{k:Nat}(ho:o.op= .binOp .add T x y T')(hx:ev e x= .int .i64 (k:Nat))(hy:ev e y= .int .i64 1)(h1:k<9223372036854775807):OpVal P n o e σ H (.int .i64 ((k+1:Nat):Int)):=by
  have:=OpVal.add (P:=P) (n:=n) (σ:=σ) (H:=H) ho hx hy (by omega) (by omega)
  simpa using this
end
theorem OpVal.not{T:TypeId}{b:Bool}(ho:o.op= .unOp .not T x)(hx:ev e x= .bool b):OpVal P n o e σ H (.bool (!b)):=λw _=>by
  simp [execOp,ho,hx,Op.unary]
theorem OpVal.extract{i:Nat}{vs:Array Value}{v:Value}(ho:o.op= .extract x i)(hx:ev e x= .tuple vs)(hv:vs[i]? =some v):OpVal P n o e σ H v:=λw _=>by
  simp [execOp,ho,hx,Instr.extract,hv]
theorem OpVal.nilCheck{a:Addr}(ho:o.op= .nilCheck x)(hx:ev e x= .pointer (some a)):OpVal P n o e σ H (.pointer (some a)):=λw _=>by
  simp [execOp,ho,hx]
theorem OpVal.makeFunc{f:FuncId}{first cap:Array Operand}(ho:o.op= .makeFunc (.func f) first cap):OpVal P n o e σ H (.func (.func f) (first.map (ev e)) (cap.map (ev e))):=λw _=>by
  simp [execOp,ho,Instr.makeFunc]
theorem OpVal.lenStr{t:TypeId}{s:ByteArray}(ho:o.op= .call {callee:= .builtin .len,args:= #[x],argTypes:= #[t]})(ht:P.underlying t=some .string)(hx:ev e x= .string s):
    OpVal P n o e σ H (.int .i64 (s.size:Nat)):=λw _=>by
  simp [execOp,ho,resolve,invoke,builtin,hx,Builtin.len_,run_underlying ht,goInt]
theorem xs_{T i off:Nat}(h:foOf P T i=some off): ∃fs f s,P.underlying T=some (.struct fs)/\fs[i]? =some f/\szOf P f.type=some s/\s≠0/\f.offset=off:=by
  unfold foOf at h
  split at h
  · rename_i fs hu
    cases hf:fs[i]? with
    |none=>simp [hf]at h
    |some f=>
      cases hs:szOf P f.type with
      |none=>simp [hf,hs]at h
      |some s=>simp [hf,hs]at h;exact ⟨fs,f,s,hu,hf,hs,h.1,h.2⟩
  cases h
theorem OpVal.fieldAddr{T i off:Nat}{a:Addr}(ho:o.op= .fieldAddr T x i)(hf:foOf P T i=some off)(hx:ev e x= .pointer (some a)):OpVal P n o e σ H (.pointer (some (a.add off))):=λw _=>by
  obtain ⟨fs,f,s,hu,hfi,hs,h0,rfl⟩:=xs_ hf
  simp [execOp,ho,hx,Instr.fieldAt,run_underlying hu,hfi,Instr.sureAddr,fieldPlace,zC hs,h0]
theorem OpVal.aS{T i off b k:Nat}(ho:o.op= .fieldAddr T x i)(hf:foOf P T i=some off)(hx:ev e x=loc b k):OpVal P n o e σ H (loc b (k+off)):=by
  have:=OpVal.fieldAddr (P:=P) (n:=n) (σ:=σ) (H:=H) ho hf hx
  rwa [DJ]at this
theorem OpVal.bh_{T i off m k:Nat}{v:Value}(ho:o.op= .fieldAddr T x i)(hf:foOf P T i=some off)(hx:ev e x=oN v k)(hs:nb_ v m)(hj:0<m):OpVal P n o e σ H (oN v (k+off)):=by
  obtain ⟨a,c,rfl,_⟩:=hs.some hj
  have:=OpVal.fieldAddr (P:=P) (n:=n) (σ:=σ) (H:=H) ho hf hx
  rwa [Z8]at this
theorem OpVal.index{T E size m:Nat}{k:IntKind}{i:Int}{v:Value}(ho:o.op= .indexAddr T x y)(ht:P.underlying T=some (.slice E))(hz:szOf P E=some size)(hx:ev e x=v)(hy:ev e y= .int k i)
    (hs:nb_ v m) (h0:0<=i) (h1:i<m):OpVal P n o e σ H (oN v (i.toNat * size)):=λw _=>by
  obtain ⟨a,c,rfl,_⟩:=hs.some (i:=i.toNat) (by omega)
  simp [execOp,ho,hx,hy,Instr.indexAt,asIntOf,run_underlying ht,zC hz,h0,h1,oN]
theorem OpVal.bU{T E size m:Nat}{k:IntKind}{i:Nat}{v:Value}(ho:o.op= .indexAddr T x y)(ht:P.underlying T=some (.slice E))(hz:szOf P E=some size)(hx:ev e x=v)(hy:ev e y= .int k (i:Nat))
    (hs:nb_ v m) (h1:i<m):OpVal P n o e σ H (oN v (i * size)):=by
  have:=OpVal.index (P:=P) (n:=n) (σ:=σ) (H:=H) ho ht hz hx hy hs (by omega) (by omega)
  simpa using this
theorem OpVal.c6_{T E size m b q:Nat}{k:IntKind}{i:Int}(ho:o.op= .indexAddr T x y)(ht:P.underlying T=some (.array m E))(hz:szOf P E=some size)(hx:ev e x=loc b q)(hy:ev e y= .int k i)
    (h0:0<=i) (h1:i<m):OpVal P n o e σ H (loc b (q+i.toNat * size)):=λw _=>by
  simp [execOp,ho,hx,hy,Instr.indexAt,asIntOf,run_underlying ht,zC hz,h0,h1,loc,Instr.sureAddr,DJ]
theorem OpVal.indexStr{T:Nat}{k:IntKind}{i:Int}{s:ByteArray}{u:UInt8}(ho:o.op= .index T x y)(ht:P.underlying T=some .string)(hx:ev e x= .string s)(hy:ev e y= .int k i)
    (h0:0<=i) (hu:s.data.toList[i.toNat]? =some u):OpVal P n o e σ H (.int .u8 (u.toNat:Nat)):=λw _=>by
  have hs:s[i.toNat]? =some u:=by
    obtain ⟨h,hu'⟩:=List.getElem?_eq_some_iff.1 hu
    have hlt:i.toNat<s.size:=h
    rw [getElem?_pos s i.toNat hlt]
    rw [<-hu'];rfl
  simp [execOp,ho,hx,hy,Instr.index,asIntOf,run_underlying ht,h0,hs]
theorem OpVal.cx_{T:Nat}{k:IntKind}{i:Nat}{s:ByteArray}{u:UInt8}(ho:o.op= .index T x y)(ht:P.underlying T=some .string)(hx:ev e x= .string s)(hy:ev e y= .int k (i:Nat))
    (hu:s.data.toList[i]? =some u):OpVal P n o e σ H (.int .u8 (u.toNat:Nat)):=
  OpVal.indexStr ho ht hx hy (by omega) (by simpa using hu)
theorem f6_{T:TypeId}(hA:aggOf P T=some false){a:Addr}{u:Value}{w:World}(hc:w.cell? a=some u):(loadVar T a).run P w= .ok u w:=by
  simp [loadVar,lc_ hA,hc]
theorem g0_{T s:TypeId}(hA:aggOf P T=some true)(hz:szOf P T=some s){a:Addr}{us:List Value}{w:World}(hl:us.length=s)(hc: ∀j u,us[j]? =some u->w.cell? (a.add j)=some u):
    (loadVar T a).run P w= .ok (.agg us.toArray) w:=by
  have:=run_loadCells_list (P:=P) w a us hc
  subst hl
  simp [loadVar,lc_ hA,zC hz,this]
theorem ht_{w:World}{b:Nat}{cs:Array Value}{E k:Nat}{u:Value}(h:w.heap[b]? =some (.cells cs E (0,0)))(hk:cs[k]? =some u):w.cell? ⟨b,k,none⟩=some u:=by
  simp [World.cell?,h,hk]
theorem OpVal.aZ{T b k E i:Nat}{cs:Array Value}{u:Value}(ho:o.op= .load T x)(hA:aggOf P T=some false)(hx:ev e x=loc b k)(hi:H[i]? =some (κ b cs E))(hk:cs[k]? =some u):OpVal P n o e σ H u:=λw hw=>by
  have hm:κ b cs E∈H:=List.mem_of_getElem? hi
  have hc:=ht_ (hw.2 _ hm) hk
  simp [execOp,ho,hx,Instr.loadAt,Instr.sureAddr,loc,f6_ hA hc]
theorem OpVal.bj_{T b k E i s:Nat}{cs:Array Value}{us:List Value}(ho:o.op= .load T x)(hA:aggOf P T=some true)(hz:szOf P T=some s)(hx:ev e x=loc b k)(hi:H[i]? =some (κ b cs E))
    (hl:us.length=s) (hk:(cs.toList.drop k).take s=us):OpVal P n o e σ H (.agg us.toArray):=λw hw=>by
  have hm:κ b cs E∈H:=List.mem_of_getElem? hi
  have hh:=hw.2 _ hm
  have hc: ∀j u,us[j]? =some u->w.cell? ((⟨b,k,none⟩:Addr).add j)=some u:=λj u hj=>by
    rw [DJ]
    refine ht_ hh ?_
    rw [<-hk,List.getElem?_take]at hj
    split at hj
    · simpa [List.getElem?_drop]using hj
    cases hj
  simp [execOp,ho,hx,Instr.loadAt,Instr.sureAddr,loc,g0_ hA hz hl hc]
theorem OpVal.loadEl{T k size m:Nat}{v u:Value}{xs:List Value}(ho:o.op= .load T x)(hA:aggOf P T=some false)(hx:ev e x=oN v k)(hR:RV σ size v m xs)(hk:xs[k]? =some u):OpVal P n o e σ H u:=λw hw=>by
  have hlt:k<xs.length:=(List.getElem?_eq_some_iff.1 hk).1
  have hm:0<m:=by rw [hR.len]at hlt;exact Nat.pos_of_ne_zero λh=>by simp [h]at hlt
  obtain ⟨a,c,rfl,_⟩:=hR.sl.some hm
  have hc:=hw.cell (hR.cell a m c rfl k u hk)
  simp [execOp,ho,hx,Instr.loadAt,Instr.sureAddr,oN,f6_ hA hc]
theorem OpVal.dd_{T k size m s:Nat}{v:Value}{xs us:List Value}(ho:o.op= .load T x)(hA:aggOf P T=some true)(hz:szOf P T=some s)(hx:ev e x=oN v k)(hR:RV σ size v m xs)(hs:0<s)
    (hl:us.length=s) (hk:(xs.drop k).take s=us):OpVal P n o e σ H (.agg us.toArray):=λw hw=>by
  have hlt:k<xs.length:=by
    rcases Nat.lt_or_ge k xs.length with h|h
    · exact h
    rw [List.drop_eq_nil_of_le h]at hk;simp at hk;subst hk;simp at hl;omega
  have hm:0<m:=by rw [hR.len]at hlt;exact Nat.pos_of_ne_zero λh=>by simp [h]at hlt
  obtain ⟨a,c,rfl,_⟩:=hR.sl.some hm
  have hc: ∀j u,us[j]? =some u->w.cell? ((a.add k).add j)=some u:=λj u hj=>by
    rw [Z8]
    refine hw.cell (hR.cell a m c rfl (k+j) u ?_)
    rw [<-hk,List.getElem?_take]at hj
    split at hj
    · simpa [List.getElem?_drop]using hj
    cases hj
  simp [execOp,ho,hx,Instr.loadAt,Instr.sureAddr,oN,g0_ hA hz hl hc]
theorem OpVal.loadRow{T k E size m i:Nat}{v u:Value}{xs:List Value}(ho:o.op= .load T x)(hA:aggOf P T=some false)(hx:ev e x=oN v k)(hi:H[i]? =some (Res.row E size v m xs))(hk:xs[k]? =some u):OpVal P n o e σ H u:=λw hw=>by
  have hm':Res.row E size v m xs∈H:=List.mem_of_getElem? hi
  have hR:w.ownsRow 0 E size v m xs:=(hw.2 _ hm').1
  have hlt:k<xs.length:=(List.getElem?_eq_some_iff.1 hk).1
  have hm:0<m:=by rw [hR.1]at hlt;exact Nat.pos_of_ne_zero λh=>by simp [h]at hlt
  rcases hR.2 with ⟨_,h0⟩|⟨g,cap,cur,rfl,_⟩
  · omega
  have hc:=hR.cells (g:=g) rfl k u hk
  simp [execOp,ho,hx,Instr.loadAt,Instr.sureAddr,oN,f6_ hA hc]
theorem OpVal.c0_{T k E size m i s:Nat}{v:Value}{xs us:List Value}(ho:o.op= .load T x)(hA:aggOf P T=some true)(hz:szOf P T=some s)(hx:ev e x=oN v k)(hi:H[i]? =some (Res.row E size v m xs))(hs:0<s)
    (hl:us.length=s) (hk:(xs.drop k).take s=us):OpVal P n o e σ H (.agg us.toArray):=λw hw=>by
  have hm':Res.row E size v m xs∈H:=List.mem_of_getElem? hi
  have hR:w.ownsRow 0 E size v m xs:=(hw.2 _ hm').1
  have hlt:k<xs.length:=by
    rcases Nat.lt_or_ge k xs.length with h|h
    · exact h
    rw [List.drop_eq_nil_of_le h]at hk;simp at hk;subst hk;simp at hl;omega
  have hm:0<m:=by rw [hR.1]at hlt;exact Nat.pos_of_ne_zero λh=>by simp [h]at hlt
  rcases hR.2 with ⟨_,h0⟩|⟨g,cap,cur,rfl,_⟩
  · omega
  have hc: ∀j u,us[j]? =some u->w.cell? (((⟨g,0,none⟩:Addr).add k).add j)=some u:=λj u hj=>by
    rw [Z8]
    refine hR.cells (g:=g) rfl (k+j) u ?_
    rw [<-hk,List.getElem?_take]at hj
    split at hj
    · simpa [List.getElem?_drop]using hj
    cases hj
  simp [execOp,ho,hx,Instr.loadAt,Instr.sureAddr,oN,g0_ hA hz hl hc]
theorem n2_ {fs : List Field} {pl : List (Nat × Nat)} (h : fs.mapM (λf => (szOf P f.type).map λs => (f.offset, s)) = some pl) (w : World) :
    (fs.mapM (m:=Sem) λf=>Prod.mk f.offset <$> sizeOf f.type).run P w= .ok pl w:=by
  induction fs generalizing pl with
  |nil=>simp at h;subst h;simp
  |cons f fs ih=>
    simp only [List.mapM_cons]at h ⊢
    cases hs:szOf P f.type with
    |none=>simp [hs]at h
    |some s=>
      simp [hs]at h
      cases ht:fs.mapM (λf=>(szOf P f.type).map λs=>(f.offset,s))with
      |none=>rw [ht]at h;simp at h
      |some q=>
        rw [ht]at h;simp at h;subst h
        simp [zC hs,ih ht]
theorem OpVal.build{T:TypeId}{parts:Array (Nat×Operand)}{pl:Array (Nat×Nat)}{z:Value}{cs:Array Value}(ho:o.op= .build T parts)(hp:plOf P T=some pl)(hz:zeroOf P T=some z)
    (hf:Instr.fill (pl[·]?) z.cells (parts.toList.map λx=>(x.1,ev e x.2))=some cs):OpVal P n o e σ H (.agg cs):=λw _=>by
  unfold plOf at hp
  split at hp
  · rename_i fs hu
    cases hm:fs.toList.mapM (λf=>(szOf P f.type).map λs=>(f.offset,s))with
    |none=>simp [hm]at hp
    |some q=>
      simp [hm]at hp;subst hp
      have hr:=n2_ (P:=P) hm w
      simp only [execOp,ho,Sem.run_bind,Instr.build,Va hz,Result.andThen_ok,run_underlying hu]
      rw [Array.mapM_eq_mapM_toList]
      simp only [List.getElem?_toArray]at hf
      simp [hr,hf]
  cases hp
theorem OpVal.c7_{T E s m:TypeId}{parts:Array (Nat×Operand)}{z:Value}{cs:Array Value}(ho:o.op= .build T parts)(hu:P.underlying T=some (.array m E))(hs:szOf P E=some s)(hz:zeroOf P T=some z)
    (hf:Instr.fill (λi=>some (i * s,s)) z.cells (parts.toList.map λx=>(x.1,ev e x.2))=some cs):OpVal P n o e σ H (.agg cs):=λw _=>by
  simp [execOp,ho,Instr.build,Va hz,run_underlying hu,zC hs,hf]
theorem OpVal.dr_{S T:TypeId}{k k':IntKind}{a:Int}{d:TypeDesc}(ho:o.op= .convert S T x)(hs:P.underlying S=some d)(ht:P.underlying T=some (.int k'))(hx:ev e x= .int k a):OpVal P n o e σ H (.int k' (k'.wrap a)):=λw _=>by
  simp [execOp,ho,hx,convert,run_underlying hs,run_underlying ht,Conv.intToInt]
end opval
def Exit.cm_(Q:Exit->Act->World->Prop):Exit->Act->World->Prop
  | .panic _,_,_=>False
  |e,a,w=>Q e a w
def oP(cs:List Value)(k:Nat)(vs:List Value):List Value:=cs.take k++vs++cs.drop (k+vs.length)
def Pe (place : Nat -> Option (Nat × Nat)) (cells : List Value) : List (Nat × Value) -> Option (List Value)
  |[]=>some cells
  |(i,v)::rest=>
    match place i with
    |none=>none
    |some (off,size)=>
      if v.cells.toList.length≠size || off+v.cells.toList.length>cells.length then none
      else Pe place (oP cells off v.cells.toList) rest
theorem I1_(l:List Value): ∀(j off:Nat) (cs:Array Value),off+j+l.length<=cs.size->
    ((l.zipIdx j).foldl (λ(cs:Array Value) (x:Value×Nat)=>cs.setIfInBounds (off+x.2) x.1) cs).toList=oP cs.toList (off+j) l:=by
  induction l with
  |nil=>intro j off cs _;simp [oP]
  |cons v l ih=>
    intro j off cs h
    simp only [List.length_cons]at h
    rw [List.zipIdx_cons,List.foldl_cons,ih (j+1) off _ (by simp;omega)]
    simp only [oP,Array.toList_setIfInBounds,List.length_cons]
    apply List.ext_getElem?
    intro q
    simp only [List.getElem?_append,List.length_take,gy,gB,List.getElem?_take,List.getElem?_set,List.length_cons,List.getElem?_drop,Array.length_toList]
    have hm:min (off+(j+1)) cs.size=off+j+1:=by omega
    have hm2:min (off+j) cs.size=off+j:=by omega
    simp only [hm,hm2]
    by_cases h1:q<off+j
    · have a1:q<off+j+1:=by omega
      have a2:q<off+(j+1):=by omega
      have a3: ¬ off+j=q:=by omega
      have a4:q<off+j+1+l.length:=by omega
      have a5:q<off+j+(l.length+1):=by omega
      simp [h1,a1,a2,a3,a4,a5]
    by_cases h2:q=off+j
    · subst h2
      have a1:off+j<off+(j+1):=by omega
      have a2:off+j<cs.size:=by omega
      have a3:off+j<off+j+1+l.length:=by omega
      simp [a1,a2,a3]
    by_cases h3:q<off+j+(l.length+1)
    · have a1: ¬ q<off+j+1:=by omega
      have a2:q<off+j+1+l.length:=by omega
      have a3:q - (off+j)=(q - (off+j+1))+1:=by omega
      simp [h1,h3,a1,a2,a3]
    have a1: ¬ q<off+j+1+l.length:=by omega
    have a3: ¬ off+j=off+(j+1)+l.length+(q - (off+j+1+l.length)):=by omega
    have a4:off+(j+1)+l.length+(q - (off+j+1+l.length))=off+j+(l.length+1)+(q - (off+j+(l.length+1))):=by omega
    rw [if_neg (by omega),if_neg (by omega),if_neg (by omega),a4]
theorem p5_(place:Nat->Option (Nat×Nat)): ∀(parts:List (Nat×Value)) (cells:Array Value),Instr.fill place cells parts=(Pe place cells.toList parts).map List.toArray
  |[],cells=>by simp [Instr.fill,Pe]
  |(i,v)::rest,cells=>by
    unfold Instr.fill Pe
    cases hp:place i with
    |none=>rfl
    |some x=>
      obtain ⟨off,size⟩:=x
      simp only [Array.length_toList]
      by_cases hc:(decide (v.cells.size≠size) || decide (off+v.cells.size>cells.size))=true
      · simp only [hc,if_true];rfl
      simp only [hc]
      simp only [ne_eq,Bool.or_eq_true,jV,not_or,Decidable.not_not,gt_iff_lt,Nat.not_lt]at hc
      rw [p5_ place rest]
      congr 2
      have:=I1_ v.cells.toList 0 off cells (by simp;omega)
      simp only [Nat.add_zero]at this
      rw [<-this,<-Array.foldl_toList]
      simp
section
variable {X:Ctx} {e:Env} {σ:aj} {H F:List Res} {o:Oper} {x y:Operand} {K:Env->aj->List Res->Prop}
theorem yh{n:Nat}{a:Act}(ha:St n e a){d:Nat}(hd:o.dst=some d)(hn:Nat.blt d n=true)(v:Value):StD n (upd e d v) a (a.put o.dst v):=by
  rw [hd];exact ⟨ha.put (by simpa [Nat.blt_eq]using hn) v,rfl⟩
theorem m6_{n:Nat}{a:Act}(ha:St n e a)(hd:o.dst=none)(v:Value):StD n e a (a.put o.dst v):=by
  rw [hd];exact ha.d
theorem Reach.cf_{w0:World}{C:List Nat}{σ0:aj}{w:World}(h:Reach w0 C σ0 σ w H)(cs:Array Value)(E:TypeId):Reach w0 C σ0 σ (w.alloc (.cells cs E)) (κ w.heap.size cs E::H):=
  h.Y5 (some _) rfl rfl rfl rfl (by simp) (Nat.le_refl _) (λk hk=>gi_ w _ k hk) (heap_alloc_new w _) (λb hb=>by cases hb;exact Nat.le_refl _)
theorem OpOk.box{E d:Nat}{v:Value}(ho:o.op= .box E x)(hd:o.dst=some d)(hn:Nat.blt d X.n=true)(hx:ev e x=v)(k: ∀b,K (upd e d (loc b 0)) σ (κ b v.cells E::H)):OpOk X o e σ H K:=by
  subst hx
  intro u0 C0 τ0 w a hw ha K' Q hK
  refine Oper.vZ (w':=w.alloc (.cells (ev e x).cells E)) (v:=loc w.heap.size 0) ?_ (hK _ _ _ _ _ (k w.heap.size) (hw.cf_ _ _) (yh ha hd hn _))
  rw [ha.eval']
  simp [execOp,ho,Instr.box,newVar,newRow,loc]
theorem OpOk.alloc{E d:Nat}{z:Value}(ho:o.op= .alloc E)(hz:zeroOf X.P E=some z)(hd:o.dst=some d)(hn:Nat.blt d X.n=true)(k: ∀b,K (upd e d (loc b 0)) σ (κ b z.cells E::H)):OpOk X o e σ H K:=by
  intro u0 C0 τ0 w a hw ha K' Q hK
  refine Oper.vZ (w':=w.alloc (.cells z.cells E)) (v:=loc w.heap.size 0) ?_ (hK _ _ _ _ _ (k w.heap.size) (hw.cf_ _ _) (yh ha hd hn _))
  simp [execOp,ho,Instr.alloc,Va hz,newVar,newRow,loc]
theorem Reach.setCells{w0:World}{C:List Nat}{σ0:aj}{w:World}{b:Nat}{cs cs':Array Value}{E:TypeId}(h:Reach w0 C σ0 σ w (κ b cs E::F)):Reach w0 C σ0 σ (w.setRow b cs') (κ b cs' E::F):=
  h.G9 (some _) (some _) rfl rfl rfl rfl rfl (by simp) (Nat.le_refl _) (λk hk hne=>setRow_other w b k cs' (λhx=>hne (by subst hx;rfl))) (setRow_heap w b cs cs' E _ (h.holds _ (jm ..))) (λk hk=> .inl (by cases hk;rfl))
theorem OpOk.store{T b k s:Nat}{E:TypeId}{cs cs':Array Value}{v:Value}(ho:o.op= .store T x y)(hs:szOf X.P T=some s)(hd:o.dst=none)(hx:ev e x=loc b k)(hv:ev e y=v)(hvs:v.cells.size=s)
    (h1: ∀u∈v.cells.toList,u.oneCell'=true) (hfit:Nat.ble (k+s) cs.size=true) (hcs:(oP cs.toList k v.cells.toList).toArray=cs') (kk:K e σ (κ b cs' E::F)):OpOk X o e σ (κ b cs E::F) K:=by
  subst hv hcs
  intro u0 C0 τ0 w a hw ha K' Q hK
  have hb:w.heap[b]? =some (.cells cs E (0,0)):=hw.holds _ (jm ..)
  have hfit':=Nat.le_of_ble_eq_true hfit
  have hst:=run_storeCells_at X.P b k E (ev e y).cells.toList 0 cs w hb (by simp [hvs];omega) h1
  refine Oper.be_ (w':=w.setRow b (oP cs.toList k (ev e y).cells.toList).toArray) ?_ (hK _ _ _ _ _ kk hw.setCells (m6_ ha hd _))
  rw [ha.eval']
  simp only [Nat.add_zero]at hst
  simp [execOp,ho,hx,loc,Instr.storeAt,Instr.sureAddr,storeVar,zC hs,hvs,oP,hst]
theorem OpOk.store1{T b k:Nat}{E:TypeId}{cs cs':Array Value}{v:Value}(ho:o.op= .store T x y)(hs:szOf X.P T=some 1)(hd:o.dst=none)(hx:ev e x=loc b k)(hv:ev e y=v)(hc:v.cells= #[v])(h1:v.oneCell'=true)
    (hfit:Nat.ble (k+1) cs.size=true) (hcs:(oP cs.toList k [v]).toArray=cs') (kk:K e σ (κ b cs' E::F)):OpOk X o e σ (κ b cs E::F) K:=
  OpOk.store (s:=1) ho hs hd hx hv (by rw [hc];rfl) (by rw [hc];intro u hu;simp at hu;subst hu;exact h1) hfit (by rw [hc];exact hcs) kk
section
variable {T b k:Nat} {E:TypeId} {cs cs':Array Value} (ho:o.op= .store T x y) (hs:szOf X.P T=some 1) (hd:o.dst=none) (hx:ev e x=loc b k) (hfit:Nat.ble (k+1) cs.size=true)
include ho hs hd hx hfit
theorem OpOk.b8_{q:IntKind}{i:Int}(hv:ev e y= .int q i)(hcs:(oP cs.toList k [.int q i]).toArray=cs')(kk:K e σ (κ b cs' E::F)):OpOk X o e σ (κ b cs E::F) K:=OpOk.store1 ho hs hd hx hv rfl rfl hfit hcs kk
theorem OpOk.gK{a:Option Addr}{m c:Nat}(hv:ev e y= .slice a m c)(hcs:(oP cs.toList k [.slice a m c]).toArray=cs')(kk:K e σ (κ b cs' E::F)):OpOk X o e σ (κ b cs E::F) K:=OpOk.store1 ho hs hd hx hv rfl rfl hfit hcs kk
theorem OpOk.c3_{g m:Nat}(hv:ev e y=loc g m)(hcs:(oP cs.toList k [loc g m]).toArray=cs')(kk:K e σ (κ b cs' E::F)):OpOk X o e σ (κ b cs E::F) K:=OpOk.store1 ho hs hd hx hv rfl rfl hfit hcs kk
theorem OpOk.b7_{g:ByteArray}(hv:ev e y= .string g)(hcs:(oP cs.toList k [.string g]).toArray=cs')(kk:K e σ (κ b cs' E::F)):OpOk X o e σ (κ b cs E::F) K:=OpOk.store1 ho hs hd hx hv rfl rfl hfit hcs kk
end
theorem World.ownsRow.spliced{w:World}{base E size:Nat}{g n cap:Nat}{xs vs:List Value}{k:Nat}(P:Program)(h:w.ownsRow base E size (.slice (some ⟨g,0,none⟩) n cap) n xs)(hk:k+vs.length<=xs.length)(h1: ∀u∈vs,u.oneCell'=true):
    ∃w',(storeCells ⟨g,k,none⟩ vs 0).run P w= .ok () w'/\w'.ownsRow base E size (.slice (some ⟨g,0,none⟩) n cap) n (oP xs k vs)/\w.grownBy w' (some g)/\w.drawn<=w'.drawn:=by
  rcases h.2 with ⟨h',_⟩|⟨g',cap',cur,h',hb,hg,hnc,hcm,hcs,htake⟩
  · simp at h'
  simp only [Value.slice.injEq,Option.some.injEq,Addr.mk.injEq,and_true,true_and]at h'
  obtain ⟨rfl,rfl⟩:=h'
  have hxl:xs.length<=cur.size:=by rw [<-htake];simp;omega
  have hst:=run_storeCells_at P g k E vs 0 cur w hg (by omega) h1
  simp only [Nat.add_zero]at hst
  refine ⟨_,hst,⟨?_,.inr ⟨g,cap,_,rfl,hb,setRow_heap w g cur _ E _ hg,hnc,hcm,?_,?_⟩⟩,⟨rfl,rfl,rfl,by simp,λk' _ hk'=>setRow_other w g k' _ (λe=>hk' (by simp [e]))⟩,Nat.le_refl _⟩
  · simp only [oP,gB,List.length_take,List.length_drop]
    have:=h.1
    omega
  · simp only [List.size_toArray,gB,List.length_take,List.length_drop,Array.length_toList]
    omega
  have hx:=h.1
  have hlen:(cur.toList.take k++vs).length=k+vs.length:=by simp;omega
  rw [List.take_append,hlen,<-htake,oP,List.take_take,List.drop_take]
  rw [List.take_of_length_le (by rw [hlen];omega),Nat.min_eq_left (by omega)]
theorem op_{xs vs:List Value}{k:Nat}(h: ∀u∈xs,u.oneCell'=true)(h': ∀u∈vs,u.oneCell'=true): ∀u∈oP xs k vs,u.oneCell'=true:=by
  intro u hu
  simp only [oP,List.mem_append]at hu
  rcases hu with (hu|hu)|hu
  · exact h u (List.mem_of_mem_take hu)
  · exact h' u hu
  exact h u (List.mem_of_mem_drop hu)
theorem OpOk.b6_{T k s E size m:Nat}{v u:Value}{xs:List Value}(ho:o.op= .store T x y)(hs:szOf X.P T=some s)(hd:o.dst=none)(hx:ev e x=oN v k)(hv:ev e y=u)(hus:u.cells.size=s)
    (h1: ∀c∈u.cells.toList,c.oneCell'=true) (h0:0<s) (hk:k+s<=xs.length) (kk:K e σ (Res.row E size v m (oP xs k u.cells.toList)::F)):OpOk X o e σ (Res.row E size v m xs::F) K:=by
  subst hv
  intro u0 C0 τ0 w a hw ha K' Q hK
  obtain ⟨hown,hone,hbg⟩:=hw.holds _ (jm ..)
  rcases id hown.2 with ⟨hv,hm⟩|⟨g,cap,cur,rfl,_⟩
  · exfalso;have h2:xs.length=0:=by rw [hown.1,hm];simp
    omega
  obtain ⟨w',hst,hown',hgr,hdr⟩:=World.ownsRow.spliced X.P hown (k:=k) (vs:=(ev e y).cells.toList) (by simp only [Array.length_toList];omega) h1
  have hR:Reach u0 C0 τ0 σ w' (Res.row E size (.slice (some ⟨g,0,none⟩) m cap) m (oP xs k (ev e y).cells.toList)::F):=
    hw.G9 (some g) (some g) rfl rfl hgr.os hgr.tape hgr.output hgr.size hdr (λq hq hne=>hgr.block q hq (λhx=>hne (by simp [Res.row,Value.ownBlock];cases hx;rfl))) ⟨hown',op_ hone h1,hbg⟩ (λq hq=> .inl hq)
  refine Oper.be_ (w':=w') ?_ (hK _ _ _ _ _ kk hR (m6_ ha hd _))
  rw [ha.eval']
  have hadd:(⟨g,0,none⟩:Addr).add k=⟨g,k,none⟩:=by rw [DJ];simp
  simp [execOp,ho,hx,oN,Instr.storeAt,Instr.sureAddr,storeVar,zC hs,hus,hadd,hst]
theorem OpOk.make{T E size nY d m:Nat}{kl kc:IntKind}{z:Value}{zs:List Value}(ho:o.op= .makeSlice T x y)(ht:X.P.underlying T=some (.slice E))(hs:szOf X.P E=some size)(hby:byOf X.P E=some nY)(hz:zeroOf X.P E=some z)
    (hd:o.dst=some d) (hn:Nat.blt d X.n=true) (hx:ev e x= .int kl (m:Nat)) (hy:ev e y= .int kc (m:Nat)) (hb:nY * m<=281474976710656) (qw:0<nY)
    (hzs:(madeCells z.cells (m * size)).toList=zs) (h1: ∀u∈zs,u.oneCell'=true) (k: ∀a c,K (upd e d (.slice a m c)) σ (Res.row E size (.slice a m c) m zs::H)):OpOk X o e σ H K:=by
  subst hzs
  obtain ⟨i,hi,hsz⟩:=UN hs
  have hiz:i.zero=some z:=by simpa [zeroOf,hi]using hz
  have hib:i.bytes=nY:=by simpa [byOf,hi]using hby
  have hm:m<=281474976710656:=Nat.le_trans (Nat.le_mul_of_pos_left m qw) hb
  intro u0 C0 τ0 w a hw ha K' Q hK
  obtain ⟨w',hr,hown,hg⟩:=run_make_full (P:=X.P) w 0 T E i z size ht hi hiz hsz kl kc m (by rw [hib];exact hb) (by unfold maxLen;omega) (Nat.zero_le _)
  have hdr:w.drawn<=w'.drawn:=by
    have h:=run_make (P:=X.P) w T E i z ht hi hiz kl kc (m:Nat) (m:Nat) (by omega) (Int.le_refl _) (by rw [hib,<-Int.natCast_mul];omega) (by omega)
    rw [hr]at h
    injection h with _ h;rw [h];exact Nat.le_refl _
  refine Oper.vZ (w':=w') ?_ (hK _ _ _ _ _ (k _ _) (hw.Y5 (some _) rfl hg.os hg.tape hg.output hg.size hdr (λq hq=>hg.block q hq (by simp)) ⟨hown,h1,hm⟩ (λb hb=>by cases hb;exact Nat.le_refl _)) (yh ha hd hn _))
  rw [ha.eval']
  simp [execOp,ho,hx,hy,hr]
theorem Reach.nilRow{w0:World}{C:List Nat}{σ0:aj}{w:World}(h:Reach w0 C σ0 σ w H)(E size:Nat):Reach w0 C σ0 σ w (Res.row E size (.slice none 0 0) 0 []::H):=
  h.Y5 none rfl rfl rfl rfl (Nat.le_refl _) (Nat.le_refl _) (λ_ _=>rfl) ⟨World.ownsRow_nil w 0 E size,by simp,Nat.zero_le _⟩ (λb hb=>by cases hb)
def t3_(σ:aj)(H:List Res)(size:Nat)(u:Value)(m:Nat)(ys:List Value):Prop:=
  RV σ size u m ys\/ ∃(E:TypeId) (i:Nat),H[i]? =some (Res.row E size u m ys)
theorem t3_.spec{size m:Nat}{u:Value}{ys:List Value}(h:t3_ σ H size u m ys){w:World}(hw:jR σ H w):
    (u= .slice none 0 0/\m=0/\ys=[])\/ ∃ad c,u= .slice (some ad) m c/\ys.length=m * size/\(∀j q,ys[j]? =some q->w.cell? (ad.add j)=some q)/\ ∀q∈ys,q.oneCell'=true:=by
  rcases h with h|⟨E,i,hi⟩
  · obtain ⟨a,c,rfl,h0,hc⟩:=h.sl
    cases a with
    |none=>
      obtain ⟨rfl,rfl⟩:=h0 rfl
      exact .inl ⟨rfl,rfl,o7 (by simpa using h.len)⟩
    |some ad=>exact .inr ⟨ad,c,rfl,h.len,λj q hj=>hw.cell (h.cell ad _ c rfl j q hj),h.one⟩
  obtain ⟨hown,hone,_⟩:=hw.2 _ (List.mem_of_getElem? hi)
  rcases id hown.2 with ⟨rfl,rfl⟩|⟨g,cap,cur,rfl,_⟩
  · exact .inl ⟨rfl,rfl,o7 (by simpa using hown.1)⟩
  exact .inr ⟨_,cap,rfl,hown.1,hown.cells (g:=g) rfl,hone⟩
theorem pi_ {P : Program} {w w' : World} (base : Nat) (t ty e : TypeId) (i : TypeInfo) (z : Value) (size bytes : Nat) (ht : P.underlying t = some (.slice e)) (hi : P.info? e = some i) (hz : i.zero = some z)
    (hsize:i.size=size) (hby:i.bytes=bytes) {v v':Value} {n:Nat} {xs:List Value} (hown:w.ownsRow base e size v n xs)
    (a:Addr) (m c:Nat) (news:List Value) (hl:news.length=m * size) (hnews: ∀j u,news[j]? =some u->w.cell? (a.add j)=some u) (h1: ∀u∈news,u.oneCell'=true)
    (h63:n+m<=maxLen) (hbytes:(n+m) * bytes<=140737488355328) (hrun:(Builtin.append_ #[t,t] ty #[v,.slice (some a) m c]).run P w= .ok v' w'):
    (v'.ownBlock=v.ownBlock\/v'.ownBlock=some w.heap.size)/\w.drawn<=w'.drawn:=by
  subst hsize hby
  have hsmall:n+m<=9223372036854775807:=by simp only [maxLen]at h63;omega
  rcases hown.2 with ⟨rfl,rfl⟩|⟨g,cap,cur,rfl,hbg,hg,hnc,hcm,hcs,htake⟩
  · by_cases hm:m=0
    · subst hm
      have hr:(Builtin.append_ #[t,t] ty #[.slice none 0 0,.slice (some a) 0 c]).run P w= .ok (.slice none 0 0) w:=by
        simp [Builtin.append_,run_underlying ht,sizeOf,typeInfo,hi,Builtin.lenOf,Builtin.firstCells,loadCells,loadCellsFrom]
      rw [hrun]at hr;cases hr;exact ⟨.inl rfl,Nat.le_refl _⟩
    have hr:=run_append_nil (P:=P) w t ty e i z ht hi hz a m c news hl hnews (by omega) (by omega) (by have hb:=hbytes;simp only [Nat.zero_add]at hb;omega)
    rw [hrun]at hr;cases hr;exact ⟨.inr rfl,Nat.le_succ _⟩
  by_cases hroom:n+m<=cap
  · have hfit:n * i.size+news.length<=cur.size:=by rw [hl,hcs,<-Nat.add_mul];exact Nat.mul_le_mul_right _ hroom
    have hr:=run_append_room (P:=P) w t ty e i ht hi g n cap cur hg a m c news hl hnews h1 hroom hfit
    rw [hrun]at hr;cases hr;exact ⟨.inl rfl,Nat.le_refl _⟩
  have holds: ∀j u,xs[j]? =some u->w.cell? ((⟨g,0,none⟩:Addr).add j)=some u:=hown.cells (g:=g) rfl
  have hr:=run_append_grow (P:=P) w t ty e i z ht hi hz ⟨g,0,none⟩ n cap xs hown.1 holds a m c news hl hnews (by omega) (by omega) (growslice_fits (by omega) hbytes)
  rw [hrun]at hr;cases hr;exact ⟨.inr rfl,Nat.le_succ _⟩
theorem OpOk.append{T E size nY d m n:Nat}{z v u:Value}{xs ys:List Value}{ty:TypeId}(ho:o.op= .call {callee:= .builtin .append,args:= #[x,y],argTypes:= #[T,ty]})(hty:ty=T)(ht:X.P.underlying T=some (.slice E))(hs:szOf X.P E=some size)(hby:byOf X.P E=some nY)(hz:zeroOf X.P E=some z)
    (hd:o.dst=some d) (hn:Nat.blt d X.n=true) (hsz:0<size) (hzs:z.cells.size=size) (hx:ev e x=v) (hy:ev e y=u) (hsrc:t3_ σ F size u m ys) (hb0:(n+m) * nY<=140737488355328) (qw:0<nY)
    (k: ∀a c,K (upd e d (.slice a (n+m) c)) σ (Res.row E size (.slice a (n+m) c) (n+m) (xs++ys)::F)):OpOk X o e σ (Res.row E size v n xs::F) K:=by
  subst hty
  obtain ⟨i,hi,hsi⟩:=UN hs
  have hiz:i.zero=some z:=by simpa [zeroOf,hi]using hz
  have hib:i.bytes=nY:=by simpa [byOf,hi]using hby
  have hm0:n+m<=140737488355328:=Nat.le_trans (Nat.le_mul_of_pos_right _ qw) hb0
  have hm:n+m<=maxLen:=by unfold maxLen;omega
  intro u0 C0 τ0 w a hw ha K' Q hK
  obtain ⟨hown,hone,hbg⟩:=hw.holds _ (jm ..)
  have hF:jR σ F w:=⟨hw.fit,λr hr=>hw.holds r (pF _ hr)⟩
  rcases hsrc.spec hF with ⟨rfl,rfl,rfl⟩|⟨ad,c,rfl,hl,hc,h1⟩
  · have hr:=run_append_owned_none (P:=X.P) (w:=w) 0 ty o.type E i size ht hi v n xs hown
    obtain ⟨av,cv,rfl,_,_⟩:=isSl_row hown
    have hk:=k av cv
    rw [List.append_nil,Nat.add_zero]at hk
    refine Oper.vZ (w':=w) (v:= .slice av n cv) ?_ (hK _ _ _ _ _ hk hw (yh ha hd hn _))
    rw [ha.eval']
    simp [execOp,ho,resolve,invoke,builtin,hx,hy,hr]
  obtain ⟨v',w',hr,hown',hg,_⟩:=run_append_own (P:=X.P) w 0 ty o.type E i z size nY ht hi hiz hsi hib hzs hsz v n xs hown ad m c ys hl hc h1 hm hb0 (Nat.zero_le _)
  have hdr:w.drawn<=w'.drawn:=(pi_ 0 ty o.type E i z size nY ht hi hiz hsi hib hown ad m c ys hl hc h1 hm hb0 hr).2
  have hone': ∀q∈xs++ys,q.oneCell'=true:=λq hq=>by
    rcases List.mem_append.1 hq with hq|hq
    · exact hone q hq
    exact h1 q hq
  have hbk: ∀b,v'.ownBlock=some b->v.ownBlock=some b\/w.heap.size<=b:=λb hb=>by
    rcases Nat.lt_or_ge b w.heap.size with hlt|hge
    · refine .inl (Classical.byContradiction λhne=> ?_)
      rcases (pi_ 0 ty o.type E i z size nY ht hi hiz hsi hib hown ad m c ys hl hc h1 hm hb0 hr).1 with h2|h2
      · exact hne (h2▸hb)
      rw [h2]at hb;cases hb;omega
    exact .inr hge
  have hR:Reach u0 C0 τ0 σ w' (Res.row E size v' (n+m) (xs++ys)::F):=
    hw.G9 (Value.ownBlock v) (Value.ownBlock v') rfl rfl hg.os hg.tape hg.output hg.size hdr (λq hq hne=>hg.block q hq (λhx=>hne hx.symm)) ⟨hown',hone',by omega⟩ hbk
  obtain ⟨av,cv,rfl,_,_⟩:=isSl_row hown'
  refine Oper.vZ (w':=w') (v:= .slice av (n+m) cv) ?_ (hK _ _ _ _ _ (k av cv) hR (yh ha hd hn _))
  rw [ha.eval']
  simp [execOp,ho,resolve,invoke,builtin,hx,hy,hr]
theorem OpOk.buildSlice{T E size d m:Nat}{parts:Array (Nat×Operand)}{z:Value}{cs:Array Value}(ho:o.op= .buildSlice T m parts)(ht:X.P.underlying T=some (.slice E))(hs:szOf X.P E=some size)(hz:zeroOf X.P E=some z)
    (hd:o.dst=some d) (hn:Nat.blt d X.n=true) (h0:m * size≠0) (hbig:m * size<=16777216)
    (hf:Instr.fill (λi=>some (i * size,size)) ((Array.range (m * size)).map (z.cells[· % z.cells.size]!)) (parts.toList.map λx=>(x.1,ev e x.2))=some cs) (hcs:cs.size=m * size) (hmax:m<=281474976710656) (h1: ∀u∈cs.toList,u.oneCell'=true)
    (k: ∀a c,K (upd e d (.slice a m c)) σ (Res.row E size (.slice a m c) m cs.toList::H)):OpOk X o e σ H K:=by
  intro u0 C0 τ0 w a hw ha K' Q hK
  have hR:Reach u0 C0 τ0 σ (w.alloc (.cells cs E)) (Res.row E size (.slice (some ⟨w.heap.size,0,none⟩) m m) m cs.toList::H):=
    hw.Y5 (some _) rfl rfl rfl rfl (by simp) (Nat.le_refl _) (λk hk=>gi_ w _ k hk)
      ⟨⟨by simpa using hcs,.inr ⟨w.heap.size,m,cs,rfl,Nat.zero_le _,heap_alloc_new w _,Nat.le_refl _,(by unfold maxLen;omega),hcs,by rw [<-hcs,<-Array.length_toList,List.take_length]⟩⟩,h1,hmax⟩ (λb hb=>by cases hb;exact Nat.le_refl _)
  refine Oper.vZ (w':=w.alloc (.cells cs E)) (v:= .slice (some ⟨w.heap.size,0,none⟩) m m) ?_ (hK _ _ _ _ _ (k _ _) hR (yh ha hd hn _))
  rw [ha.eval']
  have hbig': ¬ (16777216<m * size):=by omega
  simp [execOp,ho,Instr.buildSlice,run_underlying ht,zC hs,hbig',Va hz,h0,hf,newRow]
theorem OpOk.call{f d:Nat}{opds:Array Operand}{ts:Array TypeId}{first cap:Array Value}{args:List Value}{Post:Value->aj->List Res->Prop}{H1:List Res}(hc:Con X.P f args.toArray σ H1 Post)(ho:o.op= .call {callee:= .value x,args:=opds,argTypes:=ts})
    (hx:ev e x= .func (.func f) first cap) (hp:plainF X.P f=true) (hargs:first.toList++(opds.toList.map (ev e)++cap.toList)=args) (hd:o.dst=some d) (hn:Nat.blt d X.n=true) (hH:H1++F=H)
    (k: ∀r σ' Iu,σ.le σ'->Post r σ' Iu->K (upd e d r) σ' (Iu++F)):OpOk X o e σ H K:=by
  subst hargs hH
  intro u0 C0 τ0 w a hw ha K' Q hK
  have hr:(execOp a.eval o).run X.P w= .ok (.enter f (first.toList++(opds.toList.map (ev e)++cap.toList)).toArray) w:=by
    rw [ha.eval']
    have hl:(first.toList++(opds.toList.map (ev e)++cap.toList)).toArray=first++(opds.map (ev e)++cap):=by
      apply Array.ext';simp
    rw [hl]
    simp [execOp,ho,resolve,hx,Deferred.ofValue,invoke,U_ hp,Array.append_assoc]
  refine Oper.b4_ hr (hc w (hw.sub (List.sublist_append_left H1 F)).self) λex w' ⟨r,σ',H',he,hpost,hreach⟩=>⟨r,he,?_⟩
  exact hK _ _ _ _ _ (k r σ' H' hreach.le hpost) (hw.call hreach) (yh ha hd hn _)
end
theorem Reach.P9{w0:World}{C:List Nat}{σ0 σ:aj}{w:World}{F:List Res}{E size n:Nat}{v:Value}{xs:List Value}(h:Reach w0 C σ0 σ w (Res.row E size v n xs::F)):
    ∃σ',Reach w0 C σ0 σ' w F/\σ.le σ'/\RV σ' size v n xs:=by
  obtain ⟨hown,hone,hbg⟩:=h.holds _ (jm ..)
  have hsl:=isSl_row hown
  rcases id hown.2 with ⟨rfl,rfl⟩|⟨g,cap,cur,rfl,_,hg,h1,h2,h3,h4⟩
  · have hx:xs=[]:=o7 (by simpa using hown.1)
    subst hx
    exact ⟨σ,h.sub (List.sublist_cons_self _ _),aj.le.refl _,RV.nil σ size⟩
  obtain ⟨hr,hle⟩:=h.sealB (b:=g) rfl hg
  refine ⟨_,hr,hle,⟨hsl,hown.1,?_,hone,hbg⟩⟩
  intro a m c hv j u hj
  cases hv
  rw [DJ]
  unfold aj.cell
  simp only [aj.with,if_true]
  rw [<-h4,List.getElem?_take]at hj
  split at hj
  · simpa using hj
  cases hj
section
variable {X:Ctx} {ops:Array Oper} {Q:QP} {e:Env} {σ:aj} {F:List Res} {c:Code} {l:List Oper} {E size n:Nat} {v:Value} {xs:List Value}
theorem TC.P9(k: ∀σ',σ.le σ'->RV σ' size v n xs->TC X Q c e σ' F):TC X Q c e σ (Res.row E size v n xs::F):=λw a hw ha=>by
  obtain ⟨σ',h1,h2,h3⟩:=hw.self.P9
  exact k σ' h2 h3 w a (hw.step h1 rfl) ha
theorem TL.P9(k: ∀σ',σ.le σ'->RV σ' size v n xs->TL X ops Q l e σ' F):TL X ops Q l e σ (Res.row E size v n xs::F):=λw a hw ha=>by
  obtain ⟨σ',h1,h2,h3⟩:=hw.self.P9
  exact k σ' h2 h3 w a (hw.step h1 rfl) ha
theorem TC.nilRow(E size:Nat){H:List Res}(k:TC X Q c e σ (Res.row E size (.slice none 0 0) 0 []::H)):TC X Q c e σ H:=λw a hw ha=>k w a (hw.by λ_ h=>h.nilRow E size) ha
theorem TL.nilRow(E size:Nat){H:List Res}(k:TL X ops Q l e σ (Res.row E size (.slice none 0 0) 0 []::H)):TL X ops Q l e σ H:=λw a hw ha=>k w a (hw.by λ_ h=>h.nilRow E size) ha
theorem χ{H:List Res}{i:Nat}(hi:H[i]? =some (Res.row E size v n xs))(k:nb_ v n->n<=281474976710656->xs.length=n * size->TC X Q c e σ H):TC X Q c e σ H:=λw a hw ha=>by
  have h:=hw.holds _ (List.mem_of_getElem? hi)
  exact k (isSl_row h.1) h.2.2 h.1.1 w a hw ha
theorem TL.isSl{H:List Res}{i:Nat}(hi:H[i]? =some (Res.row E size v n xs))(k:nb_ v n->n<=281474976710656->xs.length=n * size->TL X ops Q l e σ H):TL X ops Q l e σ H:=λw a hw ha=>by
  have h:=hw.holds _ (List.mem_of_getElem? hi)
  exact k (isSl_row h.1) h.2.2 h.1.1 w a hw ha
end
def after? (ops : Array Oper) : Nat -> Nat -> Nat -> Bool
  |0,_,_=>false
  |f+1,j,i=>match ops[j]? with
    |some o=>o.after.toList.any λe=>Region.binds .any e && (e.on == i || after? ops f e.on i)
    |none=>false
section lateness
variable {r:Option Nat} {P:Program} {ops:Array Oper} {Q:Exit->Act->World->Prop} {S:World->Prop} {late:List Nat}
theorem ix_{i:Nat}{o:Oper}{v:Value}{a:Act}(hi:ops[i]? =some o)(hy:YieldsIf P ops S o v a){K:Act->World->Prop}{w:World}(hS:S w)(h:K (a.put o.dst v) w):wpOpIn (fence r) 0 P ops Q i K a w:=by
  unfold wpOpIn
  simp only [hi]
  rcases hy with ⟨hw,hv⟩|⟨hw,rfl⟩
  · simp only [hw,if_true];exact Oper.vZ (hv w hS) h
  simp only [hw,Bool.false_eq_true,if_false];exact ⟨λ_ _=>trivial,h⟩
theorem oc_{i:Nat}{o:Oper}{v:Value}{a:Act}(hi:ops[i]? =some o)(hy:Yields P ops o v a){K:Act->World->Prop}{w:World}(h:K (a.put o.dst v) w):wpOpIn (fence r) 0 P ops Q i K a w:=
  ix_ (S:=λ_=>True) hi hy.yieldsIf trivial h
theorem rj_ {C : Act -> Prop} {j : Nat} {oi oj : Oper} {v : Value} (hj : ops[j]? = some oj) (hap : oi.apart ops oj = true) (hsi : ∀ cs b, oi.op ≠ .select cs b) (hsj : ∀ cs b, oj.op ≠ .select cs b) (hnd : ∀ c, oj.op ≠ .defer c)
    (hQ: ∀c a w,Q (.panic c) (a.put oi.dst v) w->Q (.panic c) a w) {K:Act->World->Prop} {a:Act} {w:World}
    (keep: ∀u,C (a.put oj.dst u)) (keepD: ∀d,C ({a with defers:=d::a.defers}.put oj.dst undef)) (h:wpOpIn (fence r) 0 P ops Q j K (a.put oi.dst v) w):
    wpOpIn (fence r) 0 P ops Q j (λa' w'=>C a'/\K (a'.put oi.dst v) w') a w:=by
  obtain ⟨h1,h2,h3⟩:=Oper.apart_spec hap
  unfold wpOpIn at *
  simp only [hj]at *
  rw [wanted_put oj a oi.dst v h1]at h
  split
  · rename_i hw
    simp only [hw,if_true]at h
    unfold Oper.wpIn at *
    refine ⟨λ_ _=>trivial,?_⟩
    have h:=h.2
    rw [Oper.semAt_eq _ _ _ hnd,execOp_put oj hsj a oi.dst v h1]at h
    rw [Oper.semAt_eq _ _ _ hnd]
    generalize (execOp a.eval oj).run P w=q at *
    cases q with
    |ok x w'=>
      cases x<;>simp only [Oper.uponIn]at h ⊢
      case value u=>exact ⟨keep u,by rw [<-Act.put_comm a v u h2];exact h⟩
      case skip=>exact ⟨keep _,by rw [<-Act.put_comm a v undef h2];exact h⟩
      case enter f args=>
        refine ⟨h.1,CallsIn.mono h.2 λe w'' he=> ?_⟩
        cases e with
        |returned u=>exact ⟨keep u,by rw [<-Act.put_comm a v u h2];exact he⟩
        |panicked c=>exact hQ _ _ _ he
        |outgrown=>exact he
      case row row args=>exact ⟨h.1,RowsIn.mono h.2 λu w'' he=>⟨keep u,by rw [<-Act.put_comm a v u h2];exact he⟩⟩
      case round l f tmps assign body=>
        refine ⟨h.1,RoundIn.mono h.2 λe w'' he=> ?_⟩
        cases e with
        |returned u=>exact ⟨keep u,by rw [<-Act.put_comm a v u h2];exact he⟩
        |panicked c=>exact hQ _ _ _ he
        |outgrown=>exact he
      case defer d=>
        refine ⟨keepD d,?_⟩
        rw [<-Act.put_comm _ v undef h2,<-Act.put_defers]
        exact h
    |halt x w'=>
      cases x<;>simp only [Oper.uponIn]at h ⊢
      case panic u=>exact hQ _ _ _ h
  rename_i hw
  simp only [hw]at h
  exact ⟨λ_ _=>trivial,keep _,by rw [<-Act.put_comm a v undef h2];exact h.2⟩
theorem uw_{j:Nat}{oi oj:Oper}{v:Value}(hj:ops[j]? =some oj)(hap:oi.apart ops oj=true)(hsi: ∀cs b,oi.op≠ .select cs b)(hsj: ∀cs b,oj.op≠ .select cs b)(hnd: ∀c,oj.op≠ .defer c)
    (hQ: ∀c a w,Q (.panic c) (a.put oi.dst v) w->Q (.panic c) a w) {K:Act->World->Prop} {a:Act} {w:World}
    (hy:YieldsIf P ops S oi v a) (h:wpOpIn (fence r) 0 P ops Q j K (a.put oi.dst v) w):
    wpOpIn (fence r) 0 P ops Q j (λa' w'=>YieldsIf P ops S oi v a'/\K (a'.put oi.dst v) w') a w:=by
  obtain ⟨h1,h2,h3⟩:=Oper.apart_spec hap
  have keep: ∀(a:Act),YieldsIf P ops S oi v a-> ∀u,YieldsIf P ops S oi v (a.put oj.dst u):=λa hy u=>hy.of_same (execOp_put oi hsi a oj.dst u h3) (wanted_put oi a oj.dst u h3)
  exact rj_ (C:=YieldsIf P ops S oi v) hj hap hsi hsj hnd hQ (keep a hy) (λd=>keep {a with defers:=d::a.defers} (hy.of_same rfl rfl) undef) h
theorem zz_{j:Nat}{oi oj:Oper}{v:Value}(hj:ops[j]? =some oj)(hap:oi.apart ops oj=true)(hsi: ∀cs b,oi.op≠ .select cs b)(hsj: ∀cs b,oj.op≠ .select cs b)(hnd: ∀c,oj.op≠ .defer c)
    (hQ: ∀c a w,Q (.panic c) (a.put oi.dst v) w->Q (.panic c) a w) {K:Act->World->Prop} {a:Act} {w:World}
    (hy:Yields P ops oi v a) (h:wpOpIn (fence r) 0 P ops Q j K (a.put oi.dst v) w):
    wpOpIn (fence r) 0 P ops Q j (λa' w'=>Yields P ops oi v a'/\K (a'.put oi.dst v) w') a w:=by
  obtain ⟨h1,h2,h3⟩:=Oper.apart_spec hap
  have keep: ∀(a:Act),Yields P ops oi v a-> ∀u,Yields P ops oi v (a.put oj.dst u):=λa hy u=>hy.of_same (execOp_put oi hsi a oj.dst u h3) (wanted_put oi a oj.dst u h3)
  exact rj_ (C:=Yields P ops oi v) hj hap hsi hsj hnd hQ (keep a hy) (λd=>keep {a with defers:=d::a.defers} (hy.of_same rfl rfl) undef) h
def qp_(ops:Array Oper):Bool:=ops.all λo=>match o.op with| .defer _=>false|_=>true
def ne_(ops:Array Oper):Prop:= ∀(j:Nat) (o:Oper),ops[j]? =some o-> ∀c,o.op≠ .defer c
theorem pb_(h:qp_ ops=true):ne_ ops:=λj o ho c hc=>by
  have:=Array.all_eq_true_iff_forall_mem.1 h o (Array.mem_of_getElem? ho)
  simp [hc]at this
def S9 (r : Option Nat) (P : Program) (ops : Array Oper) (Q : Exit -> Act -> World -> Prop) (S : World -> Prop) (late : List Nat) : Nat -> Array Bool -> Act -> World -> Prop
  |0,listed,a,w=>Region.ready .any ops listed=[]/\Q .normal a w
  |fuel+1,listed,a,w=>
    (Region.ready .any ops listed=[]->Q .normal a w)/\
    ∀i∈Region.ready .any ops listed,wpOpIn (fence r) 0 P ops Q i (λa' w'=>(late.contains i=false->S w->S w')/\S9 r P ops Q S late fuel (listed.setIfInBounds i true) a' w') a w
theorem i0_: ∀(fuel:Nat) (listed:Array Bool) (a:Act) (w:World),S9 r P ops Q S late fuel listed a w->wpAnyIn (fence r) 0 P .any ops Q fuel listed a w
  |0,_,_,_,h=>h
  |fuel+1,_,_,_,h=>⟨h.1,λi hi=>wpOpIn_mono (λa' w' h'=>i0_ fuel _ a' w' h'.2) (h.2 i hi)⟩
def Po(ops:Array Oper)(listed:Array Bool):Prop:= ∀k o,ops[k]? =some o->listed.getD k false=true-> ∀e∈o.after,Region.binds .any e=true->listed.getD e.on false=true
theorem l9_(ops:Array Oper)(n:Nat):Po ops (Array.replicate n false):=λk o _ h=>by
  simp only [Array.getD_eq_getD_getElem?,Array.getElem?_replicate]at h
  split at h<;>simp at h
theorem rz_{l:Array Bool}{i:Nat}(h:l.getD i false=true):i<l.size:=by
  rcases Nat.lt_or_ge i l.size with h'|h'
  · exact h'
  simp [Array.getD_eq_getD_getElem?,Array.getElem?_eq_none h']at h
theorem pg_{listed:Array Bool}{j:Nat}(h:j∈Region.ready .any ops listed): ∃o,ops[j]? =some o/\ ∀e∈o.after,Region.binds .any e=true->listed.getD e.on false=true:=by
  obtain ⟨_,oj,hoj,hall⟩:=mem_ready.1 h
  exact ⟨oj,hoj,λe he hb=>by have:=hall e he hb;simpa using this⟩
theorem Po.step{listed:Array Bool}(hc:Po ops listed){j:Nat}(hj:j∈Region.ready .any ops listed):Po ops (listed.setIfInBounds j true):=by
  have up: ∀i,listed.getD i false=true->(listed.setIfInBounds j true).getD i false=true:=λi hi=>getD_set_true hi
  obtain ⟨o',ho',hdeps⟩:=pg_ hj
  intro k o hk hl e he hb
  by_cases hkj:j=k
  · subst hkj
    rw [ho']at hk;cases hk
    exact up _ (hdeps e he hb)
  rw [getD_set_ne false hkj]at hl
  exact up _ (hc k o hk hl e he hb)
theorem Po.after{listed:Array Bool}(hc:Po ops listed): ∀(f j i:Nat),(∀o,ops[j]? =some o-> ∀e∈o.after,Region.binds .any e=true->listed.getD e.on false=true)->after? ops f j i=true->listed.getD i false=true
  |0,_,_,_,h=>by simp [after?]at h
  | f + 1, j, i, hd, h => by
    unfold after? at h
    split at h
    · rename_i o ho
      simp only [List.any_eq_true,Bool.and_eq_true,Bool.or_eq_true,beq_iff_eq]at h
      obtain ⟨e,he,hb,h⟩:=h
      have he':e∈o.after:=by simpa using he
      have hl:=hd o ho e he' hb
      rcases h with rfl|h
      · exact hl
      exact hc.after f e.on i (λo' ho' e' he'' hb'=>hc e.on o' ho' hl e' he'' hb') h
    cases h
theorem mf_ {i : Nat} {oi : Oper} {v : Value} (hi : ops[i]? = some oi) (hsel : ∀ (j : Nat) (o : Oper) cs b, ops[j]? = some o -> o.op ≠ .select cs b) (hnd : ne_ ops)
    (hQ: ∀c a w,Q (.panic c) (a.put oi.dst v) w->Q (.panic c) a w) (hlate: ∀j∈late, ∃f,after? ops f j i=true):
    ∀(fuel:Nat) (listed:Array Bool) (a:Act) (w:World),Po ops listed->
      (∀j oj,ops[j]? =some oj->j≠i->listed.getD j true=false->(∀e∈oj.after,Region.binds .any e=true->e.on≠i)->oi.apart ops oj=true)->
      i∈Region.ready .any ops listed->YieldsIf P ops S oi v a->S w->
      S9 r P ops Q S late fuel (listed.setIfInBounds i true) (a.put oi.dst v) w->S9 r P ops Q S late (fuel+1) listed a w:=by
  intro fuel
  induction fuel with
  |zero=>
    intro listed a w _ _ hr hy hS H
    refine ⟨λh=>(by rw [h]at hr;cases hr),λj hj=> ?_⟩
    by_cases hji:j=i
    · subst hji;exact ix_ hi hy hS ⟨λ_ h=>h,H⟩
    have:=ready_mono hj hji
    rw [H.1]at this
    cases this
  |succ fuel ih=>
    intro listed a w hcl hfree hr hy hS H
    refine ⟨λh=>(by rw [h]at hr;cases hr),λj hj=> ?_⟩
    by_cases hji:j=i
    · subst hji;exact ix_ hi hy hS ⟨λ_ h=>h,H⟩
    have hnl:late.contains j=false:=by
      cases hl:late.contains j with
      |false=>rfl
      |true=>
        obtain ⟨f,hf⟩:=hlate j (by simpa using hl)
        obtain ⟨oj,hoj,hd⟩:=pg_ hj
        have h1:=hcl.after f j i (λo ho=>by rw [hoj]at ho;cases ho;exact hd) hf
        have h0:=(mem_ready.1 hr).1
        have hlt:=rz_ h1
        simp [Array.getD_eq_getD_getElem?,hlt]at h0 h1
        rw [h0]at h1;cases h1
    have h1:=H.2 j (ready_mono hj hji)
    obtain ⟨hjun,oj,hoj,hall⟩:=mem_ready.1 hj
    have hnot: ∀e∈oj.after,Region.binds .any e=true->e.on≠i:=λe he hb heq=>by
      have h1:=hall e he hb
      have h0:=(mem_ready.1 hr).1
      rw [heq]at h1
      rcases Nat.lt_or_ge i listed.size with h'|h'
      · simp [h']at h0 h1;rw [h0]at h1;cases h1
      simp [Array.getElem?_eq_none h']at h1
    have h2:=uw_ hoj (hfree j oj hoj hji hjun hnot) (λcs b=>hsel i oi cs b hi) (λcs b=>hsel j oj cs b hoj) (hnd j oj hoj) hQ hy h1
    have hfree': ∀k ok,ops[k]? =some ok->k≠i->(listed.setIfInBounds j true).getD k true=false->
        (∀e∈ok.after,Region.binds .any e=true->e.on≠i)->oi.apart ops ok=true:=λk ok hk hki hun hno=>by
      refine hfree k ok hk hki ?_ hno
      by_cases hjk:j=k
      · subst hjk;exact hjun
      rw [getD_set_ne true hjk]at hun;exact hun
    refine wpOpIn_mono (λa' w' h3=>⟨h3.2.1,ih (listed.setIfInBounds j true) a' w' (hcl.step hj) hfree' (ready_mono hr (Ne.symm hji)) h3.1 (h3.2.1 hnl hS) ?_⟩) h2
    rw [Array.setIfInBounds_comm _ _ hji]
    exact h3.2.2
theorem qs_ {i : Nat} {oi : Oper} {v : Value} (hi : ops[i]? = some oi) (hsel : ∀ (j : Nat) (o : Oper) cs b, ops[j]? = some o -> o.op ≠ .select cs b) (hnd : ne_ ops)
    (hQ: ∀c a w,Q (.panic c) (a.put oi.dst v) w->Q (.panic c) a w):
    ∀(fuel:Nat) (listed:Array Bool) (a:Act) (w:World),Po ops listed->
      (∀j oj,ops[j]? =some oj->j≠i->listed.getD j true=false->(∀e∈oj.after,Region.binds .any e=true->e.on≠i)->oi.apart ops oj=true)->
      i∈Region.ready .any ops listed->Yields P ops oi v a->
      S9 r P ops Q S late fuel (listed.setIfInBounds i true) (a.put oi.dst v) w->S9 r P ops Q S late (fuel+1) listed a w:=by
  intro fuel
  induction fuel with
  |zero=>
    intro listed a w _ _ hr hy H
    refine ⟨λh=>(by rw [h]at hr;cases hr),λj hj=> ?_⟩
    by_cases hji:j=i
    · subst hji;exact oc_ hi hy ⟨λ_ h=>h,H⟩
    have:=ready_mono hj hji
    rw [H.1]at this
    cases this
  |succ fuel ih=>
    intro listed a w hcl hfree hr hy H
    refine ⟨λh=>(by rw [h]at hr;cases hr),λj hj=> ?_⟩
    by_cases hji:j=i
    · subst hji;exact oc_ hi hy ⟨λ_ h=>h,H⟩
    have h1:=H.2 j (ready_mono hj hji)
    obtain ⟨hjun,oj,hoj,hall⟩:=mem_ready.1 hj
    have hnot: ∀e∈oj.after,Region.binds .any e=true->e.on≠i:=λe he hb heq=>by
      have h1:=hall e he hb
      have h0:=(mem_ready.1 hr).1
      rw [heq]at h1
      rcases Nat.lt_or_ge i listed.size with h'|h'
      · simp [h']at h0 h1;rw [h0]at h1;cases h1
      simp [Array.getElem?_eq_none h']at h1
    have h2:=zz_ hoj (hfree j oj hoj hji hjun hnot) (λcs b=>hsel i oi cs b hi) (λcs b=>hsel j oj cs b hoj) (hnd j oj hoj) hQ hy h1
    have hfree': ∀k ok,ops[k]? =some ok->k≠i->(listed.setIfInBounds j true).getD k true=false->
        (∀e∈ok.after,Region.binds .any e=true->e.on≠i)->oi.apart ops ok=true:=λk ok hk hki hun hno=>by
      refine hfree k ok hk hki ?_ hno
      by_cases hjk:j=k
      · subst hjk;exact hjun
      rw [getD_set_ne true hjk]at hun;exact hun
    refine wpOpIn_mono (λa' w' h3=>⟨h3.2.1,ih (listed.setIfInBounds j true) a' w' (hcl.step hj) hfree' (ready_mono hr (Ne.symm hji)) h3.1 ?_⟩) h2
    rw [Array.setIfInBounds_comm _ _ hji]
    exact h3.2.2
end lateness
def TA(X:Ctx)(ops:Array Oper)(Q:QP)(σr:aj)(Hr:List Res)(late:List Nat)(fuel:Nat)(listed:Array Bool)(e:Env)(σ:aj)(H:List Res):Prop:=
  ne_ ops-> ∀w a,RM X a σ w H->jR σr Hr w->Po ops listed->St X.n e a->S9 X.rnd X.P ops (Exit.cm_ (low X Q)) (jR σr Hr) late fuel listed a w
def TZ(X:Ctx)(ops:Array Oper)(Q:QP)(σr:aj)(Hr:List Res)(late:List Nat)(fuel:Nat)(listed:Array Bool)(e:Env)(σ:aj)(H:List Res):Prop:=
  ne_ ops-> ∀w a,RM X a σ w H->St X.n e a->S9 X.rnd X.P ops (Exit.cm_ (low X Q)) (jR σr Hr) late fuel listed a w
section draw
variable {X:Ctx} {ops:Array Oper} {Q:QP} {e:Env} {σ σr:aj} {H Hr:List Res} {late:List Nat} {fuel:Nat} {listed:Array Bool}
theorem TC.draw{id:Nat}(late:List Nat)(hm:X.P.follows .mixedOrders=true)(h:TA X ops Q σ H late ops.size (Array.replicate ops.size false) e σ H)(hnd:qp_ ops=true:=by kernel_rfl):TC X Q (.region id ops true) e σ H:=λw a hw ha=>
  Go.wpIn_mono (wpIn_region_any hm (i0_ _ _ _ _ (h (pb_ hnd) w.drew a hw.drew hw.drew.sees (l9_ _ _) ha))) λex a w h=>by
    cases ex<;>first|exact h|exact h.elim
theorem TA.take(i:Nat){oi:Oper}{v:Value}{d:Nat}(hi:ops[i]? =some oi)(hs:Region.noSelect ops=true)(hf:Region.free .any ops listed i=true)(hr:(Region.ready .any ops listed).contains i=true)
    (hl:late.all (λj=>after? ops ops.size j i)=true) (hg:oi.guard=none) (hv:OpVal X.P X.n oi e σr Hr v) (hd:oi.dst=some d) (hn:Nat.blt d X.n=true)
    (k:TA X ops Q σr Hr late fuel (listed.setIfInBounds i true) (upd e d v) σ H):TA X ops Q σr Hr late (fuel+1) listed e σ H:=λhnd w a hw hS hcl ha=>by
  have hr':i∈Region.ready .any ops listed:=by simpa using hr
  refine mf_ hi (Region.noSelect_spec hs) hnd (λc a w h=>h.elim) (λj hj=>⟨ops.size,(List.all_eq_true.1 hl) j hj⟩) fuel listed a w hcl (Region.free_spec hi hf) hr'
    (.inl ⟨by simp [Region.wanted,hg],λw' hw'=>by rw [ha.eval'];exact hv w' hw'⟩) hS ?_
  rw [hd]
  exact k hnd w _ (hw.step hw.self rfl) hS (hcl.step hr') (ha.put (by simpa [Nat.blt_eq]using hn) v)
theorem TA.takeP(i:Nat){oi:Oper}{v:Value}{d:Nat}(hi:ops[i]? =some oi)(hs:Region.noSelect ops=true)(hf:Region.free .any ops listed i=true)(hr:(Region.ready .any ops listed).contains i=true)
    (hg:oi.guard=none) (hv:OpVal X.P X.n oi e (λ_=>none) [] v) (hd:oi.dst=some d) (hn:Nat.blt d X.n=true)
    (k:TA X ops Q σr Hr late fuel (listed.setIfInBounds i true) (upd e d v) σ H):TA X ops Q σr Hr late (fuel+1) listed e σ H:=λhnd w a hw hS hcl ha=>by
  have hr':i∈Region.ready .any ops listed:=by simpa using hr
  refine qs_ hi (Region.noSelect_spec hs) hnd (λc a w h=>h.elim) fuel listed a w hcl (Region.free_spec hi hf) hr'
    (.inl ⟨by simp [Region.wanted,hg],λw'=>by rw [ha.eval'];exact hv w' ⟨λ_ _ h=>(by cases h),λ_ h=>(by cases h)⟩⟩) ?_
  rw [hd]
  exact k hnd w _ (hw.step hw.self rfl) hS (hcl.step hr') (ha.put (by simpa [Nat.blt_eq]using hn) v)
theorem p3_{r:Option Nat}{P:Program}{Q:Exit->Act->World->Prop}{i:Nat}{oi:Oper}{a:Act}{w:World}{K:Act->World->Prop}(hi:ops[i]? =some oi)(hg:oi.guard=none)(h:oi.wpIn (fence r) 0 P a w K Q):wpOpIn (fence r) 0 P ops Q i K a w:=by
  unfold wpOpIn
  simp only [hi,Region.wanted,hg,if_true]
  exact h
theorem TA.act(i:Nat){oi:Oper}(hr:Region.ready .any ops listed=[i])(hi:ops[i]? =some oi)(hg:oi.guard=none)
    (h:OpOk X oi e σ H λe' σ' H'=>(∀w,jR σ' H' w->jR σr Hr w)/\TA X ops Q σr Hr late fuel (listed.setIfInBounds i true) e' σ' H'):TA X ops Q σr Hr late (fuel+1) listed e σ H:=λhnd w a hw hS hcl ha=>by
  refine ⟨λh0=>(by rw [hr]at h0;cases h0),λj hj=> ?_⟩
  have hst:=hcl.step hj
  rw [hr]at hj
  simp at hj;subst hj
  exact p3_ hi hg (h.at hw ha λe' σ' H' a' w' ⟨hs,hk⟩ hw' ha'=>⟨λ_ _=>hs w' hw'.sees,hk hnd w' a' hw' (hs w' hw'.sees) hst ha'⟩)
theorem TA.last(i:Nat){oi:Oper}(hr:Region.ready .any ops listed=[i])(hl:late.contains i=true)(hi:ops[i]? =some oi)(hg:oi.guard=none)
    (h:OpOk X oi e σ H λe' σ' H'=>TZ X ops Q σr Hr late fuel (listed.setIfInBounds i true) e' σ' H'):TA X ops Q σr Hr late (fuel+1) listed e σ H:=λhnd w a hw hS hcl ha=>by
  refine ⟨λh0=>(by rw [hr]at h0;cases h0),λj hj=> ?_⟩
  rw [hr]at hj
  simp at hj;subst hj
  exact p3_ hi hg (h.at hw ha λe' σ' H' a' w' hk hw' ha'=>⟨λh0=>(by rw [hl]at h0;cases h0),hk hnd w' a' hw' ha'⟩)
theorem TZ.last(i:Nat){oi:Oper}(hr:Region.ready .any ops listed=[i])(hl:late.contains i=true)(hi:ops[i]? =some oi)(hg:oi.guard=none)
    (h:OpOk X oi e σ H λe' σ' H'=>TZ X ops Q σr Hr late fuel (listed.setIfInBounds i true) e' σ' H'):TZ X ops Q σr Hr late (fuel+1) listed e σ H:=λhnd w a hw ha=>by
  refine ⟨λh0=>(by rw [hr]at h0;cases h0),λj hj=> ?_⟩
  rw [hr]at hj
  simp at hj;subst hj
  exact p3_ hi hg (h.at hw ha λe' σ' H' a' w' hk hw' ha'=>⟨λh0=>(by rw [hl]at h0;cases h0),hk hnd w' a' hw' ha'⟩)
theorem TA.front(i:Nat){r:Res}{F:List Res}(hi:H[i]? =some r)(hF:H.eraseIdx i=F)(h:TA X ops Q σr Hr late fuel listed e σ (r::F)):TA X ops Q σr Hr late fuel listed e σ H:=λhnd w a hw hS hc ha=>h hnd w a (hw.perm (Ny hi hF)) hS hc ha
theorem TZ.front(i:Nat){r:Res}{F:List Res}(hi:H[i]? =some r)(hF:H.eraseIdx i=F)(h:TZ X ops Q σr Hr late fuel listed e σ (r::F)):TZ X ops Q σr Hr late fuel listed e σ H:=λhnd w a hw ha=>h hnd w a (hw.perm (Ny hi hF)) ha
theorem TA.isSl{E size n:Nat}{v:Value}{xs:List Value}{i:Nat}(hi:H[i]? =some (Res.row E size v n xs))(k:nb_ v n->n<=281474976710656->xs.length=n * size->TA X ops Q σr Hr late fuel listed e σ H):TA X ops Q σr Hr late fuel listed e σ H:=λhnd w a hw=>by
  have h:=hw.holds _ (List.mem_of_getElem? hi)
  exact k (isSl_row h.1) h.2.2 h.1.1 hnd w a hw
theorem TZ.done(hr:Region.ready .any ops listed=[])(h:Q .normal e σ H):TZ X ops Q σr Hr late fuel listed e σ H:=λhnd w a hw ha=>by
  have hq:low X Q .normal a w:=⟨e,σ,H,ha,hw,h⟩
  cases fuel with
  |zero=>exact ⟨hr,hq⟩
  |succ f=>exact ⟨λ_=>hq,by rw [hr];simp⟩
theorem TA.done(hr:Region.ready .any ops listed=[])(h:Q .normal e σ H):TA X ops Q σr Hr late fuel listed e σ H:=λhnd w a hw _ _ ha=>TZ.done hr h hnd w a hw ha
theorem rX{σ σ':aj}{H H':List Res}(hle:σ.le σ')(hs: ∀r∈H,r∈H')(w:World)(h:jR σ' H' w):jR σ H w:=
  ⟨λb o hb=>h.1 b o (hle b o hb),λr hr=>h.2 r (hs r hr)⟩
end draw
section
variable {P:Program} {n:Nat} {e:Env} {σ:aj} {H:List Res} {o:Oper} {x y:Operand}
theorem TL.v{X:Ctx}{ops:Array Oper}{Q:QP}{rest:List Oper}{v:Value}{d:Nat}(hg:o.guard=none)(h:OpVal X.P X.n o e σ H v)(hd:o.dst=some d)(hn:Nat.blt d X.n=true)(k:TL X ops Q rest (upd e d v) σ H):
    TL X ops Q (o::rest) e σ H:=ν hg (h.ok hd hn k)
theorem TL.gv{X:Ctx}{ops:Array Oper}{Q:QP}{rest:List Oper}{v:Value}{d j dj:Nat}{b:Bool}{oj:Oper}(hg:o.guard=some (j,b))(hj:ops[j]? =some oj)(hdj:oj.dst=some dj)(hnj:Nat.blt dj X.n=true)(hb:e dj= .bool b)
    (h:OpVal X.P X.n o e σ H v) (hd:o.dst=some d) (hn:Nat.blt d X.n=true) (k:TL X ops Q rest (upd e d v) σ H):
    TL X ops Q (o::rest) e σ H:=TL.gon hg hj hdj hnj hb (h.ok hd hn k)
theorem TL.split{X:Ctx}{ops:Array Oper}{Q:QP}{l:List Oper}{t:Bool}(dj:Nat)(hb:e dj= .bool t)(ht:t=true->TL X ops Q l (upd e dj (.bool true)) σ H)(hf:t=false->TL X ops Q l (upd e dj (.bool false)) σ H):TL X ops Q l e σ H:=by
  have he: ∀b,t=b->upd e dj (.bool b)=e:=λb h=>by
    funext i;unfold upd;split
    · subst_vars;rw [hb]
    rfl
  cases t
  · have:=hf rfl;rwa [he _ rfl]at this
  have:=ht rfl;rwa [he _ rfl]at this
theorem OpVal.of{v v':Value}(h:OpVal P n o e σ H v)(hv:v=v'):OpVal P n o e σ H v':=hv▸h
def Pq(op:Op)(x:Operand):Prop:=op= .move x\/op= .assign x
theorem OpVal.mv(ho:Pq o.op x):OpVal P n o e σ H (ev e x):=by
  rcases ho with h|h
  · exact .move h
  exact .assign h
theorem OpVal.dw{k:IntKind}{a:Int}(ho:Pq o.op x)(hx:ev e x= .int k a):OpVal P n o e σ H (.int k a):=hx▸ .mv ho
theorem OpVal.moveB{b:Bool}(ho:Pq o.op x)(hx:ev e x= .bool b):OpVal P n o e σ H (.bool b):=hx▸ .mv ho
theorem OpVal.gu{a:Option Addr}{m c:Nat}(ho:Pq o.op x)(hx:ev e x= .slice a m c):OpVal P n o e σ H (.slice a m c):=hx▸ .mv ho
theorem OpVal.MI{b k:Nat}(ho:Pq o.op x)(hx:ev e x=loc b k):OpVal P n o e σ H (loc b k):=hx▸ .mv ho
theorem OpVal.eu{s:ByteArray}(ho:Pq o.op x)(hx:ev e x= .string s):OpVal P n o e σ H (.string s):=hx▸ .mv ho
theorem OpVal.Vb{f:Fn}{a b:Array Value}(ho:Pq o.op x)(hx:ev e x= .func f a b):OpVal P n o e σ H (.func f a b):=hx▸ .mv ho
theorem OpVal.wC{cs:Array Value}(ho:Pq o.op x)(hx:ev e x= .tuple cs):OpVal P n o e σ H (.tuple cs):=hx▸ .mv ho
theorem OpVal.lenC{t E m c:Nat}{a:Option Addr}(ho:o.op= .call {callee:= .builtin .len,args:= #[x],argTypes:= #[t]})(ht:P.underlying t=some (.slice E))(hx:ev e x= .slice a m c):
    OpVal P n o e σ H (.int .i64 (m:Nat)):=λw _=>by
  simp [execOp,ho,resolve,invoke,builtin,hx,Builtin.len_,run_underlying ht,goInt]
theorem OpVal.nJ{b k:Nat}(ho:o.op= .nilCheck x)(hx:ev e x=loc b k):OpVal P n o e σ H (loc b k):=OpVal.nilCheck (a:=⟨b,k,none⟩) ho hx
theorem OpVal.dS{c a b:Operand}{p:Bool}(ho:o.op= .pick c a b)(hc:ev e c= .bool true)(ha:ev e a= .bool p):OpVal P n o e σ H (.bool p):= .pickT ho hc rfl ha
theorem OpVal.dV{c a b:Operand}{p:Bool}(ho:o.op= .pick c a b)(hc:ev e c= .bool false)(ha:ev e b= .bool p):OpVal P n o e σ H (.bool p):= .pickF ho hc rfl ha
structure RS {α:Type} (σ:aj) (size:Nat) (enc:α->List Value) (v:Value) (l:List α):Prop where
  rv:RV σ size v l.length (l.flatMap enc)
  len: ∀x,(enc x).length=size
theorem RS.mono{α:Type}{σ τ:aj}{size:Nat}{enc:α->List Value}{v:Value}{l:List α}(h:RS σ size enc v l)(hle:σ.le τ):RS τ size enc v l:=⟨h.rv.mono hle,h.len⟩
theorem um{α:Type}{enc:α->List Value}{size:Nat}(h: ∀x,(enc x).length=size): ∀l:List α,(l.flatMap enc).length=l.length * size
  |[]=>by simp
  |x::l=>by rw [List.flatMap_cons,gB,h x,um h l,List.length_cons,Nat.add_mul];omega
theorem YM{α:Type}{enc:α->List Value}{size:Nat}(h: ∀x,(enc x).length=size): ∀(l:List α) (i j:Nat) (x:α),l[i]? =some x->j<size->(l.flatMap enc)[i * size+j]? =(enc x)[j]?
  |[],i,j,x,hi,_=>by simp at hi
  |y::l,0,j,x,hi,hj=>by
    simp at hi;subst hi
    rw [List.flatMap_cons,Nat.zero_mul,Nat.zero_add,List.getElem?_append_left (by rw [h y];exact hj)]
  |y::l,i+1,j,x,hi,hj=>by
    simp at hi
    rw [List.flatMap_cons,List.getElem?_append_right (by rw [h y,Nat.add_mul];omega),h y]
    have:(i+1) * size+j - size=i * size+j:=by rw [Nat.add_mul];omega
    rw [this]
    exact YM h l i j x hi hj
theorem j9_{α:Type}{enc:α->List Value}{size:Nat}(h: ∀x,(enc x).length=size): ∀(l:List α) (i:Nat) (x:α),l[i]? =some x->((l.flatMap enc).drop (i * size)).take size=enc x
  |[],i,x,hi=>by simp at hi
  |y::l,0,x,hi=>by
    simp at hi;subst hi
    rw [List.flatMap_cons,Nat.zero_mul,List.drop_zero,List.take_append_of_le_length (by rw [h y];exact Nat.le_refl _),List.take_of_length_le (by rw [h y];exact Nat.le_refl _)]
  |y::l,i+1,x,hi=>by
    simp at hi
    rw [List.flatMap_cons,Nat.add_mul,Nat.one_mul,Nat.add_comm,<-List.drop_drop,List.drop_left' (h y)]
    exact j9_ h l i x hi
def nth{α:Type}(l:List α)(i:Nat)(d:α):α:=l.getD i d
theorem getD_some{α:Type}(l:List α){i:Nat}(hi:i<l.length)(d:α):l[i]? =some (nth l i d):=by
  simp [nth,hi]
theorem OpVal.loadS{α:Type}{T size i j:Nat}{enc:α->List Value}{v u:Value}{l:List α}(d:α)(ho:o.op= .load T x)(hA:aggOf P T=some false)(hx:ev e x=oN v (i * size+j))(hR:RS σ size enc v l)(hi:i<l.length)
    (hj:j<size) (hu:(enc (nth l i d))[j]? =some u):OpVal P n o e σ H u:=
  OpVal.loadEl ho hA hx hR.rv (by rw [YM hR.len l i j _ (getD_some l hi d) hj];exact hu)
theorem OpVal.fF{α:Type}{T i:Nat}{enc:α->List Value}{v u:Value}{l:List α}(d:α)(ho:o.op= .load T x)(hA:aggOf P T=some false)(hx:ev e x=oN v (i * 1))(hR:RS σ 1 enc v l)(hi:i<l.length)
    (hu:(enc (nth l i d))[0]? =some u):OpVal P n o e σ H u:=
  OpVal.loadS (j:=0) d ho hA hx hR hi (by omega) hu
theorem OpVal.Io{α:Type}{T size i:Nat}{enc:α->List Value}{v:Value}{l:List α}(d:α)(ho:o.op= .load T x)(hA:aggOf P T=some true)(hz:szOf P T=some size)(hx:ev e x=oN v (i * size))(hR:RS σ size enc v l)(hi:i<l.length)(h0:0<size):
    OpVal P n o e σ H (.agg (enc (nth l i d)).toArray):=
  OpVal.dd_ ho hA hz hx hR.rv h0 (hR.len _) (j9_ hR.len l i _ (getD_some l hi d))
theorem OpVal.cp_{α:Type}{T E size i j q:Nat}{enc:α->List Value}{v u:Value}{l:List α}(d:α)(ho:o.op= .load T x)(hA:aggOf P T=some false)(hx:ev e x=oN v (i * size+j))(hq:H[q]? =some (Res.row E size v l.length (l.flatMap enc)))(hl: ∀x,(enc x).length=size)(hi:i<l.length)
    (hj:j<size) (hu:(enc (nth l i d))[j]? =some u):OpVal P n o e σ H u:=
  OpVal.loadRow ho hA hx hq (by rw [YM hl l i j _ (getD_some l hi d) hj];exact hu)
theorem OpVal.og{α:Type}{T E i q:Nat}{enc:α->List Value}{v u:Value}{l:List α}(d:α)(ho:o.op= .load T x)(hA:aggOf P T=some false)(hx:ev e x=oN v (i * 1))(hq:H[q]? =some (Res.row E 1 v l.length (l.flatMap enc)))(hl: ∀x,(enc x).length=1)(hi:i<l.length)
    (hu:(enc (nth l i d))[0]? =some u):OpVal P n o e σ H u:=
  OpVal.cp_ (j:=0) d ho hA hx hq hl hi (by omega) hu
theorem OpVal.Me{α:Type}{T E size i q:Nat}{enc:α->List Value}{v:Value}{l:List α}(d:α)(ho:o.op= .load T x)(hA:aggOf P T=some true)(hz:szOf P T=some size)(hx:ev e x=oN v (i * size))(hq:H[q]? =some (Res.row E size v l.length (l.flatMap enc)))(hl: ∀x,(enc x).length=size)(hi:i<l.length)(h0:0<size):
    OpVal P n o e σ H (.agg (enc (nth l i d)).toArray):=
  OpVal.c0_ ho hA hz hx hq h0 (hl _) (j9_ hl l i _ (getD_some l hi d))
theorem RS.ca_{α:Type}{size m c:Nat}{enc:α->List Value}{l:List α}(h:RS σ size enc (.slice none m c) l):l=[]:=by
  obtain ⟨a,c',hv,h0,_⟩:=h.rv.sl
  cases hv
  exact o7 (h0 rfl).1
end
def Agr(M:List Nat)(e' e:Env):Prop:= ∀t,M.contains t=false->e' t=e t
theorem Agr.refl(M:List Nat)(e:Env):Agr M e e:=λ_ _=>rfl
theorem Agr.upd{M:List Nat}{e' e:Env}{d:Nat}{v:Value}(hd:M.contains d=true)(h:Agr M e' e):Agr M (Go.E.upd e' d v) e:=λt ht=>by
  unfold Go.E.upd
  split
  · subst_vars;rw [hd]at ht;cases ht
  exact h t ht
theorem Agr.mask{M:List Nat}{j e:Env}:Agr M (Go.E.mask M j e) e:=λt ht=>by unfold Go.E.mask;rw [ht];rfl
theorem Agr.trans{M:List Nat}{a b c:Env}(h:Agr M a b)(k:Agr M b c):Agr M a c:=λt ht=>(h t ht).trans (k t ht)
theorem Agr.weak{M M':List Nat}{a b:Env}(h:Agr M' a b)(hs:M'.all (λt=>M.contains t)=true):Agr M a b:=λt ht=>h t (by
  cases hc:M'.contains t with
  |false=>rfl
  |true=>have:=List.all_eq_true.1 hs t (by simpa using hc);rw [ht]at this;cases this)
def Has(e:Env):List (Nat×Value)->Prop
  |[]=>True
  |(t,v)::r=>e t=v/\Has e r
def upds(e:Env):List (Nat×Value)->Env
  |[]=>e
  |(t,v)::r=>upd (upds e r) t v
theorem od_{e:Env}: ∀{l:List (Nat×Value)},Has e l->upds e l=e
  |[],_=>rfl
  |(t,v)::r,h=>by
    unfold upds
    rw [od_ h.2]
    funext i;unfold upd;split
    · subst_vars;exact h.1.symm
    rfl
theorem tu_{M:List Nat}{e' e:Env}{l:List (Nat×Value)}(h:Agr M e' e)(hl:Has e' l):e'=upds (mask M e' e) l:=by
  have hm:mask M e' e=e':=by
    funext t;unfold mask;split
    · rfl
    rename_i hc;exact (h t (by simpa using hc)).symm
  rw [hm,od_ hl]
def φ{α:Type}(E size:Nat)(enc:α->List Value)(v:Value)(l:List α):Res:=Res.row E size v l.length (l.flatMap enc)
def jQ(v:Value)(σ:aj):Value->aj->List Res->Prop:=λr σ' H'=>r=v/\σ'=σ/\H'=[]
def RowP{α:Type}(E size:Nat)(enc:α->List Value)(l:List α)(σ:aj):Value->aj->List Res->Prop:=λr σ' H'=>(∃a c,r= .slice a l.length c)/\σ'=σ/\H'=[φ E size enc r l]
def v8_(v:Value)(σ:aj)(H1:List Res):Value->aj->List Res->Prop:=λr σ' H'=>r=v/\σ'=σ/\H'=H1
section rets
variable {P:Program} {fn:Func} {n:Nat} {e:Env} {σ:aj} {H:List Res} {ex:Exit}
theorem ret1P{t:Nat}{v:Value}(hr:fn.results= #[.tmp t])(h:e t=v):RetOk P fn n (jQ v σ) .ret e σ H:=
  RetOk.of [] (.inl rfl) ((AU.one hr).eq h) (List.nil_sublist _) ⟨rfl,rfl,rfl⟩
theorem zf_{α:Type}{E size t c:Nat}{a:Option Addr}{enc:α->List Value}{l:List α}(hr:fn.results= #[.tmp t])(h:e t= .slice a l.length c):RetOk P fn n (RowP E size enc l σ) .ret e σ (φ E size enc (.slice a l.length c) l::H):=
  RetOk.of [φ E size enc (.slice a l.length c) l] (.inl rfl) ((AU.one hr).eq h) (List.Sublist.cons_cons _ (List.nil_sublist _)) ⟨⟨a,c,rfl⟩,rfl,rfl⟩
end rets
section calls
variable {X:Ctx} {e:Env} {σ:aj} {H F:List Res} {o:Oper} {x y:Operand} {K:Env->aj->List Res->Prop}
theorem OpOk.jF{f d:Nat}{opds:Array Operand}{ts:Array TypeId}{first cap:Array Value}{args:List Value}{v:Value}(hc:Con X.P f args.toArray σ [] (jQ v σ))(ho:o.op= .call {callee:= .value x,args:=opds,argTypes:=ts})
    (hx:ev e x= .func (.func f) first cap) (hp:plainF X.P f=true) (hargs:first.toList++(opds.toList.map (ev e)++cap.toList)=args) (hd:o.dst=some d) (hn:Nat.blt d X.n=true)
    (k:K (upd e d v) σ H):OpOk X o e σ H K:=
  OpOk.call (H1:=[]) hc ho hx hp hargs hd hn rfl λr σ' H' _ ⟨h1,h2,h3⟩=>by subst h1 h2 h3;exact k
theorem OpOk.Ve{f d:Nat}{opds:Array Operand}{ts:Array TypeId}{first cap:Array Value}{args:List Value}{v:Value}{H1:List Res}(hc:Con X.P f args.toArray σ H1 (v8_ v σ H1))(ho:o.op= .call {callee:= .value x,args:=opds,argTypes:=ts})
    (hx:ev e x= .func (.func f) first cap) (hp:plainF X.P f=true) (hargs:first.toList++(opds.toList.map (ev e)++cap.toList)=args) (hd:o.dst=some d) (hn:Nat.blt d X.n=true) (hH:H1++F=H)
    (k:K (upd e d v) σ (H1++F)):OpOk X o e σ H K:=
  OpOk.call (H1:=H1) hc ho hx hp hargs hd hn hH λr σ' H' _ ⟨h1,h2,h3⟩=>by subst h1 h2 h3;exact k
theorem OpOk.ch_{f d:Nat}{opds:Array Operand}{ts:Array TypeId}{first cap:Array Value}{args:List Value}{v:Value}{H1:List Res}(hc:Con X.P f args.toArray σ H1 (jQ v σ))(ho:o.op= .call {callee:= .value x,args:=opds,argTypes:=ts})
    (hx:ev e x= .func (.func f) first cap) (hp:plainF X.P f=true) (hargs:first.toList++(opds.toList.map (ev e)++cap.toList)=args) (hd:o.dst=some d) (hn:Nat.blt d X.n=true) (hH:H1++F=H)
    (k:K (upd e d v) σ F):OpOk X o e σ H K:=
  OpOk.call (H1:=H1) hc ho hx hp hargs hd hn hH λr σ' H' _ ⟨h1,h2,h3⟩=>by subst h1 h2 h3;exact k
def s8_{α:Type}(σ:aj)(H:List Res)(size:Nat)(enc:α->List Value)(u:Value)(l:List α):Prop:=
  RS σ size enc u l\/ ∃(E:TypeId) (i:Nat),H[i]? =some (φ E size enc u l)
theorem OpOk.as_{α:Type}{T E size nY d:Nat}{enc:α->List Value}{z v u:Value}{l l2:List α}{ty:TypeId}(ho:o.op= .call {callee:= .builtin .append,args:= #[x,y],argTypes:= #[T,ty]})(hty:ty=T)(ht:X.P.underlying T=some (.slice E))(hs:szOf X.P E=some size)(hby:byOf X.P E=some nY)(hz:zeroOf X.P E=some z)
    (hd:o.dst=some d) (hn:Nat.blt d X.n=true) (hsz:0<size) (hzs:z.cells.size=size) (hx:ev e x=v) (hy:ev e y=u) (hsrc:s8_ σ F size enc u l2) (hb0:(l.length+l2.length) * nY<=140737488355328) (qw:0<nY)
    (k: ∀a c,K (upd e d (.slice a (l++l2).length c)) σ (φ E size enc (.slice a (l++l2).length c) (l++l2)::F)):OpOk X o e σ (φ E size enc v l::F) K:=by
  refine OpOk.append ho hty ht hs hby hz hd hn hsz hzs hx hy (m:=l2.length) (ys:=l2.flatMap enc) ?_ hb0 qw λa c=> ?_
  · rcases hsrc with h|⟨E',i,h⟩
    · exact .inl h.rv
    exact .inr ⟨E',i,h⟩
  have h:=k a c
  rw [gB]at h
  have e1: ∀v',Res.row E size v' (l.length+l2.length) (l.flatMap enc++l2.flatMap enc)=φ E size enc v' (l++l2):=λv'=>by
    simp only [φ,List.flatMap_append,gB]
  rw [e1];exact h
theorem TC.oh{α:Type}{Q:QP}{c:Code}{E size:Nat}{enc:α->List Value}{v:Value}{l:List α}(hl: ∀x,(enc x).length=size)(k: ∀σ',σ.le σ'->RS σ' size enc v l->TC X Q c e σ' F):TC X Q c e σ (φ E size enc v l::F):=
  TC.P9 λσ' h1 h2=>k σ' h1 ⟨h2,hl⟩
theorem TL.oh{α:Type}{Q:QP}{ops:Array Oper}{ol:List Oper}{E size:Nat}{enc:α->List Value}{v:Value}{l:List α}(hl: ∀x,(enc x).length=size)(k: ∀σ',σ.le σ'->RS σ' size enc v l->TL X ops Q ol e σ' F):TL X ops Q ol e σ (φ E size enc v l::F):=
  TL.P9 λσ' h1 h2=>k σ' h1 ⟨h2,hl⟩
theorem TC.nilS{α:Type}{Q:QP}{c:Code}(E size:Nat)(enc:α->List Value)(k:TC X Q c e σ (φ E size enc (.slice none 0 0) []::H)):TC X Q c e σ H:=TC.nilRow E size k
theorem TL.nilS{α:Type}{Q:QP}{ops:Array Oper}{ol:List Oper}(E size:Nat)(enc:α->List Value)(k:TL X ops Q ol e σ (φ E size enc (.slice none 0 0) []::H)):TL X ops Q ol e σ H:=TL.nilRow E size k
theorem ij_ {α : Type} {enc : α -> List Value} (z : Value) (d : α) (hz : z.cells.toList = enc d) (m : Nat) (h0 : 0 < (enc d).length) : (madeCells z.cells (m * (enc d).length)).toList = (List.replicate m d).flatMap enc := by
  have hsz:z.cells.size=(enc d).length:=by rw [<-hz];simp
  induction m with
  |zero=>simp [madeCells]
  |succ m ih=>
    rw [List.replicate_succ',List.flatMap_append,<-ih]
    apply List.ext_getElem?
    intro i
    simp only [madeCells,Array.toList_map,Array.toList_range,List.getElem?_map,List.getElem?_append,List.length_map,List.length_range,List.flatMap_cons,List.flatMap_nil,List.append_nil]
    by_cases h1:i<m * (enc d).length
    · have h2:i<(m+1) * (enc d).length:=by rw [Nat.add_mul];omega
      simp [h1,h2]
    by_cases h2:i<(m+1) * (enc d).length
    · have h3:i - m * (enc d).length<(enc d).length:=by rw [Nat.add_mul]at h2;omega
      have h4:i % z.cells.size=i - m * (enc d).length:=by
        rw [hsz]
        have:i=(i - m * (enc d).length)+(enc d).length * m:=by rw [Nat.mul_comm (enc d).length m];omega
        rw [this,Nat.add_mul_mod_self_left,Nat.mod_eq_of_lt h3,Nat.mul_comm (enc d).length m];omega
      rw [if_neg h1,List.getElem?_range h2,Option.map_some,h4]
      have h5:i - m * (enc d).length<z.cells.size:=by rw [hsz];exact h3
      generalize i - m * (enc d).length=k at *
      rw [getElem!_pos z.cells _ h5,<-hz]
      simp [h5]
    have h3:(enc d).length<=i - m * (enc d).length:=by rw [Nat.add_mul]at h2;omega
    rw [if_neg h1,List.getElem?_eq_none h3,List.getElem?_eq_none (by simp;omega)];rfl
theorem OpOk.lit{α:Type}{T E size d m:Nat}{enc:α->List Value}{parts:Array (Nat×Operand)}{z:Value}(l:List α)(ho:o.op= .buildSlice T m parts)(ht:X.P.underlying T=some (.slice E))(hs:szOf X.P E=some size)(hz:zeroOf X.P E=some z)
    (hd:o.dst=some d) (hn:Nat.blt d X.n=true) (hm:l.length=m) (hl: ∀x,(enc x).length=size) (h0:m * size≠0) (hbig:m * size<=16777216)
    (x0:α) (hx0:z.cells.toList=enc x0) (h00:0<size)
    (hf:Pe (λi=>some (i * size,size)) ((List.replicate m x0).flatMap enc) (parts.toList.map λx=>(x.1,ev e x.2))=some (l.flatMap enc)) (hmax:m<=281474976710656) (h1: ∀x, ∀u∈enc x,u.oneCell'=true)
    (k: ∀a c,K (upd e d (.slice a l.length c)) σ (φ E size enc (.slice a l.length c) l::H)):OpOk X o e σ H K:=by
  subst hm
  have hmade:((Array.range (l.length * size)).map (z.cells[· % z.cells.size]!)).toList=(List.replicate l.length x0).flatMap enc:=by
    have:=ij_ z x0 hx0 l.length (by rw [hl];exact h00)
    rw [hl]at this;exact this
  refine OpOk.buildSlice (cs:=(l.flatMap enc).toArray) ho ht hs hz hd hn h0 hbig ?_ (by simp [um hl]) hmax (λu hu=> ?_) λa c=> ?_
  · rw [p5_,hmade,hf];rfl
  · rw [List.mem_flatMap]at hu
    obtain ⟨q,_,hq⟩:=hu
    exact h1 q u hq
  exact k a c
theorem OpOk.Pj{α:Type}{T E size d:Nat}{enc:α->List Value}{parts:Array (Nat×Operand)}(ho:o.op= .buildSlice T 0 parts)(hp:parts= #[])(ht:X.P.underlying T=some (.slice E))(hs:szOf X.P E=some size)
    (hd:o.dst=some d) (hn:Nat.blt d X.n=true) (k: ∀a c,K (upd e d (.slice a 0 c)) σ (φ E size enc (.slice a 0 c) []::H)):OpOk X o e σ H K:=by
  subst hp
  intro u0 C0 τ0 w a hw ha K' Q hK
  have hR:Reach u0 C0 τ0 σ (w.alloc (.cells #[] E)) (φ E size enc (.slice (some ⟨w.heap.size,0,none⟩) 0 0) []::H):=
    hw.Y5 (some _) rfl rfl rfl rfl (by simp) (Nat.le_refl _) (λk hk=>gi_ w _ k hk)
      ⟨⟨by simp,.inr ⟨w.heap.size,0, #[],rfl,Nat.zero_le _,heap_alloc_new w _,Nat.le_refl _,Nat.zero_le _,by simp,by simp⟩⟩,by simp,Nat.zero_le _⟩ (λb hb=>by cases hb;exact Nat.le_refl _)
  refine Oper.vZ (w':=w.alloc (.cells #[] E)) (v:= .slice (some ⟨w.heap.size,0,none⟩) 0 0) ?_ (hK _ _ _ _ _ (k _ _) hR (yh ha hd hn _))
  rw [ha.eval']
  simp [execOp,ho,Instr.buildSlice,run_underlying ht,zC hs,Instr.fill,newRow,Array.range_zero']
theorem OpOk.makeS{α:Type}{T E size nY d m:Nat}{enc:α->List Value}{kl kc:IntKind}{z:Value}(x0:α)(ho:o.op= .makeSlice T x y)(ht:X.P.underlying T=some (.slice E))(hs:szOf X.P E=some size)(hby:byOf X.P E=some nY)(hz:zeroOf X.P E=some z)
    (hd:o.dst=some d) (hn:Nat.blt d X.n=true) (hx:ev e x= .int kl (m:Nat)) (hy:ev e y= .int kc (m:Nat)) (hb:nY * m<=281474976710656) (qw:0<nY) (hl: ∀x,(enc x).length=size) (h0:0<size)
    (hz0:z.cells.toList=enc x0) (h1: ∀x, ∀u∈enc x,u.oneCell'=true) (k: ∀a c,K (upd e d (.slice a m c)) σ (φ E size enc (.slice a m c) (List.replicate m x0)::H)):OpOk X o e σ H K:=by
  refine OpOk.make (zs:=(List.replicate m x0).flatMap enc) ho ht hs hby hz hd hn hx hy hb qw ?_ (λu hu=> ?_) λa c=> ?_
  · rw [<-hl x0];exact ij_ z x0 hz0 m (by rw [hl];exact h0)
  · rw [List.mem_flatMap]at hu
    obtain ⟨q,_,hq⟩:=hu
    exact h1 q u hq
  have:=k a c
  simpa only [φ,r_]using this
theorem ns_{α:Type}{enc:α->List Value}{size:Nat}(hl: ∀x,(enc x).length=size)(x:α): ∀(l:List α) (i:Nat),i<l.length->oP (l.flatMap enc) (i * size) (enc x)=(l.set i x).flatMap enc
  |[],i,h=>by simp at h
  |y::l,0,_=>by
    simp only [oP,Nat.zero_mul,List.take_zero,List.nil_append,List.flatMap_cons,List.set_cons_zero,Nat.zero_add]
    rw [hl x,List.drop_left' (hl y)]
  |y::l,i+1,h=>by
    have ih:=ns_ hl x l i (by simpa using h)
    simp only [oP]at ih
    simp only [oP,List.flatMap_cons,List.set_cons_succ,<-ih]
    have h1:(i+1) * size=size+i * size:=by rw [Nat.add_mul];omega
    rw [h1,List.take_append,hl y,Nat.add_sub_cancel_left,List.take_of_length_le (by rw [hl y];omega)]
    have h2:size+i * size+(enc x).length=size+(i * size+(enc x).length):=by omega
    rw [h2,<-List.drop_drop,List.drop_left' (hl y)]
    simp
theorem OpOk.lG{α:Type}{T E size i:Nat}{enc:α->List Value}{v u:Value}{l:List α}(q:α)(ho:o.op= .store T x y)(hs:szOf X.P T=some size)(hd:o.dst=none)(hx:ev e x=oN v (i * size))(hv:ev e y=u)(hu:u.cells.toList=enc q)(hl: ∀x,(enc x).length=size)
    (h1: ∀x, ∀u∈enc x,u.oneCell'=true) (h0:0<size) (hi:i<l.length) (kk:K e σ (φ E size enc v (l.set i q)::F)):OpOk X o e σ (φ E size enc v l::F) K:=by
  have hus:u.cells.size=size:=by rw [<-Array.length_toList,hu,hl]
  refine OpOk.b6_ ho hs hd hx hv hus (by rw [hu];exact h1 q) h0 ?_ ?_
  · rw [um hl]
    have h1:(i+1) * size<=l.length * size:=Nat.mul_le_mul_right _ hi
    rw [Nat.add_mul]at h1;omega
  rw [hu,ns_ hl q l i hi]
  simpa only [φ,gy]using kk
end calls
theorem TC.loopF{X:Ctx}{Q:QP}{c:Code}{e:Env}{σ:aj}{H:List Res}{α:Type}(M:List Nat)(S:α->List (Nat×Value))(Hf:α->List Res)(σf:α->aj)(I:α->Prop)(μ:α->Nat)(a0:α)
    (h0:I a0) (hS:Has e (S a0)) (hH:H=Hf a0) (hσ:σ=σf a0)
    (round: ∀(a:α) (j:Env),I a->TC X (seqQ (λe' σ' H'=>Agr M e' e/\ ∃a',μ a'<μ a/\I a'/\Has e' (S a')/\H'=Hf a'/\σ'=σf a') Q) c (upds (mask M j e) (S a)) (σf a) (Hf a)):TC X Q (.loop c) e σ H:=by
  refine TC.loop (λk e' σ' H'=> ∃a,μ a=k/\I a/\Agr M e' e/\Has e' (S a)/\H'=Hf a/\σ'=σf a) (μ a0) ⟨a0,rfl,h0,Agr.refl _ _,hS,hH,hσ⟩ ?_
  rintro k e' σ' H' ⟨a,rfl,hI,hA,hs,rfl,rfl⟩
  have he:=tu_ hA hs
  rw [he]
  exact (round a e' hI).weak λex e'' σ'' H'' hq=>by
    cases ex<;>first|exact hq|(obtain ⟨h1,a',h2,h3,h4,h5,h6⟩:=hq;exact ⟨_,h2,a',rfl,h3,h1,h4,h5,h6⟩)
section ways
variable {K:Env->aj->List Res->Prop} {Q:QP} {e:Env} {σ:aj} {H:List Res} {i:Nat}
theorem S.n(h:K e σ H):seqQ K Q .normal e σ H:=h
theorem S.x(h:Q (.exit i) e σ H):seqQ K Q (.exit i) e σ H:=h
theorem S.r(h:Q .ret e σ H):seqQ K Q .ret e σ H:=h
theorem B.n{id:Nat}(h:Q .normal e σ H):blkQ id Q .normal e σ H:=h
theorem B.r{id:Nat}(h:Q .ret e σ H):blkQ id Q .ret e σ H:=h
end ways
end Go.E
end

noncomputable section
namespace Go.Proofs.YtchebnpdnfhenaaGreatDoor
open Go
theorem nG:Go.E.aggOf Tryz.prog 4=some false:=by kernel_rfl
theorem ag5:Go.E.aggOf Tryz.prog 5=some false:=by kernel_rfl
theorem MH:Go.E.aggOf Tryz.prog 62=some false:=by kernel_rfl
theorem MG:Go.E.aggOf Tryz.prog 64=some true:=by kernel_rfl
theorem G8:Go.E.byOf Tryz.prog 4=some 1:=by kernel_rfl
theorem gQ:Go.E.szOf Tryz.prog 4=some 1:=by kernel_rfl
theorem Ju:Go.E.szOf Tryz.prog 5=some 1:=by kernel_rfl
theorem Na:Go.E.szOf Tryz.prog 62=some 1:=by kernel_rfl
theorem Hw:Go.E.szOf Tryz.prog 64=some 4:=by kernel_rfl
theorem AA:Go.E.zeroOf Tryz.prog 4=some (.bool false):=by kernel_rfl
theorem VA:Go.E.zeroOf Tryz.prog 64=some (.agg #[.int .u64 0,.int .u64 0,.int .u64 0,.int .u64 0]):=by kernel_rfl
end Go.Proofs.YtchebnpdnfhenaaGreatDoor
end

noncomputable section
namespace Go.E
open Go
section
variable {P:Program} {n:Nat} {e:Env} {σ:aj} {H:List Res} {o:Oper} {x y:Operand}
theorem OpVal.kG{T b E i s:Nat}{cs:Array Value}(ho:o.op= .load T x)(hA:aggOf P T=some true)(hz:szOf P T=some s)(hx:ev e x=loc b 0)(hi:H[i]? =some (κ b cs E))(hl:cs.size=s):OpVal P n o e σ H (.agg cs):=by
  have:=OpVal.bj_ (P:=P) (n:=n) (e:=e) (σ:=σ) (us:=cs.toList) ho hA hz hx hi (by simpa using hl) (by rw [List.drop_zero,<-hl,<-Array.length_toList,List.take_length])
  simpa using this
theorem OpVal.ce_{f:FuncId}{first cap:Array Operand}(ho:o.op= .makeFunc (.func f) first cap):OpVal P n o e σ H (.func (.func f) (first.toList.map (ev e)).toArray (cap.toList.map (ev e)).toArray):=by
  have:=OpVal.makeFunc (P:=P) (n:=n) (e:=e) (σ:=σ) (H:=H) ho
  rwa [show first.map (ev e)=(first.toList.map (ev e)).toArray from by apply Array.ext';simp,show cap.map (ev e)=(cap.toList.map (ev e)).toArray from by apply Array.ext';simp]at this
theorem OpVal.bq_{T E size m b q:Nat}{k:IntKind}{i:Nat}(ho:o.op= .indexAddr T x y)(ht:P.underlying T=some (.array m E))(hz:szOf P E=some size)(hx:ev e x=loc b q)(hy:ev e y= .int k (i:Nat))(h1:i<m):
    OpVal P n o e σ H (loc b (q+i * size)):=by
  have:=OpVal.c6_ (P:=P) (n:=n) (σ:=σ) (H:=H) ho ht hz hx hy (by omega) (by omega)
  simpa using this
theorem OpVal.nD{T:TypeId}{parts:Array (Nat×Operand)}{pl:Array (Nat×Nat)}{z:Value}{cs:List Value}(ho:o.op= .build T parts)(hp:plOf P T=some pl)(hz:zeroOf P T=some z)
    (hf:Pe (λi=>pl.toList[i]?) z.cells.toList (parts.toList.map λx=>(x.1,ev e x.2))=some cs):OpVal P n o e σ H (.agg cs.toArray):=
  OpVal.build ho hp hz (by rw [p5_];simp only [Array.getElem?_toList]at hf;rw [hf];rfl)
theorem OpVal.cy_{T E s m:TypeId}{parts:Array (Nat×Operand)}{z:Value}{cs:List Value}(ho:o.op= .build T parts)(hu:P.underlying T=some (.array m E))(hs:szOf P E=some s)(hz:zeroOf P T=some z)
    (hf:Pe (λi=>some (i * s,s)) z.cells.toList (parts.toList.map λx=>(x.1,ev e x.2))=some cs):OpVal P n o e σ H (.agg cs.toArray):=
  OpVal.c7_ ho hu hs hz (by rw [p5_,hf];rfl)
def kmax:IntKind->Nat
  | .i8=>128| .u8=>256| .i16=>32768| .u16=>65536| .i32=>2147483648| .u32=>4294967296| .i64=>9223372036854775808| .u64=>18446744073709551616
theorem y3_{k:IntKind}{a:Nat}(h:a<kmax k):k.wrap (a:Int)=(a:Int):=by
  cases k<;>simp only [kmax]at h<;>simp only [IntKind.wrap,IntKind.bits,IntKind.signed]<;>simp<;>omega
section
variable {T T':TypeId} {k k':IntKind} {a b:Nat}
theorem OpVal.quoN(ho:o.op= .binOp .quo T x y T')(hx:ev e x= .int k (a:Nat))(hy:ev e y= .int k (b:Nat))(hb:0<b)(ha:a<kmax k):OpVal P n o e σ H (.int k ((a / b:Nat):Int)):= .bin ho hx hy λw=>by
  have h0: ¬ (b:Int)=0:=by omega
  have h1:a / b<kmax k:=Nat.lt_of_le_of_lt (Nat.div_le_self a b) ha
  have h2:k.wrap ((a:Int).tdiv (b:Int))=((a / b:Nat):Int):=by
    rw [Int.tdiv_eq_ediv_of_nonneg (by omega)];exact_mod_cast y3_ h1
  simp only [binOp,ne_eq,not_true_eq_false,if_false,Op.intDiv,h0,h2];rfl
theorem OpVal.remN(ho:o.op= .binOp .rem T x y T')(hx:ev e x= .int k (a:Nat))(hy:ev e y= .int k (b:Nat))(hb:0<b):OpVal P n o e σ H (.int k ((a % b:Nat):Int)):= .bin ho hx hy λw=>by
  have h0: ¬ (b:Int)=0:=by omega
  have h2:(a:Int).tmod (b:Int)=((a % b:Nat):Int):=by
    rw [Int.tmod_eq_emod_of_nonneg (by omega)];exact_mod_cast rfl
  simp only [binOp,ne_eq,not_true_eq_false,if_false,Op.intDiv,h0,h2];rfl
theorem OpVal.shrN(ho:o.op= .binOp .shr T x y T')(hx:ev e x= .int k (a:Nat))(hy:ev e y= .int k' (b:Nat))(hb:b<k.bits):OpVal P n o e σ H (.int k ((a / 2 ^ b:Nat):Int)):=λw _=>by
  have h0: ¬ (b:Int)<0:=by omega
  have h1:min b k.bits=b:=by omega
  have h2:(a:Int).fdiv (2 ^ b)=((a / 2 ^ b:Nat):Int):=by
    rw [Int.fdiv_eq_ediv_of_nonneg _ (by exact_mod_cast Nat.zero_le _)];exact_mod_cast rfl
  simp [execOp,ho,hx,hy,gx_,binOp,Op.shift,h0,h1,h2]
theorem OpVal.shlN(ho:o.op= .binOp .shl T x y T')(hx:ev e x= .int k (a:Nat))(hy:ev e y= .int k' (b:Nat))(hb:b<k.bits)(h:a * 2 ^ b<kmax k):OpVal P n o e σ H (.int k ((a * 2 ^ b:Nat):Int)):=λw _=>by
  have h0: ¬ (b:Int)<0:=by omega
  have h1:min b k.bits=b:=by omega
  have h2:k.wrap ((a:Int) * 2 ^ b)=((a * 2 ^ b:Nat):Int):=by
    rw [show (a:Int) * 2 ^ b=((a * 2 ^ b:Nat):Int)from by push_cast;rfl];exact y3_ h
  simp only [execOp,ho,hx,hy,Sem.run_bind,gx_,Result.andThen_ok,binOp,Op.shift,h0,if_false,iW,h1,h2];rfl
theorem toNat_ofInt{a m:Nat}(h:a<2 ^ m):(BitVec.ofInt m (a:Int)).toNat=a:=by
  simp [BitVec.toNat_ofInt];exact_mod_cast Nat.mod_eq_of_lt h
theorem OpVal.andN{a b:Nat}(ho:o.op= .binOp .and T x y T')(hx:ev e x= .int .u64 (a:Nat))(hy:ev e y= .int .u64 (b:Nat))(ha:a<18446744073709551616)(hb:b<18446744073709551616):OpVal P n o e σ H (.int .u64 ((a &&& b:Nat):Int)):= .bin ho hx hy λw=>by
  have h1:(BitVec.ofInt IntKind.u64.bits (a:Int) &&& BitVec.ofInt IntKind.u64.bits (b:Int)).toNat=a &&& b:=by
    rw [BitVec.toNat_and,toNat_ofInt (m:=IntKind.u64.bits) (by simpa [IntKind.bits]using ha),toNat_ofInt (m:=IntKind.u64.bits) (by simpa [IntKind.bits]using hb)]
  have h2:a &&& b<18446744073709551616:=Nat.lt_of_le_of_lt Nat.and_le_left ha
  simp only [binOp,ne_eq,not_true_eq_false,if_false,Op.intBits,h1,y3_ (k:= .u64) (a:=a &&& b) h2];rfl
theorem OpVal.orN{a b:Nat}(ho:o.op= .binOp .or T x y T')(hx:ev e x= .int .u64 (a:Nat))(hy:ev e y= .int .u64 (b:Nat))(ha:a<18446744073709551616)(hb:b<18446744073709551616):OpVal P n o e σ H (.int .u64 ((a ||| b:Nat):Int)):= .bin ho hx hy λw=>by
  have h1:(BitVec.ofInt IntKind.u64.bits (a:Int) ||| BitVec.ofInt IntKind.u64.bits (b:Int)).toNat=a ||| b:=by
    rw [BitVec.toNat_or,toNat_ofInt (m:=IntKind.u64.bits) (by simpa [IntKind.bits]using ha),toNat_ofInt (m:=IntKind.u64.bits) (by simpa [IntKind.bits]using hb)]
  have h2:a ||| b<18446744073709551616:=Nat.or_lt_two_pow (n:=64) ha hb
  simp only [binOp,ne_eq,not_true_eq_false,if_false,Op.intBits,h1,y3_ (k:= .u64) (a:=a ||| b) h2];rfl
theorem OpVal.eqlN(ho:o.op= .binOp .eql T x y T')(hx:ev e x= .int k (a:Nat))(hy:ev e y= .int k (b:Nat)):OpVal P n o e σ H (.bool (decide (a=b))):=by
  have:=OpVal.eql (P:=P) (n:=n) (σ:=σ) (H:=H) ho hx hy
  rwa [show decide ((a:Int)=(b:Int))=decide (a=b)from by rw [decide_eq_decide];omega]at this
end
theorem jl_(op:BinOp)(t:TypeId)(x y:Operand)(a b:Option Addr)(w:World):(eqGuard op t x y (.pointer a) (.pointer b)).run P w= .ok () w:=by
  cases op<;>simp [eqGuard]
theorem ot_(op:BinOp)(t:TypeId)(x y:Operand)(a b:Option Addr)(m c m' c':Nat)(w:World):(eqGuard op t x y (.slice a m c) (.slice b m' c')).run P w= .ok () w:=by
  cases op<;>simp [eqGuard]
theorem v7_{T E:TypeId}(hT:P.underlying T=some (.pointer E))(d:Nat)(a:Option Addr)(w:World):(Op.equalIn (d+1) T (.pointer a) (.pointer none)).run P w= .ok a.isNone w:=by
  cases a<;>simp [Op.equalIn,run_underlying hT]
theorem zc_{T E:TypeId}(hT:P.underlying T=some (.slice E))(d:Nat)(a:Option Addr)(m c:Nat)(w:World):(Op.equalIn (d+1) T (.slice a m c) (.slice none 0 0)).run P w= .ok a.isNone w:=by
  cases a<;>simp [Op.equalIn,run_underlying hT]
theorem hn_{T:TypeId}{v u:Value}{r:Bool}{w:World}(hv: ∀k a,v≠ .int k a)(h:(Op.equalIn 10000 T v u).run P w= .ok r w)(hb:binOp .eql T v u=(do pure (.bool (<-Op.equal T v u)):Sem Value)):(binOp .eql T v u).run P w= .ok (.bool r) w:=by
  rw [hb]
  simp only [Sem.run_bind,Op.equal,Op.maxDepth,h,Result.andThen_ok,Sem.run_pure]
theorem mj_{T:TypeId}{v u:Value}{r:Bool}{w:World}(hv: ∀k a,v≠ .int k a)(h:(Op.equalIn 10000 T v u).run P w= .ok r w)(hb:binOp .neq T v u=(do pure (.bool (!(<-Op.equal T v u))):Sem Value)):(binOp .neq T v u).run P w= .ok (.bool (!r)) w:=by
  rw [hb]
  simp only [Sem.run_bind,Op.equal,Op.maxDepth,h,Result.andThen_ok,Sem.run_pure]
theorem OpVal.eqlNil{T T':TypeId}{a:Option Addr}{E:TypeId}(ho:o.op= .binOp .eql T x y T')(hT:P.underlying T=some (.pointer E))(hx:ev e x= .pointer a)(hy:ev e y= .pointer none):OpVal P n o e σ H (.bool a.isNone):=λw _=>by
  simp only [execOp,ho,hx,hy,Sem.run_bind,jl_,Result.andThen_ok]
  rw [hn_ (by simp) (v7_ hT 9999 a w) rfl];rfl
theorem OpVal.cb_{T T':TypeId}{a:Option Addr}{m c:Nat}{E:TypeId}(ho:o.op= .binOp .eql T x y T')(hT:P.underlying T=some (.slice E))(hx:ev e x= .slice a m c)(hy:ev e y= .slice none 0 0):OpVal P n o e σ H (.bool a.isNone):=λw _=>by
  simp only [execOp,ho,hx,hy,Sem.run_bind,ot_,Result.andThen_ok]
  rw [hn_ (by simp) (zc_ hT 9999 a m c w) rfl];rfl
theorem hm_{E:TypeId}(hA:aggOf P E=some false){cs:Array Value}{k:Nat}{u:Value}(h:cs[k]? =some u)(w:World):(part E cs k).run P w= .ok u w:=by
  simp [part,lc_ hA,h]
theorem mb_{E s:TypeId}(hA:aggOf P E=some true)(hz:szOf P E=some s)(cs:Array Value)(k:Nat)(w:World):(part E cs k).run P w= .ok (.agg (cs.extract k (k+s))) w:=by
  simp [part,lc_ hA,zC hz]
theorem pf_ {T E : TypeId} {k : IntKind} (d : Nat) (hT : P.underlying T = some (.array 4 E)) (hE : P.underlying E = some (.int k)) (hA : aggOf P E = some false) (hz : szOf P E = some 1) (a0 a1 a2 a3 b0 b1 b2 b3 : Int) (w : World) :
    (Op.equalIn (d+2) T (.agg #[.int k a0,.int k a1,.int k a2,.int k a3]) (.agg #[.int k b0,.int k b1,.int k b2,.int k b3])).run P w= .ok (decide (a0=b0/\a1=b1/\a2=b2/\a3=b3)) w:=by
  have h0: ∀(a b:Int),(Op.equalIn (d+1) E (.int k a) (.int k b)).run P w= .ok (decide (a=b)) w:=λa b=>by
    rw [run_equalIn_int w d E k k a b hE];rfl
  have p: ∀(cs:Array Value) (i:Nat) (u:Value),cs[i]? =some u->(part E cs i).run P w= .ok u w:=λcs i u h=>hm_ hA h w
  rw [Op.equalIn]
  simp only [Sem.run_bind,run_underlying hT,Result.andThen_ok,zC hz,Std.Legacy.Range.forIn_eq_forIn_range',Std.Legacy.Range.size,Nat.sub_zero,Nat.add_sub_cancel,Nat.div_one,List.range'_succ,List.range'_zero,List.forIn_cons,List.forIn_nil,Nat.mul_one,Nat.zero_add]
  rw [p _ 0 (.int k a0) rfl,Result.andThen_ok,p _ 0 (.int k b0) rfl,Result.andThen_ok,h0,Result.andThen_ok]
  by_cases e0:a0=b0
  · simp only [e0,decide_true,Bool.not_true,Bool.false_eq_true,if_false,Sem.run_pure,Result.andThen_ok,Sem.run_bind]
    rw [p _ 1 (.int k a1) rfl,Result.andThen_ok,p _ 1 (.int k b1) rfl,Result.andThen_ok,h0,Result.andThen_ok]
    by_cases e1:a1=b1
    · simp only [e1,decide_true,Bool.not_true,Bool.false_eq_true,if_false,Sem.run_pure,Result.andThen_ok,Sem.run_bind]
      rw [p _ 2 (.int k a2) rfl,Result.andThen_ok,p _ 2 (.int k b2) rfl,Result.andThen_ok,h0,Result.andThen_ok]
      by_cases e2:a2=b2
      · simp only [e2,decide_true,Bool.not_true,Bool.false_eq_true,if_false,Sem.run_pure,Result.andThen_ok,Sem.run_bind]
        rw [p _ 3 (.int k a3) rfl,Result.andThen_ok,p _ 3 (.int k b3) rfl,Result.andThen_ok,h0,Result.andThen_ok]
        by_cases e3:a3=b3
        · simp [e3]
        simp [e3]
      simp [e2]
    simp [e1]
  simp [e0]
theorem OpVal.ds_{T T' E:TypeId}{k:IntKind}{xs ys:Array Value}{a0 a1 a2 a3 b0 b1 b2 b3:Int}(ho:o.op= .binOp .eql T x y T')(hT:P.underlying T=some (.array 4 E))(hE:P.underlying E=some (.int k))(hA:aggOf P E=some false)(hz:szOf P E=some 1)(hg:P.eqGuardType P.depth T=false)
    (hx:ev e x= .agg xs) (hy:ev e y= .agg ys) (hxs:xs.toList=[.int k a0,.int k a1,.int k a2,.int k a3]) (hys:ys.toList=[.int k b0,.int k b1,.int k b2,.int k b3]):OpVal P n o e σ H (.bool (decide (a0=b0/\a1=b1/\a2=b2/\a3=b3))):=λw _=>by
  have hxs':xs= #[.int k a0,.int k a1,.int k a2,.int k a3]:=by apply Array.ext';simpa using hxs
  have hys':ys= #[.int k b0,.int k b1,.int k b2,.int k b3]:=by apply Array.ext';simpa using hys
  subst hxs' hys'
  have h:=pf_ (P:=P) 9998 hT hE hA hz a0 a1 a2 a3 b0 b1 b2 b3 w
  simp only [execOp,ho,hx,hy,Sem.run_bind,run_eqGuard_agg _ _ _ _ _ _ _ hg,Result.andThen_ok]
  rw [hn_ (by simp) h rfl];rfl
end
section
variable {X:Ctx} {e:Env} {σ:aj} {H F:List Res} {o:Oper} {x y:Operand} {K:Env->aj->List Res->Prop}
theorem OpOk.boxA{E d:Nat}{cs:Array Value}(ho:o.op= .box E x)(hd:o.dst=some d)(hn:Nat.blt d X.n=true)(hx:ev e x= .agg cs)(k: ∀b,K (upd e d (loc b 0)) σ (κ b cs E::H)):OpOk X o e σ H K:=
  OpOk.box ho hd hn hx k
theorem OpOk.storeAll{T b s:Nat}{E:TypeId}{cs cs':Array Value}(ho:o.op= .store T x y)(hs:szOf X.P T=some s)(hd:o.dst=none)(hx:ev e x=loc b 0)(hv:ev e y= .agg cs')(hsz:cs'.size=s)
    (h1:(cs'.toList.all λu=>u.oneCell')=true) (hfit:cs.size=s) (kk:K e σ (κ b cs' E::F)):OpOk X o e σ (κ b cs E::F) K:=by
  refine OpOk.store (s:=s) ho hs hd hx hv hsz (List.all_eq_true.1 h1) (by simp [hfit]) ?_ kk
  apply Array.ext'
  show oP cs.toList 0 cs'.toList=cs'.toList
  simp [oP,hsz,<-hfit]
end
section
variable {X:Ctx} {ops:Array Oper} {Q:QP} {e:Env} {σ:aj} {H F:List Res} {c:Code} {l:List Oper}
end
section
variable {X:Ctx} {ops:Array Oper} {Q:QP} {e:Env} {σ σr:aj} {H Hr:List Res} {late:List Nat} {fuel:Nat} {listed:Array Bool}
theorem TA.du_(i:Nat){oi:Oper}{v:Value}{d:Nat}(hi:ops[i]? =some oi)(hs:Region.noSelect ops=true)(hf:Region.free .any ops listed i=true)(hr:(Region.ready .any ops listed).contains i=true)
    (hl:late.all (λj=>after? ops ops.size j i)=true) (hv: ∀a,St X.n e a->YieldsIf X.P ops (jR σr Hr) oi v a) (hd:oi.dst=some d) (hn:Nat.blt d X.n=true)
    (k:TA X ops Q σr Hr late fuel (listed.setIfInBounds i true) (upd e d v) σ H):TA X ops Q σr Hr late (fuel+1) listed e σ H:=λhnd w a hw hS hcl ha=>by
  have hr':i∈Region.ready .any ops listed:=by simpa using hr
  refine mf_ hi (Region.noSelect_spec hs) hnd (λc a w h=>h.elim) (λj hj=>⟨ops.size,(List.all_eq_true.1 hl) j hj⟩) fuel listed a w hcl (Region.free_spec hi hf) hr' (hv a ha) hS ?_
  rw [hd]
  exact k hnd w _ (hw.step hw.self rfl) hS (hcl.step hr') (ha.put (by simpa [Nat.blt_eq]using hn) v)
theorem TA.takeOn(i:Nat){oi oj:Oper}{v:Value}{d j dj:Nat}{b:Bool}(hi:ops[i]? =some oi)(hs:Region.noSelect ops=true)(hf:Region.free .any ops listed i=true)(hr:(Region.ready .any ops listed).contains i=true)
    (hl:late.all (λj=>after? ops ops.size j i)=true) (hg:oi.guard=some (j,b)) (hj:ops[j]? =some oj) (hdj:oj.dst=some dj) (hnj:Nat.blt dj X.n=true) (hb:e dj= .bool b) (hv:OpVal X.P X.n oi e σr Hr v) (hd:oi.dst=some d) (hn:Nat.blt d X.n=true)
    (k:TA X ops Q σr Hr late fuel (listed.setIfInBounds i true) (upd e d v) σ H):TA X ops Q σr Hr late (fuel+1) listed e σ H:=
  TA.du_ i hi hs hf hr hl (λa ha=> .inl ⟨by simp [Region.wanted,hg,U9 ha hj hdj hnj,hb],λw' hw'=>by rw [ha.eval'];exact hv w' hw'⟩) hd hn k
theorem TA.dg_(i:Nat){oi oj:Oper}{d j dj:Nat}{b b':Bool}(hi:ops[i]? =some oi)(hs:Region.noSelect ops=true)(hf:Region.free .any ops listed i=true)(hr:(Region.ready .any ops listed).contains i=true)
    (hl:late.all (λj=>after? ops ops.size j i)=true) (hg:oi.guard=some (j,b)) (hj:ops[j]? =some oj) (hdj:oj.dst=some dj) (hnj:Nat.blt dj X.n=true) (hb:e dj= .bool b') (hbb:b'= !b) (hd:oi.dst=some d) (hn:Nat.blt d X.n=true)
    (k:TA X ops Q σr Hr late fuel (listed.setIfInBounds i true) (upd e d undef) σ H):TA X ops Q σr Hr late (fuel+1) listed e σ H:=
  TA.du_ i hi hs hf hr hl (λa ha=> .inr ⟨by simp [Region.wanted,hg,U9 ha hj hdj hnj,hb,hbb],rfl⟩) hd hn k
theorem TA.vH(i:Nat){oi oj:Oper}{d j dj:Nat}{b:Bool}(hi:ops[i]? =some oi)(hs:Region.noSelect ops=true)(hf:Region.free .any ops listed i=true)(hr:(Region.ready .any ops listed).contains i=true)
    (hl:late.all (λj=>after? ops ops.size j i)=true) (hg:oi.guard=some (j,b)) (hj:ops[j]? =some oj) (hdj:oj.dst=some dj) (hnj:Nat.blt dj X.n=true) (hb:e dj=undef) (hd:oi.dst=some d) (hn:Nat.blt d X.n=true)
    (k:TA X ops Q σr Hr late fuel (listed.setIfInBounds i true) (upd e d undef) σ H):TA X ops Q σr Hr late (fuel+1) listed e σ H:=
  TA.du_ i hi hs hf hr hl (λa ha=> .inr ⟨by simp [Region.wanted,hg,U9 ha hj hdj hnj,hb,undef],rfl⟩) hd hn k
theorem TZ.v(i:Nat){oi:Oper}{v:Value}{d:Nat}(hr:Region.ready .any ops listed=[i])(hl:late.contains i=true)(hi:ops[i]? =some oi)(hg:oi.guard=none)(hv:OpVal X.P X.n oi e σ H v)(hd:oi.dst=some d)(hn:Nat.blt d X.n=true)
    (k:TZ X ops Q σr Hr late fuel (listed.setIfInBounds i true) (upd e d v) σ H):TZ X ops Q σr Hr late (fuel+1) listed e σ H:=
  TZ.last i hr hl hi hg (hv.ok hd hn k)
theorem TA.split{t:Bool}(dj:Nat)(hb:e dj= .bool t)(ht:t=true->TA X ops Q σr Hr late fuel listed (upd e dj (.bool true)) σ H)(hf:t=false->TA X ops Q σr Hr late fuel listed (upd e dj (.bool false)) σ H):TA X ops Q σr Hr late fuel listed e σ H:=by
  have he: ∀b,t=b->upd e dj (.bool b)=e:=λb h=>by
    funext i;unfold upd;split
    · subst_vars;rw [hb]
    rfl
  cases t
  · have:=hf rfl;rwa [he _ rfl]at this
  have:=ht rfl;rwa [he _ rfl]at this
end
section
variable {P:Program} {fn:Func} {n:Nat} {e:Env} {H:List Res}
theorem oh_{T b i s:Nat}{E:TypeId}{cs:Array Value}(hA:aggOf P T=some true)(hz:szOf P T=some s)(hi:H[i]? =some (κ b cs E))(hl:cs.size=s){w:World}(hw: ∀r∈H,r.holds w):(loadVar T ⟨b,0,none⟩).run P w= .ok (.agg cs) w:=by
  have hh:w.heap[b]? =some (.cells cs E (0,0)):=hw _ (List.mem_of_getElem? hi)
  have:=g0_ (P:=P) (a:=⟨b,0,none⟩) (us:=cs.toList) (w:=w) hA hz (by simpa using hl) (λj u hj=>by rw [DJ];exact ht_ hh (by simpa using hj))
  simpa using this
theorem AU.cell{t T b i s:Nat}{E:TypeId}{cs:Array Value}(hr:fn.results= #[.cell t T])(hA:aggOf P T=some true)(hz:szOf P T=some s)(ht:e t=loc b 0)(hi:H[i]? =some (κ b cs E))(hl:cs.size=s):AU P fn n e H (.agg cs):=λw a ha hw=>by
  have:=oh_ (P:=P) hA hz hi hl hw
  simp [results,hr,ha.get,ht,loc,asAddr,this]
end
theorem zn_{P:Program}{fn:Func}{n:Nat}{e:Env}{σ:aj}{H:List Res}{t T b s:Nat}{E:TypeId}{cs:Array Value}{v:Value}(i:Nat)(hr:fn.results= #[.cell t T])(hA:aggOf P T=some true)(hz:szOf P T=some s)(ht:e t=loc b 0)(hi:H[i]? =some (κ b cs E))(hl:cs.size=s)(hv:Value.agg cs=v):RetOk P fn n (jQ v σ) .ret e σ H:=
  RetOk.of [] (.inl rfl) ((AU.cell hr hA hz ht hi hl).eq hv) (List.nil_sublist _) ⟨rfl,rfl,rfl⟩
def aG(x:Int):List Value:=[.int .i64 x]
def eq_(x:Bool):List Value:=[.bool x]
def kE(x:UInt8):List Value:=[.int .u8 (x.toNat:Nat)]
theorem bn(x:Int):(aG x).length=1:=rfl
theorem jc(x:Bool):(eq_ x).length=1:=rfl
theorem UL(x:UInt8):(kE x).length=1:=rfl
theorem jS: ∀x, ∀u∈aG x,u.oneCell'=true:=λx u hu=>by simp [aG]at hu;subst hu;rfl
theorem qZ: ∀x, ∀u∈eq_ x,u.oneCell'=true:=λx u hu=>by simp [eq_]at hu;subst hu;rfl
theorem UO: ∀x, ∀u∈kE x,u.oneCell'=true:=λx u hu=>by simp [kE]at hu;subst hu;rfl
structure BSet where
  a:Nat
  b:Nat
  c:Nat
  d:Nat
  lt:a<18446744073709551616/\b<18446744073709551616/\c<18446744073709551616/\d<18446744073709551616
  deriving DecidableEq
def BSet.zero:BSet:=⟨0,0,0,0,by decide⟩
def setA(s:BSet):Array Value:= #[.int .u64 (s.a:Nat),.int .u64 (s.b:Nat),.int .u64 (s.c:Nat),.int .u64 (s.d:Nat)]
def setV(s:BSet):Value:= .agg (setA s)
def BSet.ok(s:BSet):Prop:=s.a<18446744073709551616/\s.b<18446744073709551616/\s.c<18446744073709551616/\s.d<18446744073709551616
theorem BSet.isOk(s:BSet):s.ok:=s.lt
def BSet.word(s:BSet)(i:Nat):Nat:=if i=0 then s.a else if i=1 then s.b else if i=2 then s.c else s.d
theorem BSet.word_lt{s:BSet}(h:s.ok)(i:Nat):s.word i<18446744073709551616:=by
  unfold BSet.word;obtain ⟨h1,h2,h3,h4⟩:=h
  repeat (first|split|assumption)
theorem t9_(s:BSet){i:Nat}(h:i<4):(setA s)[i]? =some (.int .u64 (s.word i:Nat)):=by
  match i,h with
  |0,_=>rfl
  |1,_=>rfl
  |2,_=>rfl
  |3,_=>rfl
theorem OpVal.cd_{P:Program}{n:Nat}{e:Env}{σ:aj}{H:List Res}{o:Oper}{x:Operand}{T b E i j:Nat}{s:BSet}(ho:o.op= .load T x)(hA:aggOf P T=some false)(hx:ev e x=loc b (0+i * 1))(hi:H[j]? =some (κ b (setA s) E))(hk:i<4):OpVal P n o e σ H (.int .u64 (s.word i:Nat)):=by
  refine OpVal.aZ ho hA hx hi ?_
  rw [show 0+i * 1=i from by omega];exact t9_ s hk
theorem BSet.eq_iff(s t:BSet):s=t↔((s.a:Nat):Int)=(t.a:Nat)/\((s.b:Nat):Int)=(t.b:Nat)/\((s.c:Nat):Int)=(t.c:Nat)/\((s.d:Nat):Int)=(t.d:Nat):=by
  cases s;cases t
  simp only [BSet.mk.injEq]
  omega
def BSet.has(s:BSet)(b:Nat):Bool:=decide (s.word (b / 64) / 2 ^ (b % 64) % 2=1)
def BSet.ND(s:BSet)(i w:Nat):BSet:=
  if i=0 then ⟨w % 18446744073709551616,s.b,s.c,s.d,by have:=s.lt;omega⟩ else if i=1 then ⟨s.a,w % 18446744073709551616,s.c,s.d,by have:=s.lt;omega⟩
  else if i=2 then ⟨s.a,s.b,w % 18446744073709551616,s.d,by have:=s.lt;omega⟩ else ⟨s.a,s.b,s.c,w % 18446744073709551616,by have:=s.lt;omega⟩
theorem y7_(s:BSet){i:Nat}(h:i<4)(w:Nat)(hw:w<18446744073709551616):(oP (setA s).toList i [.int .u64 (w:Nat)]).toArray=setA (s.ND i w):=by
  have e:w % 18446744073709551616=w:=Nat.mod_eq_of_lt hw
  rw [<-e]
  have e2:w % 18446744073709551616 % 18446744073709551616=w % 18446744073709551616:=by omega
  have e3:s.ND i (w % 18446744073709551616)=s.ND i w:=by simp only [BSet.ND,e2]
  rw [e3]
  match i,h with
  |0,_=>rfl
  |1,_=>rfl
  |2,_=>rfl
  |3,_=>rfl
theorem BSet.c5_(s:BSet){i:Nat}(h:i<4)(w j:Nat)(hw:w<18446744073709551616)(hj:j<4):(s.ND i w).word j=if j=i then w else s.word j:=by
  have e:w % 18446744073709551616=w:=Nat.mod_eq_of_lt hw
  rw [<-e]
  have e2:w % 18446744073709551616 % 18446744073709551616=w % 18446744073709551616:=by omega
  have e3:s.ND i (w % 18446744073709551616)=s.ND i w:=by simp only [BSet.ND,e2]
  rw [e3]
  match i,h,j,hj with
  |0,_,0,_|0,_,1,_|0,_,2,_|0,_,3,_|1,_,0,_|1,_,1,_|1,_,2,_|1,_,3,_|2,_,0,_|2,_,1,_|2,_,2,_|2,_,3,_|3,_,0,_|3,_,1,_|3,_,2,_|3,_,3,_=>rfl
theorem BSet.cc_{s t:BSet}(h: ∀i,i<4->s.word i=t.word i):s=t:=by
  have h0:=h 0 (by omega)
  have h1:=h 1 (by omega)
  have h2:=h 2 (by omega)
  have h3:=h 3 (by omega)
  cases s;cases t
  simp only [BSet.word]at h0 h1 h2 h3
  simp_all
theorem BSet.ok_of{s:BSet}(h: ∀i,i<4->s.word i<18446744073709551616):s.ok:=⟨h 0 (by omega),h 1 (by omega),h 2 (by omega),h 3 (by omega)⟩
theorem OpOk.cn_{X:Ctx}{e:Env}{σ:aj}{F:List Res}{o:Oper}{x y:Operand}{K:Env->aj->List Res->Prop}{T b E i w:Nat}{s:BSet}(ho:o.op= .store T x y)(hs:szOf X.P T=some 1)(hd:o.dst=none)(hx:ev e x=loc b (0+i * 1))(hv:ev e y= .int .u64 (w:Nat))(hi:i<4)(hw:w<18446744073709551616)
    (kk:K e σ (κ b (setA (s.ND i w)) E::F)):OpOk X o e σ (κ b (setA s) E::F) K:=by
  have hx':ev e x=loc b i:=by rw [hx];congr 1;omega
  refine OpOk.store (v:= .int .u64 (w:Nat)) ho hs hd hx' hv rfl (by intro u hu;simp [Value.cells]at hu;subst hu;rfl) ?_ (y7_ s hi w hw) kk
  match i,hi with
  |0,_|1,_|2,_|3,_=>rfl
def jk(f:Nat->Bool)(i:Nat):Nat->Nat
  |0=>0
  |k+1=>jk f i k+if f (64 * i+k) then 2 ^ k else 0
theorem WO(f:Nat->Bool)(i:Nat): ∀k,jk f i k<2 ^ k
  |0=>by simp [jk]
  |k+1=>by
    have:=WO f i k
    have h2:2 ^ (k+1)=2 ^ k+2 ^ k:=by rw [Nat.pow_succ];omega
    unfold jk
    split<;>omega
theorem io_ (f : Nat -> Bool) (i : Nat) : ∀ k j, (jk f i k).testBit j = (decide (j < k) && f (64 * i + j))
  |0,j=>by simp [jk]
  | k + 1, j => by
    have hlt:=WO f i k
    have ih:=io_ f i k
    unfold jk
    by_cases hf:f (64 * i+k)=true
    · rw [if_pos hf,Nat.add_comm]
      rcases Nat.lt_trichotomy j k with h|h|h
      · rw [Nat.testBit_two_pow_add_gt h,ih j]
        have:j<k+1:=by omega
        simp [h,this]
      · subst h
        rw [Nat.testBit_two_pow_add_eq,ih j]
        simp [hf]
      have h2:2 ^ k+jk f i k<2 ^ j:=Nat.lt_of_lt_of_le (show 2 ^ k+jk f i k<2 ^ (k+1)from by rw [Nat.pow_succ];omega) (Nat.pow_le_pow_right (by omega) h)
      rw [Nat.testBit_lt_two_pow h2]
      have: ¬ j<k+1:=by omega
      simp [this]
    rw [if_neg hf,Nat.add_zero,ih j]
    by_cases h:j<k
    · have:j<k+1:=by omega
      simp [h,this]
    by_cases h2:j=k
    · subst h2;simp [hf]
    have: ¬ j<k+1:=by omega
    simp [h,this]
def BSet.make(f:Nat->Bool):BSet:=⟨jk f 0 64,jk f 1 64,jk f 2 64,jk f 3 64,WO f 0 64,WO f 1 64,WO f 2 64,WO f 3 64⟩
theorem BSet.bd_(f:Nat->Bool){i:Nat}(h:i<4):(BSet.make f).word i=jk f i 64:=by
  match i,h with
  |0,_|1,_|2,_|3,_=>rfl
theorem BSet.dx_(f:Nat->Bool):(BSet.make f).ok:=BSet.ok_of λi hi=>by rw [BSet.bd_ f hi];exact WO f i 64
theorem BSet.cr_:BSet.make (λ_=>false)=BSet.zero:=by
  refine BSet.cc_ λi hi=> ?_
  rw [BSet.bd_ _ hi]
  have:jk (λ_=>false) i 64=0:=Nat.eq_of_testBit_eq λj=>by rw [io_];simp
  rw [this]
  match i,hi with
  |0,_|1,_|2,_|3,_=>rfl
theorem BSet.dp_(f:Nat->Bool){b:Nat}(hb:b<256):(BSet.make f).ND (b / 64) ((BSet.make f).word (b / 64) ||| 1 * 2 ^ (b % 64))=BSet.make (λi=>f i || decide (i=b)):=by
  refine BSet.cc_ λi hi=> ?_
  rw [BSet.c5_ _ (by omega) _ _ (Nat.or_lt_two_pow (n:=64) (BSet.word_lt (BSet.isOk _) _) (by rw [Nat.one_mul];exact Nat.pow_lt_pow_right (by omega) (by omega))) hi,BSet.bd_ _ hi,BSet.bd_ _ hi,BSet.bd_ _ (by omega)]
  split
  · subst_vars
    refine Nat.eq_of_testBit_eq λj=> ?_
    rw [Nat.testBit_or,io_,io_,Nat.one_mul,Nat.testBit_two_pow]
    by_cases hj:j<64
    · have:decide (b % 64=j)=decide (64 * (b / 64)+j=b):=by rw [decide_eq_decide];omega
      simp [hj,this]
    have: ¬ b % 64=j:=by omega
    simp [hj,this]
  refine Nat.eq_of_testBit_eq λj=> ?_
  rw [io_,io_]
  by_cases hj:j<64
  · have: ¬ 64 * i+j=b:=by omega
    simp [this]
  simp [hj]
def BSet.ofL(l:List UInt8):BSet:=BSet.make λi=>l.any λu=>decide (i=u.toNat)
structure Arrow where
  frm:Int
  to:Int
  set:BSet
  deriving DecidableEq
def Arrow.zero:Arrow:=⟨0,0,BSet.zero⟩
def encE(x:Arrow):List Value:=[.int .i64 x.frm,.int .i64 x.to,.int .u64 (x.set.a:Nat),.int .u64 (x.set.b:Nat),.int .u64 (x.set.c:Nat),.int .u64 (x.set.d:Nat)]
theorem y5_(x:Arrow):(encE x).length=6:=rfl
structure Nfa where
  states:Int
  starts:List Int
  ends:List Int
  edges:List Arrow
  deriving DecidableEq
structure NfaP where
  a1:Option Addr
  c1:Nat
  a2:Option Addr
  c2:Nat
  a3:Option Addr
  c3:Nat
structure RNfa (σ:aj) (n:Nfa) (p:NfaP):Prop where
  s:RS σ 1 aG (.slice p.a1 n.starts.length p.c1) n.starts
  e:RS σ 1 aG (.slice p.a2 n.ends.length p.c2) n.ends
  d:RS σ 6 encE (.slice p.a3 n.edges.length p.c3) n.edges
  ok: ∀x∈n.edges,x.set.ok
def Nfa.zero:Nfa:=⟨0,[],[],[]⟩
def NfaP.zero:NfaP:=⟨none,0,none,0,none,0⟩
theorem RNfa.zero(σ:aj):RNfa σ Nfa.zero NfaP.zero:=⟨⟨RV.nil σ 1,bn⟩,⟨RV.nil σ 1,bn⟩,⟨RV.nil σ 6,y5_⟩,by simp [Nfa.zero]⟩
theorem Agr.cj_{M M':List Nat}{j e e0:Env}(hs:(M'.all λt=>M.contains t)=true)(h:Agr M e e0):Agr M (Go.E.mask M' j e) e0:=
  Agr.trans (Agr.weak Agr.mask hs) h
section
variable {X:Ctx} {ops:Array Oper} {Q:QP} {e:Env} {σ σr:aj} {H Hr:List Res} {late:List Nat} {fuel:Nat} {listed:Array Bool}
def TA.All(X:Ctx)(ops:Array Oper)(Q:QP)(σr:aj)(Hr:List Res)(late:List Nat)(fuel:Nat)(listed:Array Bool)(e:Env)(σ:aj)(H:List Res):List Nat->Prop
  |[]=>True
  |i::r=>(∃oi:Oper,ops[i]? =some oi/\oi.guard=none/\OpOk X oi e σ H λe' σ' H'=>(∀w,jR σ' H' w->jR σr Hr w)/\TA X ops Q σr Hr late fuel (listed.setIfInBounds i true) e' σ' H')/\TA.All X ops Q σr Hr late fuel listed e σ H r
theorem TA.All.at{l:List Nat}(h:TA.All X ops Q σr Hr late fuel listed e σ H l){i:Nat}(hi:i∈l): ∃oi:Oper,ops[i]? =some oi/\oi.guard=none/\OpOk X oi e σ H λe' σ' H'=>(∀w,jR σ' H' w->jR σr Hr w)/\TA X ops Q σr Hr late fuel (listed.setIfInBounds i true) e' σ' H':=by
  induction l with
  |nil=>cases hi
  |cons j r ih=>
    cases hi with
    |head=>exact h.1
    |tail _ hi=>exact ih h.2 hi
theorem TA.actN(l:List Nat)(hr:Region.ready .any ops listed=l)(h:TA.All X ops Q σr Hr late fuel listed e σ H l)(hl:l≠[]:=by simp):TA X ops Q σr Hr late (fuel+1) listed e σ H:=λhnd w a hw hS hcl ha=>by
  refine ⟨λh0=>absurd (hr.symm.trans h0) hl,λq hq=> ?_⟩
  have hst:=hcl.step hq
  rw [hr]at hq
  obtain ⟨oi,hi,hg,ho⟩:=TA.All.at h hq
  exact p3_ hi hg (ho.at hw ha λe' σ' H' a' w' ⟨hs,hk⟩ hw' ha'=>⟨λ_ _=>hs w' hw'.sees,hk hnd w' a' hw' (hs w' hw'.sees) hst ha'⟩)
end
theorem OpOk.front{X:Ctx}{e:Env}{σ:aj}{H F:List Res}{o:Oper}{K:Env->aj->List Res->Prop}(i:Nat){r:Res}(hi:H[i]? =some r)(hF:H.eraseIdx i=F)(h:OpOk X o e σ (r::F) K):OpOk X o e σ H K:=
  λu0 C0 τ0 w a hw ha=>h u0 C0 τ0 w a (hw.perm (Ny hi hF)) ha
section
variable {P:Program} {n:Nat} {e:Env} {σ:aj} {H:List Res} {o:Oper} {x y z:Operand}
end
theorem v0_(l:List UInt8):l.flatMap kE=l.map λb=>Value.int .u8 (b.toNat:Nat):=by
  induction l with
  |nil=>rfl
  |cons b l ih=>rw [List.flatMap_cons,ih];rfl
end Go.E
end

noncomputable section
namespace Go.Proofs.YtchebnpdnfhenaaGreatDoor
open Go Go.E
theorem and_one(a:Nat):a &&& 1=a % 2:=Nat.and_one_is_mod a
theorem has_con(σ:aj)(s:BSet)(b:Nat)(hs:s.ok)(hb:b<256):Con Tryz.prog 102 #[setV s,.int .u8 (b:Nat)] σ [] (jQ (.bool (s.has b)) σ):=by
  have hw:s.word (b / 64)<18446744073709551616:=BSet.word_lt hs _
  have hw2:s.word (b / 64) / 2 ^ (b % 64)<18446744073709551616:=Nat.lt_of_le_of_lt (Nat.div_le_self _ _) hw
  refine Con.mk (n:=14) Tryz.func102 rfl rfl rfl (λw0=> ?_)
  refine ζ ?_
  refine η ?_
  refine ν rfl (OpOk.boxA rfl rfl rfl rfl (λb1=> ?_))
  refine TL.v rfl (OpVal.moveB (.inr rfl) rfl) rfl rfl ?_
  refine TL.nil ?_
  refine S.n ?_
  refine ζ ?_
  refine η ?_
  refine TL.v rfl (OpVal.dw (.inl rfl) rfl) rfl rfl ?_
  refine TL.v rfl (OpVal.quoN (b:=64) rfl rfl rfl (by omega) (by simp only [kmax];omega)) rfl rfl ?_
  refine TL.v rfl (OpVal.bq_ rfl Tryz.underlying64 Na rfl rfl (by omega)) rfl rfl ?_
  refine TL.v rfl (OpVal.cd_ rfl MH rfl (j:=0) rfl (by omega)) rfl rfl ?_
  refine TL.v rfl (OpVal.dw (.inl rfl) rfl) rfl rfl ?_
  refine TL.v rfl (OpVal.remN (b:=64) rfl rfl rfl (by omega)) rfl rfl ?_
  refine TL.v rfl (OpVal.shrN rfl rfl rfl (by show _<64;omega)) rfl rfl ?_
  refine TL.v rfl (OpVal.andN (b:=1) rfl rfl rfl (by omega) (by omega)) rfl rfl ?_
  refine TL.v rfl (OpVal.eqlN (b:=1) rfl rfl rfl) rfl rfl ?_
  refine TL.v rfl (OpVal.moveB (.inr rfl) rfl) rfl rfl ?_
  refine TL.nil ?_
  refine S.n ?_
  refine TC.ret ?_
  -- leaf 1 ret [] H=['q2']
  refine ret1P rfl (congrArg Value.bool ?_)
  unfold BSet.has;rw [decide_eq_decide,and_one]
def errB(b:Bool):Int:=if b then 0 else 1
theorem qk_{α:Type}(l:List α){k:Nat}(hk:k<l.length)(d:α):l.take (k+1)=l.take k++[nth l k d]:=by
  rw [List.take_add_one,getD_some l hk d];rfl
def M_(l:T_1)(k:Nat):Nat->Bool:=λi=>(l.take k).any λu=>decide (i=u.toNat)
theorem x6_(l:T_1):BSet.make (M_ l 0)=BSet.zero:=by
  rw [show M_ l 0=λ_=>false from by funext i;simp [M_]];exact BSet.cr_
theorem we_{l:T_1}{k:Nat}(h:k<l.length):(λi=>M_ l k i || decide (i=(nth l k 0).toNat))=M_ l (k+1):=by
  funext i;simp [M_,qk_ l h 0]
theorem zy_(l:T_1):BSet.make (M_ l l.length)=BSet.ofL l:=by
  unfold M_ BSet.ofL;rw [List.take_length]
theorem u7_{a:Nat}(h:a<64):2 ^ a<18446744073709551616:=Nat.lt_of_le_of_lt (Nat.pow_le_pow_right (by omega) (show a<=63 by omega)) (by decide)
theorem wu_(σ:aj)(a:Option Addr)(c:Nat)(l:T_1)(hsz:l.length<=1000000000000):
    Con Tryz.prog 51 #[.slice a l.length c] σ [φ 5 1 kE (.slice a l.length c) l] (jQ (setV (BSet.ofL l)) σ):=by
  refine Con.mk (n:=23) Tryz.func51 rfl rfl rfl (λw0=> ?_)
  refine ζ ?_
  refine η ?_
  refine ν rfl (OpOk.alloc rfl VA rfl rfl (λb1=> ?_))
  refine TL.nil ?_
  refine S.n ?_
  refine ζ ?_
  refine η ?_
  refine ν rfl (OpOk.alloc rfl VA rfl rfl (λb3=> ?_))
  refine TL.nil ?_
  refine S.n ?_
  refine ζ ?_
  refine ζ ?_
  refine η ?_
  refine TL.v rfl (OpVal.gu (.inl rfl) rfl) rfl rfl ?_
  refine TL.v rfl (OpVal.lenC rfl Tryz.underlying60 rfl) rfl rfl ?_
  refine TL.v rfl (OpVal.dw (.inl rfl) rfl) rfl rfl ?_
  refine TL.nil ?_
  refine S.n ?_
  refine υ ?_
  refine TC.loopF (α:=Nat) [5,8,9,10,11,12,13,14,15,16,17,18,19,20,21] (λk=>[(8,.int .i64 (k:Nat))]) (λk=>[κ b3 (setA (BSet.make (M_ l k))) 64,κ b1 (setA BSet.zero) 64,φ 5 1 kE (.slice a l.length c) l]) (λ_=>_) (λk=>k<=l.length) (λk=>l.length - k) (0) (by first|exact True.intro|omega|(dsimp only;omega)|(simp;done)|(simp;omega)) (by repeat (first|exact trivial|refine ⟨rfl,?_⟩)) (by rw [x6_];rfl) (by rfl) (λg1 j1 hg1=> ?_)
  have hu:(nth l g1 (0:UInt8)).toNat<256:=UInt8.toNat_lt _
  have hp:=u7_ (Nat.mod_lt (nth l g1 (0:UInt8)).toNat (show 0<64 by omega))
  have hw:=BSet.word_lt (BSet.dx_ (M_ l g1)) ((nth l g1 (0:UInt8)).toNat / 64)
  refine ζ ?_
  refine η ?_
  refine TL.v rfl (OpVal.lss rfl rfl rfl) rfl rfl ?_
  refine TL.nil ?_
  refine S.n ?_
  refine ζ ?_
  refine TC.condD rfl (λh5=> ?_) (λh5=> ?_)
  · try simp only [jV,decide_eq_false_iff_not,Bool.not_eq_true',Bool.not_eq_false',Bool.not_eq_eq_eq_not,Bool.not_true,Bool.not_false,Int.not_lt,Int.not_le,Decidable.not_not]at h5
    refine ι ?_
    refine S.n ?_
    refine ζ ?_
    refine υ ?_
    refine ζ ?_
    refine η ?_
    refine TL.isSl (i:=2) rfl (λhs6 _ _=> ?_)
    refine TL.v rfl (OpVal.bU rfl Tryz.underlying60 Ju rfl rfl (by first|assumption|exact (RS.rv (by assumption)).sl) (by omega)) rfl rfl ?_
    refine TL.v rfl (OpVal.og (0:UInt8) rfl ag5 rfl (q:=2) rfl UL (by omega) rfl) rfl rfl ?_
    refine TL.v rfl (OpVal.dw (.inr rfl) rfl) rfl rfl ?_
    refine TL.nil ?_
    refine S.n ?_
    refine η ?_
    refine TL.v rfl (OpVal.dw (.inl rfl) rfl) rfl rfl ?_
    refine TL.v rfl (OpVal.quoN (b:=64) rfl rfl rfl (by omega) (by simp only [kmax];omega)) rfl rfl ?_
    refine TL.v rfl (OpVal.bq_ rfl Tryz.underlying64 Na rfl rfl (by omega)) rfl rfl ?_
    refine TL.v rfl (OpVal.cd_ rfl MH rfl (j:=0) rfl (by omega)) rfl rfl ?_
    refine TL.v rfl (OpVal.dw (.inl rfl) rfl) rfl rfl ?_
    refine TL.v rfl (OpVal.remN (b:=64) rfl rfl rfl (by omega)) rfl rfl ?_
    refine TL.v rfl (OpVal.shlN (a:=1) rfl rfl rfl (by show _<64;omega) (by simp only [kmax];omega)) rfl rfl ?_
    refine TL.v rfl (OpVal.orN rfl rfl rfl (by omega) (by omega)) rfl rfl ?_
    refine TL.v rfl (OpVal.bq_ rfl Tryz.underlying64 Na rfl rfl (by omega)) rfl rfl ?_
    refine ν rfl (OpOk.cn_ rfl Na rfl rfl rfl (by omega) (Nat.or_lt_two_pow (n:=64) hw (by omega)) ?_)
    refine TL.nil ?_
    refine B.n ?_
    refine S.n ?_
    refine η ?_
    refine TL.v rfl (OpVal.succ rfl rfl rfl (by omega)) rfl rfl ?_
    refine TL.v rfl (OpVal.dw (.inl rfl) rfl) rfl rfl ?_
    refine TL.nil ?_
    refine S.n ?_
    -- leaf 1 next [h5: True] H=['q4', 'q2', 'r0']
    refine ⟨by repeat (first|exact Agr.mask|refine Agr.upd rfl ?_ |refine Agr.cj_ rfl ?_),g1+1,?_,?_,?_,?_,?_⟩
    · omega
    · first|exact True.intro|omega|(dsimp only;omega)|(simp;done)|(simp;omega)
    · repeat (first|exact trivial|refine ⟨rfl,?_⟩)
    · rw [BSet.dp_ _ hu,we_ (by omega)]
    rfl
  try simp only [jV,decide_eq_false_iff_not,Bool.not_eq_true',Bool.not_eq_false',Bool.not_eq_eq_eq_not,Bool.not_true,Bool.not_false,Int.not_lt,Int.not_le,Decidable.not_not]at h5
  refine TC.exit ?_
  refine S.x ?_
  refine S.x ?_
  refine Δ ?_
  refine S.n ?_
  refine ζ ?_
  refine η ?_
  refine TL.v rfl (OpVal.kG rfl MG Hw rfl (i:=0) rfl rfl) rfl rfl ?_
  refine θ 1 rfl rfl ?_
  refine ν rfl (OpOk.storeAll rfl Hw rfl rfl rfl rfl rfl rfl ?_)
  refine TL.nil ?_
  refine S.n ?_
  refine TC.ret ?_
  -- leaf 2 ret [h5: False] H=['q2', 'q4', 'r0']
  obtain rfl:g1=l.length:=by omega
  rw [zy_]
  exact zn_ 0 rfl MG Hw rfl rfl rfl rfl
end Go.Proofs.YtchebnpdnfhenaaGreatDoor
end

noncomputable section
namespace Go.E
open Go
def grd{α:Type}(p:Prop)[Decidable p](t:Option α):Option α:=if p then t else none
theorem H7{α:Type}{p:Prop}[Decidable p]{t:Option α}{r:α}(h:grd p t=some r):p:=by
  unfold grd at h;split at h
  · assumption
  cases h
theorem Hz{α:Type}{p:Prop}[Decidable p]{t:Option α}{r:α}(h:grd p t=some r):t=some r:=by
  unfold grd at h;split at h
  · exact h
  cases h
theorem aF{α:Type}{p:Prop}[Decidable p]{t:Option α}(hp:p):grd p t=t:=if_pos hp
def bnd{α β:Type}(s:Option α)(f:α->Option β):Option β:=s.bind f
theorem dM{α β:Type}{s:Option α}{f:α->Option β}{r:β}(h:bnd s f=some r): ∃x,s=some x/\f x=some r:=by
  cases s with
  |none=>cases h
  |some x=>exact ⟨x,rfl,h⟩
theorem yR{α β:Type}{s:Option α}{f:α->Option β}{x:α}(h:s=some x):bnd s f=f x:=by rw [h];rfl
def aN{α:Type}(b:Bool)(t e:Option α):Option α:=match b with|true=>t|false=>e
theorem gZ{α:Type}{b:Bool}{t e:Option α}{r:Option α}(hb:b=true)(h:aN b t e=r):t=r:=by subst hb;exact h
theorem gY{α:Type}{b:Bool}{t e:Option α}{r:Option α}(hb:b=false)(h:aN b t e=r):e=r:=by subst hb;exact h
@[simp]theorem iteO_true{α:Type}(t e:Option α):aN true t e=t:=rfl
@[simp]theorem iteO_false{α:Type}(t e:Option α):aN false t e=e:=rfl
section bC
variable {S R:Type}
def BD (step : S -> Option (S ⊕ R)) : Nat -> S -> Option R
  |0,_=>none
  |n+1,s=>match step s with
    |none=>none
    |some (.inl s')=>BD step n s'
    |some (.inr r)=>some r
theorem pn_{step:S->Option (S⊕R)}: ∀{n:Nat} {s:S} {r:R},BD step n s=some r->BD step (n+1) s=some r
  |0,_,_,h=>by cases h
  | n + 1, s, r, h => by
    rw [BD]at h ⊢
    cases hs:step s with
    |none=>rw [hs]at h;cases h
    |some z=>
      rw [hs]at h
      cases z with
      |inl s'=>exact pn_ (n:=n) h
      |inr r'=>exact h
theorem t8_{step:S->Option (S⊕R)}{n m:Nat}{s:S}{r:R}(h:BD step n s=some r)(hm:n<=m):BD step m s=some r:=by
  induction hm with
  |refl=>exact h
  |step _ ih=>exact pn_ ih
open Classical in
def bC(step:S->Option (S⊕R))(s:S):Option R:=if h: ∃n r,BD step n s=some r then some h.choose_spec.choose else none
theorem jq_{step:S->Option (S⊕R)}{s:S}{r:R}:bC step s=some r↔ ∃n,BD step n s=some r:=by
  unfold bC
  constructor
  · intro h
    split at h
    · rename_i hx
      have:=hx.choose_spec.choose_spec
      cases h
      exact ⟨_,this⟩
    cases h
  rintro ⟨n,hn⟩
  have hx: ∃n r,BD step n s=some r:=⟨n,r,hn⟩
  rw [dif_pos hx]
  have h3:=hx.choose_spec.choose_spec
  rcases Nat.le_total n hx.choose with h|h
  · exact h3.symm.trans (t8_ hn h)
  exact (t8_ h3 h).symm.trans hn
open Classical in
def f_(step:S->Option (S⊕R))(s:S):Nat:=if h: ∃n,(BD step n s).isSome=true then (m2_ h).choose else 0
theorem oa_{step:S->Option (S⊕R)}{s:S}{r:R}(h:bC step s=some r):BD step (f_ step s) s=some r/\ ∀n r',BD step n s=some r'->f_ step s<=n:=by
  obtain ⟨n,hn⟩:=jq_.1 h
  have hx: ∃n,(BD step n s).isSome=true:=⟨n,by rw [hn];rfl⟩
  unfold f_
  rw [dif_pos hx]
  have hc:=(m2_ hx).choose_spec
  refine ⟨?_,λm r' hm=>hc.2 m (by rw [hm];rfl)⟩
  obtain ⟨r',hr'⟩:=Option.isSome_iff_exists.1 hc.1
  rw [hr',<-h]
  exact (jq_.2 ⟨_,hr'⟩).symm
structure Rd (step:S->Option (S⊕R)) (r:R) (m:Nat) (z:S⊕R):Prop where
  next: ∀s',z= .inl s'->bC step s'=some r/\f_ step s'<m
  done: ∀r',z= .inr r'->r'=r
theorem gJ {step : S -> Option (S ⊕ R)} {s : S} {r : R} (h : bC step s = some r) : ∃ z, step s = some z /\ Rd step r (f_ step s) z := by
  obtain ⟨h1,h2⟩:=oa_ h
  cases hn:f_ step s with
  |zero=>rw [hn]at h1;cases h1
  |succ n=>
    rw [hn,BD]at h1
    cases hs:step s with
    |none=>rw [hs]at h1;cases h1
    |some z=>
      rw [hs]at h1
      cases z with
      |inl s'=>
        have h1:BD step n s'=some r:=h1
        have hi:bC step s'=some r:=jq_.2 ⟨n,h1⟩
        refine ⟨_,rfl,⟨λs'' he=> ?_,λr' he=>(by cases he)⟩⟩
        cases he
        have:=(oa_ hi).2 n r h1
        exact ⟨hi,by omega⟩
      |inr r'=>
        have h1:some r'=some r:=h1
        cases h1
        exact ⟨_,rfl,⟨λs'' he=>(by cases he),λr'' he=>(by cases he;rfl)⟩⟩
theorem II{step:S->Option (S⊕R)}{s s':S}{r:R}(hs:step s=some (.inl s'))(h:bC step s'=some r):bC step s=some r:=by
  obtain ⟨n,hn⟩:=jq_.1 h
  exact jq_.2 ⟨n+1,by rw [BD,hs];exact hn⟩
theorem zD{step:S->Option (S⊕R)}{s:S}{r:R}(hs:step s=some (.inr r)):bC step s=some r:=
  jq_.2 ⟨1,by rw [BD,hs]⟩
theorem tw_ {step : S -> Option (S ⊕ R)} (I : S -> Prop) (P : R -> Prop) (μ : S -> Nat)
    (hs: ∀s,I s->(∃s',step s=some (.inl s')/\I s'/\μ s'<μ s)\/ ∃r,step s=some (.inr r)/\P r) (s:S) (h0:I s): ∃r,bC step s=some r/\P r:=by
  have key: ∀n s,μ s=n->I s-> ∃r,bC step s=some r/\P r:=by
    intro n
    induction n using Nat.strongRecOn with
    | _ n ih =>
      intro s hn hI
      rcases hs s hI with ⟨s',h1,h2,h3⟩|⟨r,h1,h2⟩
      · obtain ⟨r,h4,h5⟩:=ih (μ s') (hn▸h3) s' rfl h2
        exact ⟨r,II h1 h4,h5⟩
      exact ⟨r,zD h1,h2⟩
  exact key _ s rfl h0
theorem yw_ {step : S -> Option (S ⊕ R)} {r : R} (f : Nat -> S) (n : Nat) (hs : ∀ k, k < n -> step (f k) = some (.inl (f (k + 1)))) (hd : step (f n) = some (.inr r)) : ∀ k, k <= n -> bC step (f k) = some r := by
  intro k hk
  obtain ⟨m,rfl⟩: ∃m,k=n - m:=⟨n - k,by omega⟩
  induction m with
  |zero=>exact zD hd
  |succ m ih=>
    by_cases h:n - (m+1)<n
    · by_cases hm:m<n
      · have:=hs (n - (m+1)) h
        rw [show n - (m+1)+1=n - m from by omega]at this
        exact II this (ih (by omega))
      have:n - (m+1)=n - m:=by omega
      rw [this];exact ih (by omega)
    have:n - (m+1)=n - m:=by omega
    rw [this];exact ih (by omega)
def fin(t:Option R):Option (S⊕R):=match t with|none=>none|some r=>some (.inr r)
def nxt(s:S):Option (S⊕R):=some (.inl s)
@[simp]theorem fin_some(r:R):(fin (some r):Option (S⊕R))=some (.inr r):=rfl
theorem dG{step:S->Option (S⊕R)}{r:R}{m:Nat}{z:S⊕R}{t:Option R}(hR:Rd step r m z)(h:fin t=some z):t=some r:=by
  cases t with
  |none=>cases h
  |some r'=>simp only [fin]at h;cases h;rw [hR.done r' rfl]
theorem dO{step:S->Option (S⊕R)}{r:R}{m:Nat}{z:S⊕R}{s:S}(hR:Rd step r m z)(h:nxt s=some z):bC step s=some r/\f_ step s<m:=by
  simp only [nxt]at h;cases h;exact hR.next s rfl
end bC
def Sub(F H:List Res):Prop:= ∃P:List Res,P.Perm H/\F.Sublist P
theorem Sub.pre{F H:List Res}(k:Nat)(h:H.take k=F):Sub F H:=⟨H,List.Perm.refl _,h▸List.take_sublist k H⟩
theorem Sub.front{F H G:List Res}{r:Res}(i:Nat)(hi:H[i]? =some r)(hG:H.eraseIdx i=G)(h:Sub F (r::G)):Sub F H:=by
  obtain ⟨P,h1,h2⟩:=h
  exact ⟨P,h1.trans (Ny hi hG),h2⟩
theorem Reach.sG{w0:World}{C:List Nat}{σ0 σ:aj}{w:World}{F H:List Res}(h:Reach w0 C σ0 σ w H)(hs:Sub F H):Reach w0 C σ0 σ w F:=by
  obtain ⟨P,h1,h2⟩:=hs
  exact (h.perm h1).sub h2
section rules
variable {X:Ctx} {ops:Array Oper} {Q:QP} {e:Env} {σ:aj} {H F:List Res} {c c1 c2:Code} {l:List Oper}
theorem TC.sG(hs:Sub F H)(h:TC X Q c e σ F):TC X Q c e σ H:=λw a hw ha=>h w a (hw.by λ_ k=>k.sG hs) ha
theorem Reach.back{w0:World}{C:List Nat}{σ0 σ':aj}{w:World}(h:Reach w0 C σ0 σ' w H):Reach w0 C σ0 σ0 w H:=
  ⟨h.os,h.tape,h.output,h.size,h.frame,aj.le.refl _,λb o hb=>h.fit b o (h.le b o hb),λb o hb=> .inl hb,h.holds,h.own,h.nodup,(λr hr b hb=>by
    cases hs:σ0 b with
    |none=>rfl
    |some o=>have h1:=h.apart r hr b hb;rw [h.le b o hs]at h1;cases h1),h.drawn⟩
theorem TC.back(h:TC X Q c e X.σ0 H):TC X Q c e σ H:=λw a hw ha=>h w a (by
  have hz: ∀D,σ D=none->X.σ0 D=none:=λD g4=>by
    cases hs:X.σ0 D with
    |none=>rfl
    |some o=>have:=hw.le D o hs;rw [g4]at this;cases this
  refine ⟨hw.toReach.back,λho=> ?_,hw.marks.is,λl hl=> ?_⟩
  · obtain ⟨Ds,h1,h2,h3⟩:=hw.marks.ex ho
    exact ⟨Ds,h1,h2,λD hD=>⟨(h3 D hD).1,(h3 D hD).2.1,(h3 D hD).2.2.1,hz D (h3 D hD).2.2.2⟩⟩
  exact ⟨(hw.marks.rc l hl).1,(hw.marks.rc l hl).2.1,(hw.marks.rc l hl).2.2.1,hz l (hw.marks.rc l hl).2.2.2⟩) ha
theorem TC.c4_(h:TC X (λex e σ H=> ∃F,Sub F H/\Q ex e σ F) c e σ H):TC X Q c e σ H:=λw a hw ha=>
  Go.wpIn_mono (h w a hw ha) λex a' w' ⟨e',σ',H',h1,h2,F,h3,h4⟩=>⟨e',σ',F,h1,h2.by λ_ k=>k.sG h3,h4⟩
def CutP{α:Type}(M:List Nat)(e:Env)(S:α->List (Nat×Value))(Hf:α->List Res)(σf:α->aj)(I:α->Prop):Env->aj->List Res->Prop:=
  λe' σ' H'=>Agr M e' e/\ ∃a,I a/\Has e' (S a)/\Sub (Hf a) H'/\σ'=σf a
theorem TC.subQ{J J':Env->aj->List Res->Prop}(hJ: ∀e σ H,J e σ H-> ∃F,Sub F H/\J' e σ F)(h:TC X (seqQ J Q) c e σ H):TC X (seqQ J' Q) c e σ H:=λw a hw ha=>
  Go.wpIn_mono (h w a hw ha) λex a' w' ⟨e',σ',H',h1,h2,h3⟩=>by
    cases ex
    case normal=>
      obtain ⟨F,hF,hj⟩:=hJ _ _ _ h3
      exact ⟨e',σ',F,h1,h2.by λ_ k=>k.sG hF,hj⟩
    all_goals exact ⟨e',σ',H',h1,h2,h3⟩
theorem TC.cutG{α:Type}(M:List Nat)(S:α->List (Nat×Value))(Hf:α->List Res)(σf:α->aj)(I:α->Prop)
    (h:TC X (seqQ (CutP M e S Hf σf I) Q) c1 e σ H) (k: ∀(a:α) (j:Env),I a->TC X Q c2 (upds (mask M j e) (S a)) (σf a) (Hf a)):TC X Q (.seq c1 c2) e σ H:=by
  refine TC.cut (λe' σ' H'=>Agr M e' e/\ ∃a,I a/\Has e' (S a)/\H'=Hf a/\σ'=σf a) (TC.subQ ?_ h) ?_
  · rintro e' σ' H' ⟨h1,a,h2,h3,h4,h5⟩
    exact ⟨_,h4,h1,a,h2,h3,rfl,h5⟩
  rintro e' σ' H' ⟨hA,a,hI,hs,rfl,rfl⟩
  rw [tu_ hA hs]
  exact k a e' hI
def LoopP{α:Type}(M:List Nat)(e:Env)(S:α->List (Nat×Value))(Hf:α->List Res)(σf:α->aj)(I:α->Prop)(μ:α->Nat)(m:Nat):Env->aj->List Res->Prop:=
  λe' σ' H'=>Agr M e' e/\ ∃a,μ a<m/\I a/\Has e' (S a)/\Sub (Hf a) H'/\σ'=σf a
theorem TC.ig{α:Type}(M:List Nat)(S:α->List (Nat×Value))(Hf:α->List Res)(σf:α->aj)(I:α->Prop)(μ:α->Nat)(a0:α)
    (hH:Sub (Hf a0) H) (hσ:σ=σf a0) (hS:Has e (S a0)) (h0:I a0)
    (round: ∀(a:α) (j:Env),I a->TC X (seqQ (LoopP M e S Hf σf I μ (μ a)) Q) c (upds (mask M j e) (S a)) (σf a) (Hf a)):TC X Q (.loop c) e σ H:=by
  refine TC.sG hH ?_
  refine TC.loopF M S Hf σf I μ a0 h0 hS rfl hσ λa j hI=>TC.subQ ?_ (round a j hI)
  rintro e' σ' H' ⟨h1,a',h2,h3,h4,h5,h6⟩
  exact ⟨_,h5,h1,a',h2,h3,h4,rfl,h6⟩
@[reducible]def scpQ(Q:QP):QP:=λex=>match ex with
  | .goto _=>λ_ _ _=>False
  |ex=>Q ex
theorem P.n(h:Q .normal e σ H):scpQ Q .normal e σ H:=h
theorem P.x{i:Nat}(h:Q (.exit i) e σ H):scpQ Q (.exit i) e σ H:=h
theorem P.r(h:Q .ret e σ H):scpQ Q .ret e σ H:=h
end rules
inductive RVs (P:Program) (n:Nat) (e:Env) (H:List Res):List ResultVar->List Value->Prop
  |nil:RVs P n e H [] []
  |tmp {t:Nat} {v:Value} {rs:List ResultVar} {vs:List Value} (h:e t=v) (k:RVs P n e H rs vs):RVs P n e H (.tmp t::rs) (v::vs)
  |agg {t T b s i:Nat} {E:TypeId} {cs:Array Value} {rs:List ResultVar} {vs:List Value} (hA:aggOf P T=some true) (hz:szOf P T=some s) (ht:e t=loc b 0) (hi:H[i]? =some (κ b cs E)) (hl:cs.size=s) (k:RVs P n e H rs vs):RVs P n e H (.cell t T::rs) (.agg cs::vs)
  |one {t T b i:Nat} {E:TypeId} {cs:Array Value} {v:Value} {rs:List ResultVar} {vs:List Value} (hA:aggOf P T=some false) (ht:e t=loc b 0) (hi:H[i]? =some (κ b cs E)) (hl:cs[0]? =some v) (k:RVs P n e H rs vs):RVs P n e H (.cell t T::rs) (v::vs)
def tupV:List Value->Value
  |[v]=>v
  |vs=> .tuple vs.toArray
def Sj(tmps:Array Value):ResultVar->Sem Value
  | .tmp t=>pure (tmps.getD t undef)
  | .cell a t=>do loadVar t (<-asAddr (tmps.getD a undef))
theorem RVs.run{P:Program}{n:Nat}{e:Env}{H:List Res}{rs:List ResultVar}{vs:List Value}(h:RVs P n e H rs vs){a:Act}(ha:St n e a){w:World}(hw: ∀r∈H,r.holds w):
    (rs.mapM (Sj a.tmps)).run P w= .ok vs w:=by
  induction h with
  |nil=>simp
  | @tmp t v rs vs h k ih=>
    have h1:(Sj a.tmps (.tmp t)).run P w= .ok v w:=by rw [Sj,ha.get,h];rfl
    simp only [List.mapM_cons,Sem.run_bind,h1,Result.andThen_ok,ih,Sem.run_pure]
  | @agg t T b s i E cs rs vs hA hz ht hi hl k ih=>
    have h2:=oh_ (P:=P) hA hz hi hl hw
    have h1:(Sj a.tmps (.cell t T)).run P w= .ok (.agg cs) w:=by rw [Sj,ha.get,ht];simp only [loc,asAddr,Sem.run_bind,Sem.run_pure,Result.andThen_ok];exact h2
    simp only [List.mapM_cons,Sem.run_bind,h1,Result.andThen_ok,ih,Sem.run_pure]
  | @one t T b i E cs v rs vs hA ht hi hl k ih=>
    have hh:=hw _ (List.mem_of_getElem? hi)
    have h2:=f6_ (P:=P) hA (ht_ hh hl)
    have h1:(Sj a.tmps (.cell t T)).run P w= .ok v w:=by rw [Sj,ha.get,ht];simp only [loc,asAddr,Sem.run_bind,Sem.run_pure,Result.andThen_ok];exact h2
    simp only [List.mapM_cons,Sem.run_bind,h1,Result.andThen_ok,ih,Sem.run_pure]
theorem RVs.val{P:Program}{fn:Func}{n:Nat}{e:Env}{H:List Res}{rs:List ResultVar}{vs:List Value}(hr:fn.results=rs.toArray)(h:RVs P n e H rs vs):AU P fn n e H (tupV vs):=λw a ha hw=>by
  have h1:=h.run ha hw
  have h2:results fn a.tmps=(do let vs<-Array.mapM (Sj a.tmps) rs.toArray;pure (if h:vs.size=1 then vs[0] else .tuple vs):Sem Value):=by
    unfold results
    rw [hr]
    congr 1
  rw [h2]
  simp only [List.mapM_toArray,Sem.run_bind,Sem.run_map,h1,Result.andThen_ok,Sem.run_pure]
  congr 1
  match vs with
  |[]=>rfl
  |[v]=>rfl
  |v::u::l=>simp [tupV]
theorem RetOk.mk'{P:Program}{fn:Func}{n:Nat}{Post:Value->aj->List Res->Prop}{ex:Exit}{e:Env}{σ:aj}{H:List Res}{rs:List ResultVar}{vs:List Value}(F:List Res)(hr:fn.results=rs.toArray)(hex:ex= .ret\/ex= .normal)(h:RVs P n e H rs vs)(hs:F.Sublist H)
    (hp:Post (tupV vs) σ F):RetOk P fn n Post ex e σ H:=RetOk.of F hex (h.val hr) hs hp
section
variable {X:Ctx} {ops:Array Oper} {Q:QP} {e:Env} {σ:aj} {H H':List Res} {c:Code} {l:List Oper}
theorem TL.asH(h:H=H')(k:TL X ops Q l e σ H'):TL X ops Q l e σ H:=h▸k
end
abbrev dW{α:Type}(E:Nat)(enc:α->List Value)(a:Option Addr)(c:Nat)(l:List α):Res:=φ E 1 enc (.slice a l.length c) l
abbrev dA{α:Type}(σ:aj)(enc:α->List Value)(a:Option Addr)(c:Nat)(l:List α):Prop:=RS σ 1 enc (.slice a l.length c) l
theorem aP{α:Type _}{p:Prop}[Decidable p]{t:Option α}{r:α}(h:grd p t=some r):p/\t=some r:=⟨H7 h,Hz h⟩
section
variable {X:Ctx} {ops:Array Oper} {Q:QP} {e e':Env} {σ σ' σr:aj} {H H' Hr:List Res} {late:List Nat} {fuel:Nat} {listed:Array Bool} {c c1 c2:Code} {rest:List Oper} {o:Oper} {x:Operand} {d:Nat}
theorem lf{α:Type}{M:List Nat}{S:α->List (Nat×Value)}{Hf:α->List Res}{σf:α->aj}{I:α->Prop}{μ:α->Nat}{m:Nat}(a:α)(hμ:μ a<m)(hI:I a)(hs:Sub (Hf a) H')
    (hA:Agr M e' e:=by repeat (first|exact Agr.refl _ _|exact Agr.mask|refine Agr.upd rfl ?_ |refine Agr.cj_ rfl ?_ |refine Agr.upds rfl ?_)) (hS:Has e' (S a):=by repeat (first|exact trivial|refine ⟨rfl,?_⟩)) (hσ:σ'=σf a:=by rfl):LoopP M e S Hf σf I μ m e' σ' H':=⟨hA,a,hμ,hI,hS,hs,hσ⟩
theorem cf{α:Type}{M:List Nat}{S:α->List (Nat×Value)}{Hf:α->List Res}{σf:α->aj}{I:α->Prop}(a:α)(hI:I a)(hs:Sub (Hf a) H')
    (hA:Agr M e' e:=by repeat (first|exact Agr.refl _ _|exact Agr.mask|refine Agr.upd rfl ?_ |refine Agr.cj_ rfl ?_ |refine Agr.upds rfl ?_)) (hS:Has e' (S a):=by repeat (first|exact trivial|refine ⟨rfl,?_⟩)) (hσ:σ'=σf a:=by rfl):CutP M e S Hf σf I e' σ' H':=⟨hA,a,hI,hS,hs,hσ⟩
theorem k0{B:Prop}(k:B):(∀w,jR σ H w->jR σ H w)/\B:=⟨λ_ h=>h,k⟩
theorem k1{r1:Res}{B:Prop}(k:B):(∀w,jR σ (r1::H) w->jR σ H w)/\B:=⟨λw h=>rX (aj.le.refl _) (λr hr=>pF _ hr) w h,k⟩
theorem k2{r1 r2:Res}{B:Prop}(k:B):(∀w,jR σ (r1::r2::H) w->jR σ H w)/\B:=⟨λw h=>rX (aj.le.refl _) (λr hr=>pF _ (pF _ hr)) w h,k⟩
theorem k3{r1 r2 r3:Res}{B:Prop}(k:B):(∀w,jR σ (r1::r2::r3::H) w->jR σ H w)/\B:=⟨λw h=>rX (aj.le.refl _) (λr hr=>pF _ (pF _ (pF _ hr))) w h,k⟩
theorem kc{B:Prop}(n:Nat)(k:B)(hH:H'.drop n=H:=by rfl):(∀w,jR σ H' w->jR σ H w)/\B:=⟨λw h=>rX (aj.le.refl _) (λr hr=>List.mem_of_mem_drop (hH▸hr)) w h,k⟩
theorem kl{B:Prop}(n:Nat)(hle:σ.le σ')(k:B)(hH:H'.drop n=H:=by rfl):(∀w,jR σ' H' w->jR σ H w)/\B:=⟨λw h=>rX hle (λr hr=>List.mem_of_mem_drop (hH▸hr)) w h,k⟩
def rp_:List Nat->List Res->List Res
  |[],H=>H
  |i::is,H=>match H[i]? with|some r=>rp_ is (r::H.eraseIdx i)|none=>H
theorem ng_: ∀(is:List Nat) (H:List Res),(rp_ is H).Perm H
  |[],H=>List.Perm.refl _
  |i::is,H=>by
    unfold rp_
    split
    · rename_i r hi;exact (ng_ is _).trans (Ny hi rfl)
    exact List.Perm.refl _
theorem Θ(is:List Nat)(k:Nat){F:List Res}(h:(rp_ is H).take k=F:=by rfl):Sub F H:=⟨rp_ is H,ng_ is H,h▸List.take_sublist k _⟩
theorem Ω(i:Nat){oi:Oper}{v:Value}{d:Nat}(hi:ops[i]? =some oi)(hv:OpVal X.P X.n oi e (λ_=>none) [] v)(hd:oi.dst=some d)
    (k:TA X ops Q σr Hr late fuel (listed.setIfInBounds i true) (upd e d v) σ H) (hs:Region.noSelect ops=true:=by kernel_rfl) (hf:Region.free .any ops listed i=true:=by kernel_rfl) (hr:(Region.ready .any ops listed).contains i=true:=by kernel_rfl) (hg:oi.guard=none:=by rfl) (hn:Nat.blt d X.n=true:=by rfl):TA X ops Q σr Hr late (fuel+1) listed e σ H:=
  TA.takeP i hi hs hf hr hg hv hd hn k
theorem TA.b(i:Nat){oi:Oper}{v:Value}{d:Nat}(hi:ops[i]? =some oi)(hv:OpVal X.P X.n oi e σr Hr v)(hd:oi.dst=some d)
    (k:TA X ops Q σr Hr late fuel (listed.setIfInBounds i true) (upd e d v) σ H) (hs:Region.noSelect ops=true:=by kernel_rfl) (hf:Region.free .any ops listed i=true:=by kernel_rfl) (hr:(Region.ready .any ops listed).contains i=true:=by kernel_rfl) (hl:late.all (λj=>after? ops ops.size j i)=true:=by kernel_rfl) (hg:oi.guard=none:=by rfl) (hn:Nat.blt d X.n=true:=by rfl):TA X ops Q σr Hr late (fuel+1) listed e σ H:=
  TA.take i hi hs hf hr hl hg hv hd hn k
theorem TA.ac(i:Nat){oi:Oper}(hi:ops[i]? =some oi)
    (h:OpOk X oi e σ H λe' σ' H'=>(∀w,jR σ' H' w->jR σr Hr w)/\TA X ops Q σr Hr late fuel (listed.setIfInBounds i true) e' σ' H') (hr:Region.ready .any ops listed=[i]:=by kernel_rfl) (hg:oi.guard=none:=by rfl):TA X ops Q σr Hr late (fuel+1) listed e σ H:=TA.act i hr hi hg h
theorem TA.dn(h:Q .normal e σ H)(hr:Region.ready .any ops listed=[]:=by kernel_rfl):TA X ops Q σr Hr late fuel listed e σ H:=TA.done hr h
theorem TA.on(i:Nat){oi oj:Oper}{v:Value}{d j dj:Nat}{b:Bool}(hi:ops[i]? =some oi)(hg:oi.guard=some (j,b))(hj:ops[j]? =some oj)(hdj:oj.dst=some dj)(hv:OpVal X.P X.n oi e σr Hr v)(hd:oi.dst=some d)
    (k:TA X ops Q σr Hr late fuel (listed.setIfInBounds i true) (upd e d v) σ H) (hs:Region.noSelect ops=true:=by kernel_rfl) (hf:Region.free .any ops listed i=true:=by kernel_rfl) (hr:(Region.ready .any ops listed).contains i=true:=by kernel_rfl) (hl:late.all (λj=>after? ops ops.size j i)=true:=by kernel_rfl) (hnj:Nat.blt dj X.n=true:=by rfl) (hb:e dj= .bool b:=by rfl) (hn:Nat.blt d X.n=true:=by rfl):TA X ops Q σr Hr late (fuel+1) listed e σ H:=
  TA.takeOn i hi hs hf hr hl hg hj hdj hnj hb hv hd hn k
theorem TA.off(i:Nat){oi oj:Oper}{d j dj:Nat}{b:Bool}(hi:ops[i]? =some oi)(hg:oi.guard=some (j,b))(hj:ops[j]? =some oj)(hdj:oj.dst=some dj)(hb:e dj= .bool (!b))(hd:oi.dst=some d)
    (k:TA X ops Q σr Hr late fuel (listed.setIfInBounds i true) (upd e d undef) σ H) (hs:Region.noSelect ops=true:=by kernel_rfl) (hf:Region.free .any ops listed i=true:=by kernel_rfl) (hr:(Region.ready .any ops listed).contains i=true:=by kernel_rfl) (hl:late.all (λj=>after? ops ops.size j i)=true:=by kernel_rfl) (hnj:Nat.blt dj X.n=true:=by rfl) (hn:Nat.blt d X.n=true:=by rfl):TA X ops Q σr Hr late (fuel+1) listed e σ H:=
  TA.dg_ i hi hs hf hr hl hg hj hdj hnj hb rfl hd hn k
theorem so{α:Type}{a b:α}(h:some a=some b):a=b:=Option.some.inj h
theorem an{O:Type}{A B C:O->Prop}{D:Prop}{x:O}(h1:A x)(h2:B x)(h3:C x)(d:D):(∃x,A x/\B x/\C x)/\D:=⟨⟨x,h1,h2,h3⟩,d⟩
theorem ψ{id:Nat}{l:List Oper}(h:TL X l.toArray (seqQ (TC X Q c2) Q) l e σ H):TC X Q (.seq (.region id l.toArray false) c2) e σ H:=ζ (η h)
theorem ε{K:Env->aj->List Res->Prop}(h:K e σ H):TL X ops (seqQ K Q) [] e σ H:=TL.nil (S.n h)
theorem TC.cD{p:Prop}[Decidable p]{R:Type}{t1 t2:Option R}{r:R}(hc:ev e x= .bool (decide p))(hh:aN (decide p) t1 t2=some r)(ht:p->t1=some r->TC X Q c1 e σ H)(hf: ¬ p->t2=some r->TC X Q c2 e σ H):TC X Q (.cond x c1 c2) e σ H:=
  TC.cond hc (λh=>ht (jg h) (gZ h hh)) (λh=>hf (jo h) (gY h hh))
theorem TC.cB{t:Bool}{R:Type}{t1 t2:Option R}{r:R}(hc:ev e x= .bool t)(hh:aN t t1 t2=some r)(ht:t=true->t1=some r->TC X Q c1 e σ H)(hf:t=false->t2=some r->TC X Q c2 e σ H):TC X Q (.cond x c1 c2) e σ H:=
  TC.cond hc (λh=>ht h (gZ h hh)) (λh=>hf h (gY h hh))
end
section
variable {P:Program} {fn:Func} {n:Nat} {e:Env} {σ:aj} {H:List Res}
theorem r1(t:Nat){Post:Value->aj->List Res->Prop}(hr:fn.results=(#[.tmp t]:Array ResultVar):=by rfl)(hp:Post (e t) σ []:=by exact ⟨rfl,rfl,rfl⟩):RetOk P fn n Post .ret e σ H:=RetOk.of [] (.inl rfl) (AU.one hr) (List.nil_sublist _) hp
end
section
variable {X:Ctx} {ops:Array Oper} {Q:QP} {e:Env} {σ:aj} {H F:List Res} {c c1 c2:Code} {rest:List Oper} {o:Oper} {x:Operand} {d:Nat}
def plC(n:Nat)(o:Oper):Option Nat:=match o.guard,o.dst with
  |none,some d=>if Nat.blt d n then some d else none
  |_,_=>none
theorem wq_{n:Nat}(h:plC n o=some d):o.guard=none/\o.dst=some d/\Nat.blt d n=true:=by
  unfold plC at h
  split at h
  · rename_i d' h1 h2
    split at h
    · rename_i h3;cases h;exact ⟨h1,h2,h3⟩
    cases h
  cases h
theorem ω{v:Value}(h:plC X.n o=some d)(hv:OpVal X.P X.n o e σ H v)(k:TL X ops Q rest (upd e d v) σ H):TL X ops Q (o::rest) e σ H:=TL.v (wq_ h).1 hv (wq_ h).2.1 (wq_ h).2.2 k
def mvC(n:Nat)(o:Oper):Option (Operand×Nat):=match o.op with
  | .move x| .assign x=>(plC n o).map λd=>(x,d)
  |_=>none
theorem SY{n:Nat}(h:mvC n o=some (x,d)):plC n o=some d/\Pq o.op x:=by
  unfold mvC at h
  split at h
  · rename_i y h1
    rw [Option.map_eq_some_iff]at h;obtain ⟨a,ha,hb⟩:=h;cases hb;exact ⟨ha,.inl h1⟩
  · rename_i y h1
    rw [Option.map_eq_some_iff]at h;obtain ⟨a,ha,hb⟩:=h;cases hb;exact ⟨ha,.inr h1⟩
  cases h
theorem ξ{k:IntKind}{a:Int}(h:mvC X.n o=some (x,d))(hx:ev e x= .int k a)(kk:TL X ops Q rest (upd e d (.int k a)) σ H):TL X ops Q (o::rest) e σ H:=ω (SY h).1 (OpVal.dw (SY h).2 hx) kk
theorem TL.j{b:Bool}(h:mvC X.n o=some (x,d))(hx:ev e x= .bool b)(kk:TL X ops Q rest (upd e d (.bool b)) σ H):TL X ops Q (o::rest) e σ H:=ω (SY h).1 (OpVal.moveB (SY h).2 hx) kk
theorem Φ{a:Option Addr}{m k:Nat}(h:mvC X.n o=some (x,d))(hx:ev e x= .slice a m k)(kk:TL X ops Q rest (upd e d (.slice a m k)) σ H):TL X ops Q (o::rest) e σ H:=ω (SY h).1 (OpVal.gu (SY h).2 hx) kk
theorem TL.l{b k:Nat}(h:mvC X.n o=some (x,d))(hx:ev e x=loc b k)(kk:TL X ops Q rest (upd e d (loc b k)) σ H):TL X ops Q (o::rest) e σ H:=ω (SY h).1 (OpVal.MI (SY h).2 hx) kk
def gdC (n : Nat) (ops : Array Oper) (e : Env) (o : Oper) : Option (Bool × Nat) := match o.guard, o.dst with
  |some (j,b),some d=>match ops[j]? with
    |some oj=>match oj.dst with
      |some dj=>if Nat.blt dj n then (if Nat.blt d n then some (match e dj with| .bool b'=>b' == b|_=>false,d) else none) else none
      |none=>none
    |none=>none
  |_,_=>none
theorem gdC_ok {n : Nat} {w : Bool} (h : gdC n ops e o = some (w, d)) : o.dst = some d /\ Nat.blt d n = true /\ ∃ j b oj dj, o.guard = some (j, b) /\ ops[j]? = some oj /\ oj.dst = some dj /\ Nat.blt dj n = true /\ (match e dj with | .bool b' => b' == b | _ => false) = w := by
  unfold gdC at h
  split at h
  · rename_i j b d' h1 h2
    split at h
    · rename_i oj h3
      split at h
      · rename_i dj h4
        split at h
        · rename_i h5
          split at h
          · rename_i h6;cases h;exact ⟨h2,h6,j,b,oj,dj,h1,h3,h4,h5,rfl⟩
          cases h
        cases h
      cases h
    cases h
  cases h
theorem Ψ{v:Value}(h:gdC X.n ops e o=some (true,d))(hv:OpVal X.P X.n o e σ H v)(k:TL X ops Q rest (upd e d v) σ H):TL X ops Q (o::rest) e σ H:=by
  obtain ⟨h1,h2,j,b,oj,dj,h3,h4,h5,h6,h7⟩:=gdC_ok h
  have hb:e dj= .bool b:=by
    generalize e dj=v at h7
    cases v
    case bool b'=>cases b<;>cases b'<;>first|rfl|exact Bool.noConfusion (show false=true from h7)
    all_goals exact Bool.noConfusion (show false=true from h7)
  exact TL.gv h3 h4 h5 h6 hb hv h1 h2 k
theorem π(h:gdC X.n ops e o=some (false,d))(k:TL X ops Q rest (upd e d undef) σ H):TL X ops Q (o::rest) e σ H:=λw a hw ha=>by
  obtain ⟨h1,h2,j,b,oj,dj,h3,h4,h5,h6,h7⟩:=gdC_ok h
  refine wpListIn_step λK hK=> ?_
  have hy:=U9 ha h4 h5 h6
  have hnw:Region.wanted o (yielded ops a.tmps)≠true:=λhx=>by
    unfold Region.wanted at hx
    rw [h3]at hx
    replace hx:(yielded ops a.tmps j == some b)=true:=hx
    rw [hy]at hx
    generalize e dj=v at hx h7
    cases v
    case bool b'=>cases b<;>cases b'<;>first|exact Bool.noConfusion (show false=true from hx)|exact Bool.noConfusion (show true=false from h7)
    all_goals exact Bool.noConfusion (show false=true from hx)
  rw [if_neg hnw,h1]
  exact ⟨λ_ _=>trivial,hK _ _ (k w _ (hw.step hw.self (mz_ _ _ _)) (ha.put (by simpa [Nat.blt_eq]using h2) undef))⟩
theorem TC.t(hc:ev e x= .bool true)(h:TC X Q c1 e σ H):TC X Q (.cond x c1 c2) e σ H:=TC.cond hc (λ_=>h) (λh=>Bool.noConfusion h)
theorem TC.f(hc:ev e x= .bool false)(h:TC X Q c2 e σ H):TC X Q (.cond x c1 c2) e σ H:=TC.cond hc (λh=>Bool.noConfusion h) (λ_=>h)
theorem TC.rt(k:Nat)(h:Q .ret e σ F)(hk:H.take k=F:=by rfl):TC X Q .ret e σ H:=TC.sG ⟨H,List.Perm.refl _,hk▸List.take_sublist k H⟩ (TC.ret h)
end
section
variable {P:Program} {fn:Func} {n:Nat} {e:Env} {σ:aj} {H:List Res}
theorem tmps_ok(ts:List Nat):RVs P n e H (ts.map .tmp) (ts.map e):=by
  induction ts with
  |nil=>exact .nil
  |cons t ts ih=>exact .tmp rfl ih
theorem rq(ts:List Nat){Post:Value->aj->List Res->Prop}(hp:Post (tupV (ts.map e)) σ [])(hr:fn.results=(ts.map ResultVar.tmp).toArray:=by rfl):RetOk P fn n Post .ret e σ H:=
  RetOk.mk' [] hr (.inl rfl) (tmps_ok ts) (List.nil_sublist _) hp
theorem ro{Post:Value->aj->List Res->Prop}{rs:List ResultVar}{vs:List Value}(F:List Res)(hr:fn.results=rs.toArray)(h:RVs P n e H rs vs)(hp:Post (tupV vs) σ F)(hs:F.Sublist H:=by exact List.sublist_append_left _ _):RetOk P fn n Post .ret e σ H:=RetOk.mk' F hr (.inl rfl) h hs hp
end
def rgs:List (Nat×Nat)->List Nat
  |[]=>[]
  |(a,n)::l=>List.range' a n++rgs l
section
variable {X:Ctx} {ops:Array Oper} {Q:QP} {e:Env} {σ σr:aj} {H Hr:List Res} {late:List Nat} {fuel:Nat} {listed:Array Bool}
theorem wpOp_on{r:Option Nat}{P:Program}{Q:Exit->Act->World->Prop}{i j dj n:Nat}{b:Bool}{oi oj:Oper}{a:Act}{w:World}{K:Act->World->Prop}(ha:St n e a)(hi:ops[i]? =some oi)(hg:oi.guard=some (j,b))(hj:ops[j]? =some oj)(hd:oj.dst=some dj)(hn:Nat.blt dj n=true)(hb:e dj= .bool b)
    (h:oi.wpIn (fence r) 0 P a w K Q):wpOpIn (fence r) 0 P ops Q i K a w:=by
  unfold wpOpIn
  simp only [hi]
  rw [if_pos (by simp [Region.wanted,hg,U9 ha hj hd hn,hb])]
  exact h
theorem TA.dv_(i:Nat){oi oj:Oper}{j dj:Nat}{b:Bool}(hr:Region.ready .any ops listed=[i])(hi:ops[i]? =some oi)(hg:oi.guard=some (j,b))(hj:ops[j]? =some oj)(hd:oj.dst=some dj)(hn:Nat.blt dj X.n=true)(hb:e dj= .bool b)
    (h:OpOk X oi e σ H λe' σ' H'=>(∀w,jR σ' H' w->jR σr Hr w)/\TA X ops Q σr Hr late fuel (listed.setIfInBounds i true) e' σ' H'):TA X ops Q σr Hr late (fuel+1) listed e σ H:=λhnd w a hw hS hcl ha=>by
  refine ⟨λh0=>(by rw [hr]at h0;cases h0),λq hq=> ?_⟩
  have hst:=hcl.step hq
  rw [hr]at hq
  simp at hq;subst hq
  exact wpOp_on ha hi hg hj hd hn hb (h.at hw ha λe' σ' H' a' w' ⟨hs,hk⟩ hw' ha'=>⟨λ_ _=>hs w' hw'.sees,hk hnd w' a' hw' (hs w' hw'.sees) hst ha'⟩)
end
theorem RS.nilF{α:Type}(σ:aj){size:Nat}(enc:α->List Value)(hl: ∀x,(enc x).length=size):RS σ size enc (.slice none 0 0) ([]:List α):=⟨RV.nil σ size,hl⟩
theorem Con.lend{P:Program}{f:FuncId}{args:Array Value}{σ:aj}{F:List Res}{r v:Value}{α:Type}{E size:Nat}{enc:α->List Value}{l:List α}(hl: ∀x,(enc x).length=size)
    (h: ∀τ,σ.le τ->RS τ size enc v l->Con P f args τ F (v8_ r τ F)):Con P f args σ (φ E size enc v l::F) (v8_ r σ (φ E size enc v l::F)):=by
  intro w hw
  obtain ⟨τ,h1,h2,h3⟩:=hw.P9
  have h0:Reach w (iJ F) τ τ w F:=⟨rfl,rfl,rfl,Nat.le_refl _,λ_ _ _=>rfl,aj.le.refl _,h1.fit,λb o hb=> .inl hb,h1.holds,λr hr b hb=> .inl (yQ.2 ⟨r,hr,hb⟩),h1.nodup,h1.apart,Nat.le_refl _⟩
  refine (h τ h2 ⟨h3,hl⟩ w h0).mono λex w' ⟨r',σ',H',he,⟨e1,e2,e3⟩,k⟩=> ?_
  subst e1 e2 e3
  refine ⟨r',σ,_,he,⟨rfl,rfl,rfl⟩,?_⟩
  have hb: ∀b,b∈(φ E size enc v l).bl->b<w.heap.size/\b∉iJ H':=λb hb=>by
    refine ⟨hw.block_lt (jm ..) hb,λhx=> ?_⟩
    have hnd:=hw.nodup
    simp only [iJ,List.flatMap_cons]at hnd
    exact (k4_.1 hnd).2.2 b hb hx
  have hframe: ∀i,i<w.heap.size->i∉iJ H'->w'.heap[i]? =w.heap[i]? :=k.frame
  refine ⟨k.os,k.tape,k.output,k.size,?_,aj.le.refl _,λb o hs=>k.fit b o (h2 b o hs),λb o hs=> .inl hs,?_,?_,?_,?_,k.drawn⟩
  · intro i hi hn
    refine hframe i hi λhx=>hn ?_
    obtain ⟨r2,hr2,hb2⟩:=yQ.1 hx
    exact yQ.2 ⟨r2,pF _ hr2,hb2⟩
  · intro r2 hr2
    rcases List.mem_cons.1 hr2 with rfl|hr2
    · exact (φ E size enc v l).keep w w' (λb hbb=>hframe b (hb b hbb).1 (hb b hbb).2) (hw.holds _ (jm ..))
    exact k.holds r2 hr2
  · intro r2 hr2 b hb2
    exact .inl (yQ.2 ⟨r2,hr2,hb2⟩)
  · exact hw.nodup
  intro r2 hr2 b hb2
  exact hw.apart r2 hr2 b hb2
def bs(l:List UInt8):ByteArray:=⟨l.toArray⟩
theorem nu_(l:List UInt8):(bs l).size=l.length:=rfl
theorem Z_(l:List UInt8):(bs l).data.toList=l:=rfl
theorem bs_of(s:ByteArray):s=bs s.data.toList:=by cases s;rfl
theorem bs_inj{l m:List UInt8}(h:bs l=bs m):l=m:=by have:=congrArg (λs:ByteArray=>s.data.toList) h;simpa [bs]using this
def aJ(l:List UInt8):List Value:=[.string (bs l)]
theorem bF(x:List UInt8):(aJ x).length=1:=rfl
theorem rE: ∀x, ∀u∈aJ x,u.oneCell'=true:=λx u hu=>by simp [aJ]at hu;subst hu;rfl
section
variable {P:Program} {n:Nat} {e:Env} {σ:aj} {H:List Res} {o:Oper} {x y z:Operand} {l m:List UInt8}
theorem OpVal.rY{t:TypeId}(ho:o.op= .call {callee:= .builtin .len,args:= #[x],argTypes:= #[t]})(ht:P.underlying t=some .string)(hx:ev e x= .string (bs l)):
    OpVal P n o e σ H (.int .i64 (l.length:Nat)):=OpVal.lenStr ho ht hx
theorem OpVal.bw_{T:Nat}{k:IntKind}{i:Nat}(ho:o.op= .index T x y)(ht:P.underlying T=some .string)(hx:ev e x= .string (bs l))(hy:ev e y= .int k (i:Nat))(h:i<l.length):
    OpVal P n o e σ H (.int .u8 ((nth l i (0:UInt8)).toNat:Nat)):=OpVal.cx_ ho ht hx hy (by rw [Z_];exact getD_some l h _)
theorem o9_(l:List UInt8)(i j:Nat):(bs l).extract i j=bs ((l.take j).drop i):=by
  apply ByteArray.ext
  rw [ByteArray.data_extract]
  apply Array.ext'
  simp [bs,List.extract_eq_take_drop,List.drop_take]
theorem OpVal.bo_{t:TypeId}{j:Nat}{k':IntKind}(ho:o.op= .slice t x none (some z) none)(ht:P.underlying t=some .string)(hx:ev e x= .string (bs l))(hz:ev e z= .int k' (j:Nat))
    (_h1:0<=j) (h2:j<=l.length):OpVal P n o e σ H (.string (bs (l.take j))):=λw _=>by
  have h:=run_slice_string_to_if (P:=P) w t (bs l) k' j ht
  rw [if_pos ⟨by omega,by rw [nu_];omega⟩,iW,o9_,List.drop_zero]at h
  simp [execOp,ho,hx,hz,Instr.sliceAt,run_underlying ht,h]
theorem OpVal.bk_{t:TypeId}{i:Nat}{k:IntKind}(ho:o.op= .slice t x (some y) none none)(ht:P.underlying t=some .string)(hx:ev e x= .string (bs l))(hy:ev e y= .int k (i:Nat))
    (h1:i<=l.length) (_h2:l.length<=l.length):OpVal P n o e σ H (.string (bs (l.drop i))):=λw _=>by
  have h:=run_slice_string_from_if (P:=P) w t (bs l) k i ht
  rw [if_pos ⟨by omega,by rw [nu_];omega⟩,iW,o9_,nu_,List.take_length]at h
  simp [execOp,ho,hx,hy,Instr.sliceAt,run_underlying ht,h]
theorem f7_(op:BinOp)(t:TypeId)(x y:Operand)(a b:ByteArray)(w:World):(eqGuard op t x y (.string a) (.string b)).run P w= .ok () w:=by
  cases op<;>simp [eqGuard]
theorem i6_(op:BinOp)(t:TypeId)(x y:Operand)(a b:Bool)(w:World):(eqGuard op t x y (.bool a) (.bool b)).run P w= .ok () w:=by
  cases op<;>simp [eqGuard]
theorem OpVal.P8{T T':TypeId}(ho:o.op= .binOp .add T x y T')(hx:ev e x= .string (bs l))(hy:ev e y= .string (bs m))(h:l.length+m.length<=9223372036854775807):OpVal P n o e σ H (.string (bs (l++m))):=λw _=>by
  have h1:=run_string_add_sum (P:=P) w (bs l) (bs m) (by rw [nu_,nu_];omega)
  have h2:bs l++bs m=bs (l++m):=ByteArray.mk_append_mk l m
  rw [h2]at h1
  simp only [execOp,ho,hx,hy,Sem.run_bind,f7_,Result.andThen_ok,binOp,h1,Sem.run_pure]
theorem xq_(l m:List UInt8):((bs l).toList == (bs m).toList)=decide (l=m):=by
  rw [ByteArray.toList_eq,ByteArray.toList_eq,Z_,Z_,Bool.eq_iff_iff,decide_eq_true_iff,beq_iff_eq]
theorem OpVal.cw_{T T':TypeId}(ho:o.op= .binOp .eql T x y T')(hx:ev e x= .string (bs l))(hy:ev e y= .string (bs m)):OpVal P n o e σ H (.bool (decide (l=m))):=λw _=>by
  simp only [execOp,ho,hx,hy,Sem.run_bind,f7_,Result.andThen_ok,binOp,Op.stringOp,xq_,Sem.run_pure]
theorem OpVal.Ih{T T':TypeId}(ho:o.op= .binOp .neq T x y T')(hx:ev e x= .string (bs l))(hy:ev e y= .string (bs m)):OpVal P n o e σ H (.bool (decide (l≠m))):=λw _=>by
  simp only [execOp,ho,hx,hy,Sem.run_bind,f7_,Result.andThen_ok,binOp,Op.stringOp,xq_,Sem.run_pure,decide_not]
def qR(a:Int):UInt8:=UInt8.ofNat (IntKind.u8.wrap a).toNat
theorem tf_(a:Int):IntKind.u8.wrap a=a % 256:=by simp [IntKind.wrap,IntKind.bits,IntKind.signed]
theorem qm_(a:Int):((qR a).toNat:Int)=IntKind.u8.wrap a:=by
  have h1:IntKind.u8.wrap a=a % 256:=tf_ a
  unfold qR
  rw [UInt8.toNat_ofNat',h1]
  omega
theorem OpVal.bz_{S T:TypeId}{k:IntKind}{a:Int}{d:TypeDesc}(ho:o.op= .convert S T x)(hs:P.underlying S=some d)(ht:P.underlying T=some (.int .u8))(hx:ev e x= .int k a):OpVal P n o e σ H (.int .u8 ((qR a).toNat:Nat)):=by
  rw [qm_];exact OpVal.dr_ ho hs ht hx
theorem pm_{T:TypeId}(hT:P.underlying T=some .bool)(d:Nat)(a b:Bool)(w:World):(Op.equalIn (d+1) T (.bool a) (.bool b)).run P w= .ok (a == b) w:=by
  simp [Op.equalIn,run_underlying hT]
theorem OpVal.eqlB{T T':TypeId}{a b:Bool}(ho:o.op= .binOp .eql T x y T')(hx:ev e x= .bool a)(hy:ev e y= .bool b)(hT:P.underlying T=some .bool):OpVal P n o e σ H (.bool (a == b)):=λw _=>by
  simp only [execOp,ho,hx,hy,Sem.run_bind,i6_,Result.andThen_ok]
  rw [hn_ (by simp) (r:=a == b) (pm_ hT 9999 a b w) rfl];rfl
theorem OpVal.neqB{T T':TypeId}{a b:Bool}(ho:o.op= .binOp .neq T x y T')(hx:ev e x= .bool a)(hy:ev e y= .bool b)(hT:P.underlying T=some .bool):OpVal P n o e σ H (.bool (a != b)):=λw _=>by
  simp only [execOp,ho,hx,hy,Sem.run_bind,i6_,Result.andThen_ok]
  rw [mj_ (by simp) (r:=a == b) (pm_ hT 9999 a b w) rfl];rfl
theorem OpVal.eqlSet{T T' E:TypeId}{s t:BSet}(ho:o.op= .binOp .eql T x y T')(hT:P.underlying T=some (.array 4 E))(hE:P.underlying E=some (.int .u64))(hA:aggOf P E=some false)(hz:szOf P E=some 1)(hg:P.eqGuardType P.depth T=false)
    (hx:ev e x= .agg (setA s)) (hy:ev e y= .agg (setA t)):OpVal P n o e σ H (.bool (decide (s=t))):=by
  have:=OpVal.ds_ (P:=P) (n:=n) (σ:=σ) (H:=H) ho hT hE hA hz hg hx hy rfl rfl
  have h:decide (((s.a:Nat):Int)=(t.a:Nat)/\((s.b:Nat):Int)=(t.b:Nat)/\((s.c:Nat):Int)=(t.c:Nat)/\((s.d:Nat):Int)=(t.d:Nat))=decide (s=t):=by rw [decide_eq_decide];exact (BSet.eq_iff s t).symm
  rwa [h]at this
end
theorem OpOk.pz{X:Ctx}{e:Env}{σ:aj}{H:List Res}{o:Oper}{x y:Operand}{K:Env->aj->List Res->Prop}{α:Type}{T E size nY d m:Nat}{enc:α->List Value}{kl kc:IntKind}{z:Value}(x0:α)(ho:o.op= .makeSlice T x y)(ht:X.P.underlying T=some (.slice E))(hs:szOf X.P E=some size)(hby:byOf X.P E=some nY)(hz:zeroOf X.P E=some z)
    (hd:o.dst=some d) (hn:Nat.blt d X.n=true) (hx:ev e x= .int kl (m:Nat)) (hy:ev e y= .int kc (m:Nat)) (hb:nY * m<=281474976710656) (qw:0<nY) (hl: ∀x,(enc x).length=size) (h0:0<size)
    (hz0:z.cells.toList=enc x0) (h1: ∀x, ∀u∈enc x,u.oneCell'=true) (k: ∀a c,K (upd e d (.slice a (List.replicate m x0).length c)) σ (φ E size enc (.slice a (List.replicate m x0).length c) (List.replicate m x0)::H)):OpOk X o e σ H K:=
  OpOk.makeS x0 ho ht hs hby hz hd hn hx hy hb qw hl h0 hz0 h1 λa c=>by have:=k a c;simp only [r_]at this;exact this
structure KeyLaw {α:Type} [BEq α] (P:Program) (K:TypeId) (enc:α->Value):Prop where
  check: ∀x c w,(Instr.checkKey c 10000 K (enc x)).run P w= .ok () w
  find: ∀x (l:List α) (es:List MapEntry) w,es.map (·.key)=l.map enc-> ∃r,(Instr.findKey K (enc x) es).run P w= .ok r w/\
    (l.contains x=false->r=none)/\(l.contains x=true-> ∃i m,r=some (i,m.val)/\es[i]? =some m/\m.key=enc x)
  stays: ∀x w,(Instr.keyThatStays (enc x) (enc x)).run P w= .ok (enc x) w
def nT(x:Int):Value:= .int .i64 x
section
variable {X:Ctx} {e:Env} {σ:aj} {H F:List Res} {o:Oper} {x y z:Operand} {K:Env->aj->List Res->Prop} {α:Type}
theorem h2_{P:Program}{w:World}{r:Nat}{es:Array MapEntry}{clock:Nat}(h:w.heap[r]? =some (.map es clock)):(getObj r).run P w= .ok (.map es clock) w:=by simp [getObj,Sem.run,h]
theorem je_{P:Program}{w:World}{r:Nat}{es:Array MapEntry}{clock:Nat}(o:Obj)(h:w.heap[r]? =some (.map es clock)):(setObj r o).run P w= .ok () {w with heap:=w.heap.setIfInBounds r o}:=by simp [setObj,Sem.run,h]
end
end Go.E
end

noncomputable section
namespace Go.E
open Go
structure Pk (α:Type) where
  P:Type
  d:α
  dp:P
  size:Nat
  enc:α->P->List Value
  ok:aj->α->P->Prop
  len: ∀x p,(enc x p).length=size
  one: ∀x p, ∀u∈enc x p,u.oneCell'=true
  mono: ∀{σ τ x p},aj.le σ τ->ok σ x p->ok τ x p
  zok: ∀σ,ok σ d dp
section
variable {α:Type}
def Pk.en(K:Pk α)(m:α×K.P):List Value:=K.enc m.1 m.2
theorem Pk.Y3(K:Pk α)(m:α×K.P):(K.en m).length=K.size:=K.len _ _
theorem Pk.c8_(K:Pk α): ∀m, ∀u∈K.en m,u.oneCell'=true:=λm=>K.one _ _
structure ZOk (σ:aj) (K:Pk α) (z:List (α×K.P)) (l:List α):Prop where
  eq:z.map Prod.fst=l
  ok: ∀m∈z,K.ok σ m.1 m.2
theorem ZOk.mono{σ τ:aj}{K:Pk α}{z:List (α×K.P)}{l:List α}(h:ZOk σ K z l)(hle:σ.le τ):ZOk τ K z l:=⟨h.eq,λm hm=>K.mono hle (h.ok m hm)⟩
theorem ZOk.nil(σ:aj)(K:Pk α):ZOk σ K [] []:=⟨rfl,by simp⟩
theorem ZOk.cons{σ:aj}{K:Pk α}{x:α}{p:K.P}{z:List (α×K.P)}{l:List α}(h:K.ok σ x p)(k:ZOk σ K z l):ZOk σ K ((x,p)::z) (x::l):=⟨by simp [k.eq],λm hm=>by
  rcases List.mem_cons.1 hm with rfl|hm
  · exact h
  exact k.ok m hm⟩
theorem ZOk.app{σ:aj}{K:Pk α}{z y:List (α×K.P)}{l m:List α}(h:ZOk σ K z l)(k:ZOk σ K y m):ZOk σ K (z++y) (l++m):=⟨by rw [List.map_append,h.eq,k.eq],λu hu=>by
  rcases List.mem_append.1 hu with hu|hu
  · exact h.ok u hu
  exact k.ok u hu⟩
theorem ZOk.set{σ:aj}{K:Pk α}{z:List (α×K.P)}{l:List α}{i:Nat}{x:α}{p:K.P}(h:ZOk σ K z l)(k:K.ok σ x p):ZOk σ K (z.set i (x,p)) (l.set i x):=⟨by rw [List.map_set,h.eq],λu hu=>by
  rcases List.mem_or_eq_of_mem_set hu with hu|rfl
  · exact h.ok u hu
  exact k⟩
theorem ZOk.length{σ:aj}{K:Pk α}{z:List (α×K.P)}{l:List α}(h:ZOk σ K z l):z.length=l.length:=by rw [<-h.eq,List.length_map]
theorem ZOk.at{σ:aj}{K:Pk α}{z:List (α×K.P)}{l:List α}(h:ZOk σ K z l){i:Nat}(hi:i<l.length):nth z i (K.d,K.dp)=(nth l i K.d,(nth z i (K.d,K.dp)).2)/\K.ok σ (nth l i K.d) (nth z i (K.d,K.dp)).2:=by
  have hz:i<z.length:=by rw [h.length];exact hi
  have h1:=getD_some z hz (K.d,K.dp)
  have h2:(nth z i (K.d,K.dp)).1=nth l i K.d:=by
    have h3:=getD_some l hi K.d
    rw [<-h.eq,List.getElem?_map,h1]at h3
    simp only [Option.map_some,Option.some.injEq]at h3
    rw [h3,h.eq]
  refine ⟨by rw [<-h2],?_⟩
  rw [<-h2]
  exact h.ok _ (List.mem_of_getElem? h1)
def RZ(σ:aj)(K:Pk α)(v:Value)(l:List α):Prop:= ∃z:List (α×K.P),ZOk σ K z l/\RS σ K.size K.en v z
theorem RZ.mono{σ τ:aj}{K:Pk α}{v:Value}{l:List α}(h:RZ σ K v l)(hle:σ.le τ):RZ τ K v l:=let ⟨z,h1,h2⟩:=h;⟨z,h1.mono hle,h2.mono hle⟩
theorem RZ.nilF(σ:aj)(K:Pk α):RZ σ K (.slice none 0 0) []:=⟨[],ZOk.nil σ K,RS.nilF σ K.en K.Y3⟩
theorem RZ.isSl{σ:aj}{K:Pk α}{v:Value}{l:List α}(h:RZ σ K v l):nb_ v l.length:=by
  obtain ⟨z,h1,h2⟩:=h;rw [<-h1.length];exact h2.rv.sl
theorem RZ.big{σ:aj}{K:Pk α}{v:Value}{l:List α}(h:RZ σ K v l):l.length<=281474976710656:=by
  obtain ⟨z,h1,h2⟩:=h;rw [<-h1.length];exact h2.rv.big
def Seg(σ:aj)(v:Value)(k:Nat)(cs:List Value):Prop:= ∃a m c,v= .slice (some a) m c/\ ∀j u,cs[j]? =some u->σ.cell (a.add (k+j))=some u
theorem Seg.mono{σ τ:aj}{v:Value}{k:Nat}{cs:List Value}(h:Seg σ v k cs)(hle:σ.le τ):Seg τ v k cs:=let ⟨a,m,c,h1,h2⟩:=h;⟨a,m,c,h1,λj u hj=>hle.cell (h2 j u hj)⟩
theorem RZ.seg{σ:aj}{K:Pk α}{v:Value}{l:List α}(h:RZ σ K v l)(i:Nat)(hi:i<l.length): ∃p:K.P,K.ok σ (nth l i K.d) p/\Seg σ v (i * K.size) (K.enc (nth l i K.d) p):=by
  obtain ⟨z,h1,h2⟩:=h
  obtain ⟨e,hok⟩:=h1.at hi
  refine ⟨_,hok,?_⟩
  have hz:i<z.length:=by rw [h1.length];exact hi
  obtain ⟨a,c,rfl,_⟩:=h2.rv.sl.some hz
  refine ⟨a,_,c,rfl,λj u hj=> ?_⟩
  have hj2:j<K.size:=by have:=(List.getElem?_eq_some_iff.1 hj).1;rwa [K.len]at this
  refine h2.rv.cell a _ c rfl _ u ?_
  rw [YM K.Y3 z i j _ (getD_some z hz (K.d,K.dp)) hj2,Pk.en,e]
  exact hj
end
section
variable {P:Program} {n:Nat} {e:Env} {σ:aj} {H:List Res} {o:Oper} {x y:Operand} {α:Type}
theorem OpVal.de_{T k j:Nat}{v u:Value}{cs:List Value}(ho:o.op= .load T x)(hA:aggOf P T=some false)(hx:ev e x=oN v (k+j))(hS:Seg σ v k cs)(hu:cs[j]? =some u):OpVal P n o e σ H u:=λw hw=>by
  obtain ⟨a,m,c,rfl,h⟩:=hS
  have hc:=hw.cell (h j u hu)
  simp [execOp,ho,hx,Instr.loadAt,Instr.sureAddr,oN,f6_ hA hc]
theorem OpVal.kZ{T k:Nat}{v u:Value}{cs:List Value}(ho:o.op= .load T x)(hA:aggOf P T=some false)(hx:ev e x=oN v k)(hS:Seg σ v k cs)(hu:cs[0]? =some u):OpVal P n o e σ H u:=
  OpVal.de_ (j:=0) ho hA hx hS hu
theorem OpVal.dj_{T E i q:Nat}{K:Pk α}{v u:Value}{z:List (α×K.P)}{l:List α}(hZ:ZOk σ K z l)(ho:o.op= .load T x)(hA:aggOf P T=some false)(hx:ev e x=oN v (i * K.size))(hq:H[q]? =some (φ E K.size K.en v z))(hi:i<l.length)
    (hu:(K.enc (nth l i K.d) (nth z i (K.d,K.dp)).2)[0]? =some u):OpVal P n o e σ H u:=by
  have hz:i<z.length:=by rw [hZ.length];exact hi
  obtain ⟨e1,_⟩:=hZ.at hi
  have h0:0<K.size:=by have:=(List.getElem?_eq_some_iff.1 hu).1;rwa [K.len]at this
  refine OpVal.cp_ (j:=0) (K.d,K.dp) ho hA hx hq K.Y3 hz h0 ?_
  rw [Pk.en,e1];exact hu
end
def aB{α:Type}(size:Nat)(enc:α->List Value)(hl: ∀x,(enc x).length=size):Pk (List α) where
  P:=Option Addr×Nat
  d:=[]
  dp:=(none,0)
  size:=1
  enc l p:=[.slice p.1 l.length p.2]
  ok σ l p:=RS σ size enc (.slice p.1 l.length p.2) l
  len _ _:=rfl
  one _ _ u hu:=by simp at hu;subst hu;rfl
  mono hle h:=h.mono hle
  zok σ:=RS.nilF σ enc hl
section
variable {X:Ctx} {e:Env} {σ:aj} {H F:List Res} {o:Oper} {x y:Operand} {K:Env->aj->List Res->Prop} {α:Type}
theorem TC.Md{Q:QP}{c:Code}{E:Nat}{k:Pk α}{v:Value}{z:List (α×k.P)}{l:List α}(hZ:ZOk σ k z l)(h: ∀σ',σ.le σ'->RZ σ' k v l->TC X Q c e σ' F):TC X Q c e σ (φ E k.size k.en v z::F):=
  TC.oh k.Y3 λσ' h1 h2=>h σ' h1 ⟨z,hZ.mono h1,h2⟩
theorem TL.Md{Q:QP}{ops:Array Oper}{ol:List Oper}{E:Nat}{k:Pk α}{v:Value}{z:List (α×k.P)}{l:List α}(hZ:ZOk σ k z l)(h: ∀σ',σ.le σ'->RZ σ' k v l->TL X ops Q ol e σ' F):TL X ops Q ol e σ (φ E k.size k.en v z::F):=
  TL.oh k.Y3 λσ' h1 h2=>h σ' h1 ⟨z,hZ.mono h1,h2⟩
end
end Go.E
namespace Go.E
open Go
section
variable {X:Ctx} {e:Env} {σ:aj} {H F:List Res} {o:Oper} {x y:Operand} {K:Env->aj->List Res->Prop} {α:Type} {k:Pk α} {z w:List (α×k.P)} {l m:List α}
theorem OpOk.MJ{T E nY d:Nat}{zv v u:Value}{ty:TypeId}(hZ:ZOk σ k z l)(hY:ZOk σ k w m)(ho:o.op= .call {callee:= .builtin .append,args:= #[x,y],argTypes:= #[T,ty]})(hty:ty=T)(ht:X.P.underlying T=some (.slice E))(hs:szOf X.P E=some k.size)(hby:byOf X.P E=some nY)(hz:zeroOf X.P E=some zv)
    (hd:o.dst=some d) (hn:Nat.blt d X.n=true) (hsz:0<k.size) (hzs:zv.cells.size=k.size) (hx:ev e x=v) (hy:ev e y=u) (hsrc:s8_ σ F k.size k.en u w) (hb0:(l.length+m.length) * nY<=140737488355328) (qw:0<nY)
    (kk: ∀a c,ZOk σ k (z++w) (l++m)->K (upd e d (.slice a (l++m).length c)) σ (φ E k.size k.en (.slice a (l++m).length c) (z++w)::F)):OpOk X o e σ (φ E k.size k.en v z::F) K:=by
  have hA:=hZ.app hY
  refine OpOk.as_ ho hty ht hs hby hz hd hn hsz hzs hx hy hsrc (by rw [hZ.length,hY.length];exact hb0) qw λa c=> ?_
  have:=kk a c hA
  rw [<-hA.length]at this;exact this
theorem OpOk.litZ{T E size d q:Nat}{parts:Array (Nat×Operand)}{zv:Value}(hZ:ZOk σ k z l)(ho:o.op= .buildSlice T q parts)(ht:X.P.underlying T=some (.slice E))(hs:szOf X.P E=some size)(hk:k.size=size)(hz:zeroOf X.P E=some zv)
    (hd:o.dst=some d) (hn:Nat.blt d X.n=true) (hm:z.length=q) (h0:q * size≠0) (hbig:q * size<=16777216)
    (hx0:zv.cells.toList=k.en (k.d,k.dp)) (h00:0<size)
    (hf:Pe (λi=>some (i * size,size)) ((List.replicate q (k.d,k.dp)).flatMap k.en) (parts.toList.map λx=>(x.1,ev e x.2))=some (z.flatMap k.en)) (hmax:q<=281474976710656)
    (kk: ∀a c,K (upd e d (.slice a l.length c)) σ (φ E k.size k.en (.slice a l.length c) z::H)):OpOk X o e σ H K:=by
  subst hk
  refine OpOk.lit (enc:=k.en) z ho ht hs hz hd hn hm k.Y3 h0 hbig (k.d,k.dp) hx0 h00 hf hmax k.c8_ λa c=> ?_
  have:=kk a c
  rw [<-hZ.length]at this;exact this
end
theorem ZOk.isSl{α:Type}{σ:aj}{k:Pk α}{z:List (α×k.P)}{l:List α}{v:Value}(h:ZOk σ k z l)(hs:nb_ v z.length):nb_ v l.length:=h.length▸hs
end Go.E
end

noncomputable section
namespace Go.E
open Go
section
variable {P:Program} {n:Nat} {e:Env} {σ:aj} {H:List Res} {o:Oper} {x y z:Operand} {α:Type}
end
section
variable {X:Ctx} {e:Env} {σ:aj} {H F:List Res} {o:Oper} {x y z:Operand} {K:Env->aj->List Res->Prop} {α:Type}
theorem k9_{enc:α->List Value}{size:Nat}(hl: ∀x,(enc x).length=size): ∀(l:List α) (i:Nat),(l.take i).flatMap enc=(l.flatMap enc).take (i * size)
  |[],i=>by simp
  |u::l,0=>by simp
  |u::l,i+1=>by
    rw [List.take_succ_cons,List.flatMap_cons,List.flatMap_cons,k9_ hl l i]
    have h1:(i+1) * size=(enc u).length+i * size:=by rw [hl,Nat.add_mul];omega
    rw [h1,List.take_append,Nat.add_sub_cancel_left,List.take_of_length_le (Nat.le_add_right _ _)]
theorem OpOk.cutS{T E size d i:Nat}{k:IntKind}{enc:α->List Value}{a:Option Addr}{m c:Nat}{l:List α}(ho:o.op= .slice T x none (some z) none)(ht:X.P.underlying T=some (.slice E))(hs:szOf X.P E=some size)(hd:o.dst=some d)(hn:Nat.blt d X.n=true)(hx:ev e x= .slice a m c)(hm:l.length=m)(hz:ev e z= .int k (i:Nat))(hi:i<=l.length)(hl: ∀x,(enc x).length=size)
    (kk:K (upd e d (.slice a (l.take i).length c)) σ (φ E size enc (.slice a (l.take i).length c) (l.take i)::F)):OpOk X o e σ (φ E size enc (.slice a m c) l::F) K:=by
  subst hm
  intro u0 C0 τ0 w ac hw ha K' Q hK
  obtain ⟨hown,hone,hbg⟩:=hw.holds _ (jm ..)
  have hli:(l.take i).length=i:=by rw [List.length_take];omega
  rw [hli]at kk
  have hflat:(l.take i).flatMap enc=(l.flatMap enc).take (i * size):=k9_ hl l i
  have hone': ∀u∈(l.take i).flatMap enc,u.oneCell'=true:=λu hu=>hone u (by rw [hflat]at hu;exact List.mem_of_mem_take hu)
  have hsl:=isSl_row hown
  obtain ⟨a',c',hv,hnone,hcap⟩:=hsl
  cases hv
  have hsz:=zC (P:=X.P) hs
  have hrun:(Instr.slice T (.slice a l.length c) none (some (.int k i)) none).run X.P w= .ok (.slice a i c) w:=by
    cases a with
    |none=>
      obtain ⟨h1,h2⟩:=hnone rfl
      have:i=0:=by omega
      subst this;subst h2
      simp [Instr.slice,Instr.sliceBounds,Instr.sliceBound,asIntOf,run_underlying ht,hsz]
    |some ad=>
      have h2:(i:Int)<=(c:Int):=by omega
      simp [Instr.slice,Instr.sliceBounds,Instr.sliceBound,asIntOf,run_underlying ht,hsz,Addr.add]
      intro hlt;omega
  have hown':w.ownsRow 0 E size (.slice a i c) i ((l.take i).flatMap enc):=by
    refine ⟨by rw [um hl,hli],?_⟩
    rcases hown.2 with ⟨h1,h2⟩|⟨g,cap,cur,h1,h2,h3,h4,h5,h6,h7⟩
    · refine .inl ⟨?_,by omega⟩
      simp only [Value.slice.injEq]at h1 ⊢
      exact ⟨h1.1,by omega,h1.2.2⟩
    simp only [Value.slice.injEq]at h1
    refine .inr ⟨g,cap,cur,?_,h2,h3,by omega,h5,h6,?_⟩
    · simp only [Value.slice.injEq];exact ⟨h1.1,trivial,h1.2.2⟩
    rw [hflat,<-h7,List.take_take,Nat.min_eq_left (Nat.mul_le_mul_right _ hi)]
  have hR:Reach u0 C0 τ0 σ w (φ E size enc (.slice a i c) (l.take i)::F):=
    hw.G9 (Value.ownBlock (.slice a l.length c)) (Value.ownBlock (.slice a i c)) rfl rfl rfl rfl rfl (Nat.le_refl _) (Nat.le_refl _) (λ_ _ _=>rfl) ⟨by rw [hli];exact hown',hone',by rw [hli];omega⟩ (λq hq=> .inl (by cases a<;>exact hq))
  refine Oper.vZ (v:= .slice a i c) ?_ (hK _ _ _ _ _ kk hR (yh ha hd hn _))
  rw [ha.eval']
  simp [execOp,ho,hx,hz,Instr.sliceAt,run_underlying ht,hrun]
end
end Go.E
namespace Go.E
open Go
section
variable {α:Type} {σ:aj} {size m c:Nat} {enc:α->List Value} {a:Option Addr} {l:List α}
theorem nw_(hl: ∀x,(enc x).length=size): ∀(l:List α) (i:Nat),(l.drop i).flatMap enc=(l.flatMap enc).drop (i * size)
  |[],i=>by simp
  |u::l,0=>by simp
  |u::l,i+1=>by
    rw [List.drop_succ_cons,List.flatMap_cons,nw_ hl l i]
    have h1:(i+1) * size=(enc u).length+i * size:=by rw [hl,Nat.add_mul];omega
    rw [h1,List.drop_append,Nat.add_sub_cancel_left,List.drop_of_length_le (Nat.le_add_right _ _),List.nil_append]
theorem RS.subL(h:RS σ size enc (.slice a m c) l)(i:Nat)(hi:i<=l.length): ∃(a':Option Addr) (c':Nat),RS σ size enc (.slice a' (l.drop i).length c') (l.drop i)/\
    ∀{P:Program} {n:Nat} {e:Env} {H:List Res} {o:Oper} {x z:Operand} {T E:TypeId} {k:IntKind} (_:o.op= .slice T x (some z) none none) (_:P.underlying T=some (.slice E)) (_:szOf P E=some size) (_:ev e x= .slice a m c) (_:ev e z= .int k (i:Nat)),OpVal P n o e σ H (.slice a' (l.drop i).length c'):=by
  have hlj:(l.drop i).length=l.length - i:=by rw [List.length_drop]
  obtain ⟨a1,c1,hv,hn,hc⟩:=h.rv.sl
  cases hv
  rw [hlj]
  refine ⟨if c - i=0/\False then a else (if c=i then a else a.map (·.add (i * size))),c - i,⟨⟨⟨_,_,by rw [hlj],λha=> ?_,by omega⟩,by rw [um h.len],?_,λu hu=>h.rv.one u (by rw [nw_ h.len]at hu;exact List.mem_of_mem_drop hu),by have:=h.rv.big;omega⟩,h.len⟩,?_⟩
  · simp only [and_false,if_false]at ha
    split at ha
    · obtain ⟨h1,h2⟩:=hn ha;omega
    cases a with
    |none=>obtain ⟨h1,h2⟩:=hn rfl;omega
    |some ad=>simp at ha
  · intro ad m' c' hv j u hj
    simp only [and_false,if_false]at hv
    rw [nw_ h.len,List.getElem?_drop]at hj
    have hjl:=(List.getElem?_eq_some_iff.1 hj).1
    rw [um h.len]at hjl
    have hil:i<l.length:=by
      rcases Nat.lt_or_ge i l.length with h1|h1
      · exact h1
      have:=Nat.mul_le_mul_right size h1;omega
    have hci: ¬ c=i:=by omega
    rw [if_neg hci]at hv
    cases a with
    |none=>simp at hv
    |some a0=>
      simp only [Option.map_some,Value.slice.injEq,Option.some.injEq]at hv
      obtain ⟨rfl,_⟩:=hv
      rw [Z8]
      exact h.rv.cell a0 _ c rfl _ u hj
  intro P n e H o x z T E k ho hT hs hx hz w _
  have hsz:=zC (P:=P) hs
  have hrun:(Instr.slice T (.slice a l.length c) (some (.int k i)) none none).run P w= .ok (.slice (if c=i then a else a.map (·.add (i * size))) (l.length - i) (c - i)) w:=by
    simp [Instr.slice,Instr.sliceBounds,Instr.sliceBound,asIntOf,run_underlying hT,hsz]
    intro hlt;omega
  simp [execOp,ho,hx,hz,Instr.sliceAt,run_underlying hT,hrun]
end
end Go.E
end

noncomputable section
namespace Go.E
open Go
section
variable {X:Ctx} {ops:Array Oper} {Q:QP} {e:Env} {σ σr:aj} {H H' Hr F:List Res} {late:List Nat} {fuel:Nat} {listed:Array Bool} {c:Code} {l:List Oper}
theorem TC.by(h: ∀{u0 C0 τ0} w,Reach u0 C0 τ0 σ w H->Reach u0 C0 τ0 σ w H')(k:TC X Q c e σ H'):TC X Q c e σ H:=λw a hw ha=>k w a (hw.by h) ha
theorem TL.by(h: ∀{u0 C0 τ0} w,Reach u0 C0 τ0 σ w H->Reach u0 C0 τ0 σ w H')(k:TL X ops Q l e σ H'):TL X ops Q l e σ H:=λw a hw ha=>k w a (hw.by h) ha
theorem TA.by(h: ∀{u0 C0 τ0} w,Reach u0 C0 τ0 σ w H->Reach u0 C0 τ0 σ w H')(k:TA X ops Q σr Hr late fuel listed e σ H'):TA X ops Q σr Hr late fuel listed e σ H:=λhnd w a hw hS hc ha=>k hnd w a (hw.by h) hS hc ha
theorem TZ.by(h: ∀{u0 C0 τ0} w,Reach u0 C0 τ0 σ w H->Reach u0 C0 τ0 σ w H')(k:TZ X ops Q σr Hr late fuel listed e σ H'):TZ X ops Q σr Hr late fuel listed e σ H:=λhnd w a hw ha=>k hnd w a (hw.by h) ha
theorem TC.know{p:Prop}(h: ∀w,jR σ H w->p)(k:p->TC X Q c e σ H):TC X Q c e σ H:=λw a hw ha=>k (h w hw.sees) w a hw ha
theorem TL.know{p:Prop}(h: ∀w,jR σ H w->p)(k:p->TL X ops Q l e σ H):TL X ops Q l e σ H:=λw a hw ha=>k (h w hw.sees) w a hw ha
theorem TA.know{p:Prop}(h: ∀w,jR σ H w->p)(k:p->TA X ops Q σr Hr late fuel listed e σ H):TA X ops Q σr Hr late fuel listed e σ H:=λhnd w a hw hS hc ha=>k (h w hw.sees) hnd w a hw hS hc ha
theorem TC.ci_{p:aj->Prop}(h: ∀{u0 C0 τ0} w,Reach u0 C0 τ0 σ w H-> ∃σ',Reach u0 C0 τ0 σ' w H'/\σ.le σ'/\p σ')(k: ∀σ',σ.le σ'->p σ'->TC X Q c e σ' H'):TC X Q c e σ H:=λw a hw ha=>by
  obtain ⟨σ',h1,h2,h3⟩:=h w hw.self
  exact k σ' h2 h3 w a (hw.step h1 rfl) ha
theorem TL.ci_{p:aj->Prop}(h: ∀{u0 C0 τ0} w,Reach u0 C0 τ0 σ w H-> ∃σ',Reach u0 C0 τ0 σ' w H'/\σ.le σ'/\p σ')(k: ∀σ',σ.le σ'->p σ'->TL X ops Q l e σ' H'):TL X ops Q l e σ H:=λw a hw ha=>by
  obtain ⟨σ',h1,h2,h3⟩:=h w hw.self
  exact k σ' h2 h3 w a (hw.step h1 rfl) ha
theorem OpOk.by{o:Oper}{K:Env->aj->List Res->Prop}(h: ∀{u0 C0 τ0} w,Reach u0 C0 τ0 σ w H->Reach u0 C0 τ0 σ w H')(k:OpOk X o e σ H' K):OpOk X o e σ H K:=λu0 C0 τ0 w a hw ha=>k u0 C0 τ0 w a (h w hw) ha
theorem OpOk.then{o:Oper}{K K':Env->aj->List Res->Prop}(k:OpOk X o e σ H K')(h: ∀e' σ' G,K' e' σ' G-> ∃G',(∀{u0 C0 τ0} w,Reach u0 C0 τ0 σ' w G->Reach u0 C0 τ0 σ' w G')/\K e' σ' G'):OpOk X o e σ H K:=λu0 C0 τ0 w a hw ha K2 Q2 hK=>
  k u0 C0 τ0 w a hw ha K2 Q2 λe' σ' G a' w' hk hw' ha'=>by
    obtain ⟨G',h1,h2⟩:=h e' σ' G hk
    exact hK e' σ' G' a' w' h2 (h1 w' hw') ha'
end
theorem OpVal.seen{P:Program}{n:Nat}{o:Oper}{e:Env}{σ:aj}{H G:List Res}{v:Value}(h: ∀w,jR σ H w->jR σ G w)(k:OpVal P n o e σ G v):OpVal P n o e σ H v:=λw hw=>k w (h w hw)
section
variable {β:Type} {E' E size:Nat} {enc:β->List Value} {v:Value}
abbrev NP(β:Type):=List β×(Option Addr×Nat)
def pG(m:NP β):List Value:=[.slice m.2.1 m.1.length m.2.2]
theorem ke_(m:NP β):(pG m).length=1:=rfl
theorem qb_: ∀m:NP β, ∀u∈pG m,u.oneCell'=true:=λm u hu=>by simp [pG]at hu;subst hu;rfl
def Px(E size:Nat)(enc:β->List Value)(m:NP β):Res:=φ E size enc (.slice m.2.1 m.1.length m.2.2) m.1
def tN(E size:Nat)(enc:β->List Value)(z:List (NP β)):List Res:=z.map (Px E size enc)
def Res.nest(E' E size:Nat)(enc:β->List Value)(v:Value)(z:List (NP β)):Res:=Res.star (φ E' 1 pG v z::tN E size enc z)
def Res.ct_(E' E size:Nat)(enc:β->List Value)(v:Value)(z:List (NP β))(i:Nat):Res:=Res.star (φ E' 1 pG v z::(tN E size enc z).eraseIdx i)
def ou:NP β:=([],(none,0))
def Zn(z:List (NP β))(l:List (List β)):Prop:=z.map Prod.fst=l
theorem Zn.len{z:List (NP β)}{l:List (List β)}(h:Zn z l):z.length=l.length:=by rw [<-h,List.length_map]
theorem Zn.at{z:List (NP β)}{l:List (List β)}(h:Zn z l){i:Nat}(hi:i<l.length): ∃p:Option Addr×Nat,i<z.length/\nth z i ou=(nth l i [],p):=by
  have hz:i<z.length:=by rw [h.len];exact hi
  refine ⟨(nth z i ou).2,hz,?_⟩
  have h1:=getD_some z hz ou
  have h3:=getD_some l hi []
  rw [<-h,List.getElem?_map,h1]at h3
  simp only [Option.map_some,Option.some.injEq]at h3
  rw [<-h,<-h3]
theorem Zn.set{z:List (NP β)}{l:List (List β)}(h:Zn z l)(i:Nat)(x:List β)(p:Option Addr×Nat):Zn (z.set i (x,p)) (l.set i x):=by
  unfold Zn at *;rw [List.map_set,h]
theorem Zn.rep(n:Nat):Zn (List.replicate n (ou:NP β)) (List.replicate n []):=by simp [Zn,ou]
theorem Zn.nil:Zn ([]:List (NP β)) []:=rfl
theorem ri_{z:List (NP β)}{i:Nat}{m:NP β}(hi:i<z.length)(hm:nth z i ou=m):(tN E size enc z)[i]? =some (Px E size enc m):=by
  rw [tN,List.getElem?_map,getD_some z hi ou,hm];rfl
theorem rb_{σ:aj}{H:List Res}{q:Nat}{z:List (NP β)}(hq:H[q]? =some (Res.nest E' E size enc v z))(w:World)(h:jR σ H w):jR σ [φ E' 1 pG v z] w:=
  ⟨h.1,λr hr=>by
    simp at hr;subst hr
    exact h.2 _ (List.mem_of_getElem? hq) _ (jm ..)⟩
theorem iq_{σ:aj}{H:List Res}{q i:Nat}{z:List (NP β)}{l:List β}{p:Option Addr×Nat}(hq:H[q]? =some (Res.nest E' E size enc v z))(hi:i<z.length)(hm:nth z i ou=(l,p))(w:World)(h:jR σ H w):
    jR σ [φ E size enc (.slice p.1 l.length p.2) l] w:=
  ⟨h.1,λr hr=>by
    simp at hr;subst hr
    exact h.2 _ (List.mem_of_getElem? hq) _ (pF _ (List.mem_of_getElem? (ri_ hi hm)))⟩
theorem oj_{σ:aj}{H:List Res}{w:World}{l:List β}{u:Value}(h:jR σ [φ E size enc u l] w):nb_ u l.length/\l.length<=281474976710656:=by
  have h:=h.2 _ (List.mem_singleton.2 rfl)
  exact ⟨isSl_row h.1,h.2.2⟩
theorem nX{σ:aj}{H:List Res}{q:Nat}{z:List (NP β)}{l:List (List β)}(hq:H[q]? =some (Res.nest E' E size enc v z))(hZ:Zn z l)(w:World)(h:jR σ H w):nb_ v l.length/\l.length<=281474976710656:=by
  have:=oj_ (H:=H) (rb_ hq w h)
  rw [hZ.len]at this;exact this
theorem is_{σ:aj}{H:List Res}{q i:Nat}{z:List (NP β)}{l:List β}{p:Option Addr×Nat}(hq:H[q]? =some (Res.nest E' E size enc v z))(hi:i<z.length)(hm:nth z i ou=(l,p))(w:World)(h:jR σ H w):
    nb_ (.slice p.1 l.length p.2) l.length/\l.length<=281474976710656:=oj_ (H:=H) (iq_ hq hi hm w h)
section
variable {w0:World} {C:List Nat} {σ0 σ:aj} {w:World} {F:List Res} {z:List (NP β)}
theorem Reach.takeN{i:Nat}{l:List β}{p:Option Addr×Nat}(hi:i<z.length)(hm:nth z i ou=(l,p))(h:Reach w0 C σ0 σ w (Res.nest E' E size enc v z::F)):
    Reach w0 C σ0 σ w (φ E size enc (.slice p.1 l.length p.2) l::Res.ct_ E' E size enc v z i::F):=by
  have h1:=h.Vd
  have hg:=ri_ (E:=E) (size:=size) (enc:=enc) hi hm
  have hp:(Px E size enc (l,p)::(φ E' 1 pG v z::(tN E size enc z).eraseIdx i++F)).Perm (φ E' 1 pG v z::tN E size enc z++F):=by
    refine (List.Perm.swap _ _ _).trans (List.Perm.cons _ ?_)
    exact (Ny hg rfl).append_right F
  have h2:=h1.perm hp
  have h3:Reach w0 C σ0 σ w (([Px E size enc (l,p)]:List Res)++(φ E' 1 pG v z::(tN E size enc z).eraseIdx i++F)):=h2
  have h4:Reach w0 C σ0 σ w ((φ E' 1 pG v z::(tN E size enc z).eraseIdx i)++(Px E size enc (l,p)::F)):=h2.perm (by
    refine (List.perm_middle).trans ?_
    simp only [List.cons_append]
    exact List.Perm.refl _)
  have h5:=h4.star
  exact h5.perm (List.Perm.swap _ _ _)
theorem ro_{i:Nat}(hi:i<z.length)(m:NP β):(Px E size enc m::(tN E size enc z).eraseIdx i).Perm (tN E size enc (z.set i m)):=by
  refine Ny (i:=i) ?_ ?_
  · rw [tN,List.getElem?_map,List.getElem?_set];simp [hi]
  rw [tN,tN,List.map_set,List.eraseIdx_set_eq]
theorem xw_{i:Nat}{l l':List β}{p:Option Addr×Nat}(hi:i<z.length)(hm:nth z i ou=(l,p))(hl:l'.length=l.length):(z.set i (l',p)).flatMap pG=z.flatMap pG:=by
  have h1:=getD_some z hi ou
  rw [hm]at h1
  have h2:(z.set i (l',p)).map pG=z.map pG:=by
    rw [List.map_set]
    apply List.ext_getElem?
    intro j
    by_cases hj:i=j
    · subst hj
      rw [List.getElem?_set,List.getElem?_map,h1]
      simp [pG,hl,hi]
    rw [List.getElem?_set,if_neg hj]
  rw [List.flatMap_def,List.flatMap_def,h2]
theorem Reach.putN{i:Nat}{l l':List β}{p:Option Addr×Nat}(hi:i<z.length)(hm:nth z i ou=(l,p))(hl:l'.length=l.length)(h:Reach w0 C σ0 σ w (φ E size enc (.slice p.1 l.length p.2) l'::Res.ct_ E' E size enc v z i::F)):
    Reach w0 C σ0 σ w (Res.nest E' E size enc v (z.set i (l',p))::F):=by
  have h1:=(h.perm (List.Perm.swap _ _ _)).Vd
  refine Reach.star ?_
  have e:φ E' 1 pG v (z.set i (l',p))=φ E' 1 pG v z:=by
    unfold φ;rw [xw_ hi hm hl,gy]
  rw [e]
  refine h1.perm ?_
  rw [<-hl]
  refine List.Perm.trans ?_ (List.perm_middle.symm)
  simp only [List.cons_append]
  refine List.Perm.trans (List.Perm.cons _ (((ro_ hi (l',p)).symm).append_right F)) ?_
  exact List.Perm.swap _ _ _
theorem Reach.nils(n:Nat)(h:Reach w0 C σ0 σ w F):Reach w0 C σ0 σ w (tN E size enc (List.replicate n ou)++F):=by
  induction n with
  |zero=>exact h
  |succ n ih=>exact ih.nilRow E size
theorem Reach.toNest(n:Nat)(h:Reach w0 C σ0 σ w (φ E' 1 pG v (List.replicate n (ou:NP β))::F)):Reach w0 C σ0 σ w (Res.nest E' E size enc v (List.replicate n ou)::F):=by
  refine Reach.star ?_
  have:=h.nils (E:=E) (size:=size) (enc:=enc) n
  exact this.perm (by simp only [List.cons_append];exact List.perm_middle.symm)
theorem Reach.co_(hl: ∀x,(enc x).length=size): ∀(z:List (NP β)) {σ:aj},Reach w0 C σ0 σ w (tN E size enc z++F)-> ∃σ',Reach w0 C σ0 σ' w F/\σ.le σ'/\ ∀m∈z,RS σ' size enc (.slice m.2.1 m.1.length m.2.2) m.1
  |[],σ,h=>⟨σ,h,aj.le.refl _,by simp⟩
  |m::z,σ,h=>by
    obtain ⟨τ,h1,h2,h3⟩:=Reach.P9 (h:=h)
    obtain ⟨τ',k1,k2,k3⟩:=Reach.co_ hl z h1
    refine ⟨τ',k1,h2.trans k2,λu hu=> ?_⟩
    rcases List.mem_cons.1 hu with rfl|hu
    · exact RS.mono ⟨h3,hl⟩ k2
    exact k3 u hu
theorem Reach.bg_{l:List (List β)}(hl: ∀x,(enc x).length=size)(hZ:Zn z l)(h:Reach w0 C σ0 σ w (Res.nest E' E size enc v z::F)): ∃σ',Reach w0 C σ0 σ' w F/\σ.le σ'/\RZ σ' (aB size enc hl) v l:=by
  have h1:=h.Vd
  simp only [List.cons_append]at h1
  obtain ⟨τ,h2,h3,h4⟩:=Reach.P9 (h:=h1)
  obtain ⟨τ',k1,k2,k3⟩:=Reach.co_ hl z h2
  exact ⟨τ',k1,h3.trans k2,z,⟨hZ,k3⟩,RS.mono (σ:=τ) (enc:=pG) ⟨h4,ke_⟩ k2⟩
end
section
variable {X:Ctx} {e:Env} {σ:aj} {H F:List Res} {o:Oper} {x y:Operand} {K:Env->aj->List Res->Prop} {z:List (NP β)} {l:List (List β)}
theorem OpOk.mX{T E' E size nY d q:Nat}{enc:β->List Value}{kl kc:IntKind}{zv:Value}(ho:o.op= .makeSlice T x y)(ht:X.P.underlying T=some (.slice E'))(hs:szOf X.P E'=some 1)(hby:byOf X.P E'=some nY)(hz:zeroOf X.P E'=some zv)
    (hd:o.dst=some d) (hn:Nat.blt d X.n=true) (hx:ev e x= .int kl (q:Nat)) (hy:ev e y= .int kc (q:Nat)) (hb:nY * q<=281474976710656) (qw:0<nY)
    (hz0:zv.cells.toList=[.slice none 0 0]) (kk: ∀a c,Zn (List.replicate q (ou:NP β)) (List.replicate q [])->K (upd e d (.slice a (List.replicate q ([]:List β)).length c)) σ (Res.nest E' E size enc (.slice a (List.replicate q ([]:List β)).length c) (List.replicate q ou)::H)):OpOk X o e σ H K:=by
  refine OpOk.then (OpOk.pz (enc:=(pG:NP β->List Value)) (K:=λe' σ' G=> ∃a c,e'=upd e d (.slice a (List.replicate q ([]:List β)).length c)/\σ'=σ/\G=φ E' 1 pG (.slice a (List.replicate q ([]:List β)).length c) (List.replicate q (ou:NP β))::H) ou ho ht hs hby hz hd hn hx hy hb qw ke_ (by decide) hz0 qb_ λa c=>⟨a,c,by simp⟩) ?_
  rintro e' σ' G ⟨a,c,rfl,rfl,rfl⟩
  exact ⟨_,λw h=>h.toNest q,kk a c (Zn.rep q)⟩
theorem OpVal.Dt{P:Program}{n T q i:Nat}{lk:List β}{p:Option Addr×Nat}(ho:o.op= .load T x)(hA:aggOf P T=some false)(hx:ev e x=oN v (i * 1))(hq:H[q]? =some (Res.nest E' E size enc v z))(hi:i<z.length)(hm:nth z i ou=(lk,p)):
    OpVal P n o e σ H (.slice p.1 lk.length p.2):=by
  refine OpVal.seen (rb_ hq) (OpVal.og (q:=0) ou ho hA hx rfl ke_ hi ?_)
  rw [hm];rfl
theorem OpOk.NC{T i:Nat}{a:Option Addr}{m c:Nat}{u:Value}{l':List β}(ho:o.op= .store T x y)(hs:szOf X.P T=some 1)(hd:o.dst=none)(hx:ev e x=oN v (i * 1))(hv:ev e y=u)(hu:u= .slice a m c)(hm:l'.length=m)(hi:i<z.length)(hZ:Zn z l)
    (kk:Zn (z.set i (l',(a,c))) (l.set i l')->K e σ (Res.nest E' E size enc v (z.set i (l',(a,c)))::F)):OpOk X o e σ (φ E size enc (.slice a m c) l'::Res.ct_ E' E size enc v z i::F) K:=by
  subst hm hu
  refine OpOk.by (H':=φ E' 1 pG v z::((tN E size enc z).eraseIdx i++(Px E size enc (l',(a,c))::F))) (λw h=> ?_) ?_
  · have h1:=(h.perm (List.Perm.swap _ _ _)).Vd
    exact h1
  refine OpOk.then (OpOk.lG (enc:=(pG:NP β->List Value)) (K:=λe' σ' G=>e'=e/\σ'=σ/\G=φ E' 1 pG v (z.set i (l',(a,c)))::((tN E size enc z).eraseIdx i++(Px E size enc (l',(a,c))::F))) (l',(a,c)) ho hs hd hx hv rfl ke_ qb_ (by decide) hi ⟨rfl,rfl,rfl⟩) ?_
  rintro e' σ' G ⟨rfl,rfl,rfl⟩
  refine ⟨_,λw h=>Reach.star (h.perm ?_),kk (hZ.set i l' (a,c))⟩
  simp only [List.cons_append]
  refine List.Perm.cons _ ?_
  refine List.Perm.trans ((ro_ hi (l',(a,c))).symm.append_right F) ?_
  simp only [List.cons_append]
  exact List.perm_middle.symm
end
end
open Classical in
def allP{α β:Type}(S:α->Prop)(f:α->Option β):Option β:=if h: ∃r,(∃x,S x)/\ ∀x,S x->f x=some r then some h.choose else none
section
variable {S R E:Type}
def runL (step : S -> Option E -> Option (S ⊕ R)) : List E -> S -> Option R
  |[],s=>match step s none with
    |some (.inr r)=>some r
    |_=>none
  |x::q,s=>match step s (some x)with
    |some (.inl s')=>runL step q s'
    |some (.inr r)=>some r
    |none=>none
def runA(step:S->Option E->Option (S⊕R))(l:List E)(s:S):Option R:=allP (λq=>q.Perm l) (λq=>runL step q s)
structure RdA (step:S->Option E->Option (S⊕R)) (r:R) (l:List E) (z:S⊕R):Prop where
  next: ∀s',z= .inl s'->runA step l s'=some r
  done: ∀r',z= .inr r'->r'=r
def optE{α β:Type}(o:Option α)(t:Option β)(f:α->Option β):Option β:=match o with|none=>t|some x=>f x
@[simp]theorem optE_none{α β:Type}(t:Option β)(f:α->Option β):optE none t f=t:=rfl
@[simp]theorem optE_some{α β:Type}(x:α)(t:Option β)(f:α->Option β):optE (some x) t f=f x:=rfl
end
end Go.E
end

noncomputable section
namespace Go.E
open Go
structure FM (K V:Type) where
  f:K->Option V
  n:Nat
section
variable {K V:Type}
def FM.emp:FM K V:=⟨λ_=>none,0⟩
def FM.put [DecidableEq K](m:FM K V)(k:K)(v:V):FM K V:=⟨λx=>if x=k then some v else m.f x,if (m.f k).isSome then m.n else m.n+1⟩
def FM.get(m:FM K V)(k:K)(d:V):V:=(m.f k).getD d
def FM.has(m:FM K V)(k:K):Bool:=(m.f k).isSome
structure Rep (l:List (K×V)) (m:FM K V):Prop where
  mem: ∀k v,(k,v)∈l↔m.f k=some v
  len:l.length=m.n
  nodup:(l.map Prod.fst).Nodup
theorem Rep.emp:Rep ([]:List (K×V)) FM.emp:=⟨by simp [FM.emp],rfl,by simp⟩
theorem Rep.perm{l l':List (K×V)}{m:FM K V}(h:Rep l m)(hp:l'.Perm l):Rep l' m:=⟨λk v=>by rw [hp.mem_iff];exact h.mem k v,by rw [hp.length_eq];exact h.len,(hp.map _).nodup_iff.2 h.nodup⟩
theorem Rep.not{l:List (K×V)}{m:FM K V}(h:Rep l m){k:K}:k∉l.map Prod.fst↔m.f k=none:=by
  constructor
  · intro hn
    cases hk:m.f k with
    |none=>rfl
    |some v=>exact absurd (List.mem_map.2 ⟨_,(h.mem k v).2 hk,rfl⟩) hn
  intro hk hm
  obtain ⟨⟨k',v⟩,h1,rfl⟩:=List.mem_map.1 hm
  have:=(h.mem k' v).1 h1
  simp only at hk;rw [hk]at this;cases this
end
structure MapAt {K V:Type} (enc:K->Value) (encV:V->Value) (w:World) (b:Nat) (zs:List (MapEntry×(K×V))) (clock:Nat):Prop where
  at_: ∃es,w.heap[b]? =some (.map es clock)/\es.toList=zs.map Prod.fst
  key: ∀z∈zs,z.1.key=enc z.2.1
  val: ∀z∈zs,z.1.val=encV z.2.2
  born: ∀z∈zs,z.1.born<clock
  nodup:(zs.map (·.1.born)).Nodup
def ys_{K V:Type}(enc:K->Value)(encV:V->Value)(b:Nat)(m:FM K V)(w:World):Prop:= ∃zs clock,Rep (zs.map Prod.snd) m/\MapAt enc encV w b zs clock
theorem ys_.keep{K V:Type}{enc:K->Value}{encV:V->Value}{b:Nat}{m:FM K V}{w w':World}(h:ys_ enc encV b m w)(hb:w'.heap[b]? =w.heap[b]?):ys_ enc encV b m w':=by
  obtain ⟨zs,c,h1,⟨es,h2,h3⟩,h4,h5,h6,h7⟩:=h
  exact ⟨zs,c,h1,⟨es,by rw [hb];exact h2,h3⟩,h4,h5,h6,h7⟩
def Res.mapB{K V:Type}(enc:K->Value)(encV:V->Value)(b:Option Nat)(m:FM K V):Res where
  bl:=b.toList
  holds w:=(b=none->m=FM.emp)/\ ∀k,b=some k->ys_ enc encV k m w
  lt w k hk h:=by obtain ⟨_,_,_,⟨_,h,_⟩,_⟩:=h.2 k (Option.mem_toList.1 hk);exact (Array.getElem?_eq_some_iff.1 h).1
  keep w w' hb h:=⟨h.1,λk hk=>(h.2 k hk).keep (hb k (Option.mem_toList.2 hk))⟩
def Res.rngN{K V:Type}(it:Nat)(m:FM K V)(left:List (K×V))(last:Option (K×V)):Res where
  bl:=[it]
  holds w:=(m=FM.emp/\left=[]/\last=none)/\w.heap[it]? =some (.mapIter none 0 #[] 0)
  lt w k hk h:=by rw [List.mem_singleton.1 hk];exact (Array.getElem?_eq_some_iff.1 h.2).1
  keep w w' hb h:=⟨h.1,by rw [hb it (List.mem_singleton.2 rfl)];exact h.2⟩
def Res.rngS {K V : Type} (enc : K -> Value) (encV : V -> Value) (b it : Nat) (m : FM K V) (left : List (K × V)) (last : Option (K × V)) : Res where
  bl:=[b,it]
  holds w:=b≠it/\ ∃zs clock seen,Rep (zs.map Prod.snd) m/\MapAt enc encV w b zs clock/\w.heap[it]? =some (.mapIter (some b) clock seen clock)/\
    left.Perm ((zs.filter λz=> !seen.contains z.1.born).map Prod.snd)/\ ∀x,last=some x-> ∃z∈zs, ∃s:Array Nat,seen=s.push z.1.born/\z.2=x
  lt w k hk h:=by
    obtain ⟨_,zs,c,seen,_,⟨⟨_,h,_⟩,_⟩,h',_⟩:=h
    simp at hk
    rcases hk with rfl|rfl
    · exact (Array.getElem?_eq_some_iff.1 h).1
    exact (Array.getElem?_eq_some_iff.1 h').1
  keep w w' hb h:=by
    obtain ⟨hne,zs,c,seen,h1,⟨⟨es,h2,h3⟩,h4,h5,h6,h7⟩,h8,h9⟩:=h
    exact ⟨hne,zs,c,seen,h1,⟨⟨es,by rw [hb b (by simp)];exact h2,h3⟩,h4,h5,h6,h7⟩,by rw [hb it (by simp)];exact h8,h9⟩
def Res.rng{K V:Type}(enc:K->Value)(encV:V->Value)(b:Option Nat)(it:Nat)(m:FM K V)(left:List (K×V))(last:Option (K×V)):Res:=match b with
  |none=>Res.rngN it m left last
  |some b=>Res.rngS enc encV b it m left last
structure KeyL {K:Type} [DecidableEq K] (P:Program) (T:TypeId) (enc:K->Value):Prop where
  check: ∀x c w,(Instr.checkKey c 10000 T (enc x)).run P w= .ok () w
  find: ∀x (l:List K) (es:List MapEntry) w,es.map (·.key)=l.map enc-> ∃r,(Instr.findKey T (enc x) es).run P w= .ok r w/\
    (x∉l->r=none)/\(x∈l-> ∃i m,r=some (i,m.val)/\es[i]? =some m/\l[i]? =some x)
  stays: ∀x w,(Instr.keyThatStays (enc x) (enc x)).run P w= .ok (enc x) w
theorem n8_{K:Type}[DecidableEq K]{d:TypeDesc}{enc:K->Value}(h: ∀x y,Instr.sameNow d (enc x) (enc y)=some (decide (x=y)))(x:K): ∀(l:List K) (es:List MapEntry) (i:Nat),es.map (·.key)=l.map enc-> ∃r,Instr.findNow d (enc x) es i=some r/\
    (x∉l->r=none)/\(x∈l-> ∃j m,r=some (i+j,m.val)/\es[j]? =some m/\l[j]? =some x)
  |[],[],i,_=>⟨none,rfl,λ_=>rfl,λh=>by simp at h⟩
  |[],_::_,i,h=>by simp at h
  |_::_,[],i,h=>by simp at h
  | y :: l, m :: es, i, hk => by
    simp only [List.map_cons,List.cons.injEq]at hk
    obtain ⟨h1,h2⟩:=hk
    unfold Instr.findNow
    rw [h1,h]
    by_cases hxy:x=y
    · subst hxy
      simp only [decide_true]
      exact ⟨_,rfl,λh=>absurd (jm ..) h,λ_=>⟨0,m,rfl,rfl,rfl⟩⟩
    rw [decide_eq_false hxy]
    obtain ⟨r,h3,h4,h5⟩:=n8_ h x l es (i+1) h2
    refine ⟨r,h3,λhn=>h4 λhm=>hn (pF _ hm),λhm=> ?_⟩
    obtain ⟨j,m',e1,e2,e3⟩:=h5 ((List.mem_cons.1 hm).resolve_left hxy)
    exact ⟨j+1,m',by rw [e1];congr 2;omega,by simpa using e2,by simpa using e3⟩
theorem KeyL.now{K:Type}[DecidableEq K]{P:Program}{T:TypeId}{d:TypeDesc}{enc:K->Value}(hT:P.underlying T=some d)(h: ∀x y,Instr.sameNow d (enc x) (enc y)=some (decide (x=y)))(hc: ∀x c w,(Instr.checkKey c 10000 T (enc x)).run P w= .ok () w)(hs: ∀x,Instr.sameBits 10000 (enc x) (enc x)=true):KeyL P T enc where
  check:=hc
  find x l es w he:=by
    obtain ⟨r,h1,h2,h3⟩:=n8_ h x l es 0 he
    refine ⟨r,by simp [Instr.findKey,run_underlying hT,h1],h2,λhm=> ?_⟩
    obtain ⟨j,m,e1,e2⟩:=h3 hm
    exact ⟨j,m,by rw [e1,Nat.zero_add],e2⟩
  stays x w:=by simp [Instr.keyThatStays,hs]
def mg(x:List UInt8):Value:= .string (bs x)
theorem xa_(l m:List UInt8):(bs l == bs m)=decide (l=m):=by
  rw [Bool.eq_iff_iff,decide_eq_true_iff,MapKept.bytes_beq]
  exact ⟨bs_inj,λh=>by rw [h]⟩
theorem mr_{P:Program}{K:TypeId}(hK:P.underlying K=some .string)(d:Nat)(x:List UInt8)(c:Bool)(w:World):(Instr.checkKey c (d+1) K (mg x)).run P w= .ok () w:=by
  simp [Instr.checkKey,run_underlying hK,mg]
theorem m3_{P:Program}{T:TypeId}(hT:P.underlying T=some .string):KeyL P T mg:=
  KeyL.now hT (λx y=>by
    simp only [Instr.sameNow,mg,xa_]) (λx c w=>mr_ hT 9999 x c w) (λx=>by unfold mg;rw [Instr.sameBits,xa_];simp)
section
variable {X:Ctx} {e:Env} {σ:aj} {H F:List Res} {o:Oper} {x y z:Operand} {C:Env->aj->List Res->Prop} {K V:Type} {enc:K->Value} {encV:V->Value}
theorem OpOk.bv_{T d:Nat}(ho:o.op= .makeMap T none)(hd:o.dst=some d)(hn:Nat.blt d X.n=true)(k: ∀b,C (upd e d (.map (some b))) σ (Res.mapB enc encV (some b) FM.emp::H)):OpOk X o e σ H C:=by
  intro u0 C0 τ0 w a hw ha K' Q hK
  refine Oper.vZ (w':=w.alloc (.map #[] 0)) (v:= .map (some w.heap.size)) ?_ (hK _ _ _ _ _ (k w.heap.size) (hw.Y5 (some _) rfl rfl rfl rfl (by simp) (Nat.le_refl _) (λk hk=>gi_ w _ _ hk) ⟨λh=>(by cases h),λk hk=>by cases hk;exact ⟨[],0,Rep.emp,⟨#[],heap_alloc_new w _,rfl⟩,by simp,by simp,by simp,by simp⟩⟩ (λb hb=>by cases hb;exact Nat.le_refl _)) (yh ha hd hn _))
  simp [execOp,ho,Instr.makeMap]
theorem rn_{b i:Nat}{m:FM K V}{w:World}(hi:H[i]? =some (Res.mapB enc encV (some b) m))(hw:jR σ H w): ∃zs clock,Rep (zs.map Prod.snd) m/\MapAt enc encV w b zs clock:=(hw.2 _ (List.mem_of_getElem? hi)).2 b rfl
theorem up_{i:Nat}{m:FM K V}{w:World}(hi:H[i]? =some (Res.mapB enc encV none m))(hw:jR σ H w):m=FM.emp:=(hw.2 _ (List.mem_of_getElem? hi)).1 rfl
theorem MapAt.keys{b clock:Nat}{w:World}{zs:List (MapEntry×(K×V))}(h:MapAt enc encV w b zs clock):(zs.map Prod.fst).map (·.key)=((zs.map Prod.snd).map Prod.fst).map enc:=by
  rw [List.map_map,List.map_map,List.map_map]
  exact List.map_congr_left λz hz=>h.key z hz
theorem ui_ [DecidableEq K]{P:Program}{KT:Nat}{b:Nat}{m:FM K V}{w:World}{zs:List (MapEntry×(K×V))}{clock:Nat}(hR:Rep (zs.map Prod.snd) m)(hM:MapAt enc encV w b zs clock)(KL:KeyL P KT enc)(q:K){es:Array MapEntry}(he:es.toList=zs.map Prod.fst):
    (m.f q=none/\(Instr.findKey KT (enc q) es.toList).run P w= .ok none w)\/ ∃i z,m.f q=some z.2.2/\zs[i]? =some z/\z.2.1=q/\(Instr.findKey KT (enc q) es.toList).run P w= .ok (some (i,encV z.2.2)) w:=by
  obtain ⟨r,k1,k2,k3⟩:=KL.find q ((zs.map Prod.snd).map Prod.fst) es.toList w (by rw [he];exact hM.keys)
  by_cases hq:q∈(zs.map Prod.snd).map Prod.fst
  · obtain ⟨i,m',e1,e2,e3⟩:=k3 hq
    rw [e1]at k1
    rw [he,List.getElem?_map]at e2
    cases hz:zs[i]? with
    |none=>rw [hz]at e2;simp at e2
    |some z=>
      rw [hz]at e2
      simp only [Option.map_some,Option.some.injEq]at e2
      rw [List.getElem?_map,List.getElem?_map,hz]at e3
      simp only [Option.map_some,Option.some.injEq]at e3
      have hzm:=List.mem_of_getElem? hz
      refine .inr ⟨i,z,?_,hz,e3,?_⟩
      · rw [<-e3,<-hR.mem];exact List.mem_map.2 ⟨z,hzm,rfl⟩
      rw [k1,<-e2,hM.val z hzm]
  rw [k2 hq]at k1
  exact .inl ⟨hR.not.1 hq,k1⟩
theorem OpVal.lookB [DecidableEq K]{P:Program}{n T KT ET i:Nat}{b:Option Nat}{m:FM K V}{q:K}(d:V)(ho:o.op= .lookup T x y true)(ht:P.underlying T=some (.map KT ET))(hz:zeroOf P ET=some (encV d))(hx:ev e x= .map b)(hi:H[i]? =some (Res.mapB enc encV b m))(hy:ev e y=enc q)(KL:KeyL P KT enc):
    OpVal P n o e σ H (.tuple #[encV (m.get q d),.bool (m.has q)]):=λw hw=>by
  cases b with
  |none=>
    obtain rfl:=up_ hi hw
    obtain ⟨r,k1,k2,_⟩:=KL.find q [] [] w rfl
    rw [k2 (by simp)]at k1
    simp [execOp,ho,hx,hy,Instr.lookup,run_underlying ht,KL.check,k1,Va hz,FM.get,FM.has,FM.emp]
  |some b=>
    obtain ⟨zs,clock,hR,hM⟩:=rn_ hi hw
    obtain ⟨es,h1,h2⟩:=hM.at_
    have hg:(getObj b).run P w= .ok (.map es clock) w:=h2_ h1
    rcases ui_ hR hM KL q h2 with ⟨h3,h4⟩|⟨j,z,h3,_,_,h4⟩
    · simp [execOp,ho,hx,hy,Instr.lookup,run_underlying ht,hg,KL.check,h4,Va hz,FM.get,FM.has,h3]
    simp [execOp,ho,hx,hy,Instr.lookup,run_underlying ht,hg,KL.check,h4,FM.get,FM.has,h3]
theorem OpVal.lenB{P:Program}{n T KT ET i:Nat}{b:Option Nat}{m:FM K V}(ho:o.op= .call {callee:= .builtin .len,args:= #[x],argTypes:= #[T]})(ht:P.underlying T=some (.map KT ET))(hx:ev e x= .map b)(hi:H[i]? =some (Res.mapB enc encV b m)):
    OpVal P n o e σ H (.int .i64 (m.n:Nat)):=λw hw=>by
  cases b with
  |none=>
    obtain rfl:=up_ hi hw
    simp [execOp,ho,resolve,invoke,builtin,hx,Builtin.len_,run_underlying ht,goInt,FM.emp]
  |some b=>
    obtain ⟨zs,clock,hR,hM⟩:=rn_ hi hw
    obtain ⟨es,h1,h2⟩:=hM.at_
    have hl:es.size=m.n:=by have:=congrArg List.length h2;have h3:=hR.len;simp at this h3;omega
    have hg:(getObj b).run P w= .ok (.map es clock) w:=h2_ h1
    simp [execOp,ho,resolve,invoke,builtin,hx,Builtin.len_,run_underlying ht,hg,goInt,hl]
theorem OpOk.updB [DecidableEq K] {T KT ET : Nat} {b : Nat} {m : FM K V} (q : K) (v : V) (ho : o.op = .mapUpdate T x y z) (ht : X.P.underlying T = some (.map KT ET)) (hd : o.dst = none) (hx : ev e x = .map (some b)) (hy : ev e y = enc q) (hz : ev e z = encV v) (KL : KeyL X.P KT enc)
    (k:C e σ (Res.mapB enc encV (some b) (m.put q v)::F)):OpOk X o e σ (Res.mapB enc encV (some b) m::F) C:=by
  intro u0 C0 τ0 w a hw ha K' Q hK
  obtain ⟨zs,clock,hR,hM⟩:=(hw.holds _ (jm ..)).2 b rfl
  obtain ⟨es,h1,h2⟩:=hM.at_
  have hg:(getObj b).run X.P w= .ok (.map es clock) w:=h2_ h1
  have hblt:b<w.heap.size:=(Array.getElem?_eq_some_iff.1 h1).1
  have key: ∀es' clock' (zs':List (MapEntry×(K×V))),es'.toList=zs'.map Prod.fst->Rep (zs'.map Prod.snd) (m.put q v)->(∀z∈zs',z.1.key=enc z.2.1)->(∀z∈zs',z.1.val=encV z.2.2)->(∀z∈zs',z.1.born<clock')->(zs'.map (·.1.born)).Nodup->
      Reach u0 C0 τ0 σ {w with heap:=w.heap.setIfInBounds b (.map es' clock')} (Res.mapB enc encV (some b) (m.put q v)::F):=λes' clock' zs' g1 g2 g3 g4 g5 g6=>
    hw.G9 (some _) (some _) rfl rfl rfl rfl rfl (by simp) (Nat.le_refl _) (λk hk hne=>by
      have:b≠k:=λhx=>hne (by rw [hx])
      simp [Array.getElem?_setIfInBounds,this]) ⟨λh=>(by cases h),λk hk=>by cases hk;exact ⟨zs',clock',g2,⟨es',by simp [Array.getElem?_setIfInBounds,hblt],g1⟩,g3,g4,g5,g6⟩⟩ (λc hc=> .inl (by cases hc;rfl))
  rcases ui_ hR hM KL q h2 with ⟨h3,h4⟩|⟨j,u,h3,hj,hu,h4⟩
  · refine Oper.be_ (w':={w with heap:=w.heap.setIfInBounds b (.map (es.push {key:=enc q,val:=encV v,born:=clock}) (clock+1))}) ?_ (hK _ _ _ _ _ k (key _ _ (zs++[({key:=enc q,val:=encV v,born:=clock},(q,v))]) ?_ ?_ ?_ ?_ ?_ ?_) (m6_ ha hd _))
    · rw [ha.eval']
      simp [execOp,ho,hx,hy,hz,Instr.mapUpdate,run_underlying ht,hg,KL.check,h4,je_ _ h1]
    · simp [h2]
    · rw [List.map_append]
      refine ⟨λk' v'=> ?_,?_,?_⟩
      · have:=hR.mem k' v'
        simp only [FM.put,List.mem_append,this,List.map_cons,List.map_nil,yK,Prod.mk.injEq]
        by_cases hk:k'=q
        · subst hk;simp [h3];exact eq_comm
        simp [hk]
      · have:=hR.len
        simp only [gB,FM.put,h3,List.length_map,kD]at this ⊢
        simp;omega
      have:=hR.not.2 h3
      rw [List.map_append,List.nodup_append]
      refine ⟨hR.nodup,by simp,λa ha c hc=> ?_⟩
      simp at hc;subst hc;intro e;subst e;exact this ha
    · intro z hz
      rcases List.mem_append.1 hz with hz|hz
      · exact hM.key z hz
      simp at hz;subst hz;rfl
    · intro z hz
      rcases List.mem_append.1 hz with hz|hz
      · exact hM.val z hz
      simp at hz;subst hz;rfl
    · intro z hz
      rcases List.mem_append.1 hz with hz|hz
      · have:=hM.born z hz;omega
      simp at hz;subst hz;simp
    rw [List.map_append,List.nodup_append]
    refine ⟨hM.nodup,by simp,λa ha c hc=> ?_⟩
    simp at hc;subst hc
    obtain ⟨z,hz,rfl⟩:=List.mem_map.1 ha
    have:=hM.born z hz
    omega
  have hum:=List.mem_of_getElem? hj
  have hes:es[j]? =some u.1:=by
    rw [<-Array.getElem?_toList,h2,List.getElem?_map,hj];rfl
  have hlt:j<es.size:=(Array.getElem?_eq_some_iff.1 hes).1
  have huk:u.1.key=enc q:=by rw [hM.key u hum,hu]
  have hfst: ∀i z,(zs.modify j λp=>({p.1 with key:=enc q,val:=encV v},(q,v)))[i]? =some z-> ∃p,zs[i]? =some p/\((i=j/\z=({p.1 with key:=enc q,val:=encV v},(q,v)))\/(i≠j/\z=p)):=by
    intro i z hz
    rw [List.getElem?_modify]at hz
    cases hp:zs[i]? with
    |none=>rw [hp]at hz;simp at hz
    |some p=>
      rw [hp]at hz
      refine ⟨p,rfl,?_⟩
      by_cases hij:j=i
      · subst hij;simp at hz;exact .inl ⟨rfl,hz.symm⟩
      simp [hij]at hz;exact .inr ⟨λh=>hij h.symm,hz.symm⟩
  have hkeys:((zs.modify j λp=>({p.1 with key:=enc q,val:=encV v},(q,v))).map Prod.snd).map Prod.fst=(zs.map Prod.snd).map Prod.fst:=by
    apply List.ext_getElem?
    intro i
    simp only [List.getElem?_map,List.getElem?_modify]
    by_cases hij:j=i
    · subst hij;simp [hj,hu]
    simp [hij]
  refine Oper.be_ (w':={w with heap:=w.heap.setIfInBounds b (.map (es.modify j λm=>{m with key:=enc q,val:=encV v}) clock)}) ?_ (hK _ _ _ _ _ k (key _ _ (zs.modify j λp=>({p.1 with key:=enc q,val:=encV v},(q,v))) ?_ ?_ ?_ ?_ ?_ ?_) (m6_ ha hd _))
  · rw [ha.eval']
    simp [execOp,ho,hx,hy,hz,Instr.mapUpdate,run_underlying ht,hg,KL.check,h4,je_ _ h1,hes,huk,KL.stays]
  · apply List.ext_getElem?
    intro i
    rw [Array.getElem?_toList,Array.getElem?_modify,List.getElem?_map,List.getElem?_modify,<-Array.getElem?_toList,h2,List.getElem?_map]
    by_cases hij:j=i
    · subst hij;simp [hj]
    simp [hij]
  · refine ⟨λk' v'=> ?_,?_,by rw [hkeys];exact hR.nodup⟩
    · simp only [FM.put]
      have hin: ∀k' v',(k',v')∈(zs.modify j λp=>({p.1 with key:=enc q,val:=encV v},(q,v))).map Prod.snd->(k'=q/\v'=v)\/(k'≠q/\(k',v')∈zs.map Prod.snd):=by
        intro k' v' hm
        obtain ⟨z,hz,hzk⟩:=List.mem_map.1 hm
        obtain ⟨i,hi⟩:=List.mem_iff_getElem?.1 hz
        obtain ⟨p,hp,⟨_,rfl⟩|⟨hij,rfl⟩⟩:=hfst i z hi
        · simp at hzk;exact .inl ⟨hzk.1.symm,hzk.2.symm⟩
        refine .inr ⟨λhk=> ?_,List.mem_map.2 ⟨z,List.mem_of_getElem? hp,hzk⟩⟩
        have h5:((zs.map Prod.snd).map Prod.fst)[i]? =some q:=by simp [hp,hzk,hk]
        have h6:((zs.map Prod.snd).map Prod.fst)[j]? =some q:=by simp [hj,hu]
        obtain ⟨hi5,e5⟩:=List.getElem?_eq_some_iff.1 h5
        obtain ⟨hi6,e6⟩:=List.getElem?_eq_some_iff.1 h6
        exact hij ((List.nodup_iff_pairwise_ne.1 hR.nodup |> List.pairwise_iff_getElem.1) |> λhpw=>by
          rcases Nat.lt_trichotomy i j with h|h|h
          · exact absurd (e5.trans e6.symm) (hpw i j hi5 hi6 h)
          · exact h
          exact absurd (e6.trans e5.symm) (hpw j i hi6 hi5 h))
      have hout1:(q,v)∈(zs.modify j λp=>({p.1 with key:=enc q,val:=encV v},(q,v))).map Prod.snd:=
        List.mem_of_getElem? (i:=j) (by simp [List.getElem?_modify,hj])
      by_cases hk:k'=q
      · subst hk
        simp only [if_true,Option.some.injEq]
        constructor
        · intro hm
          rcases hin _ _ hm with h|h
          · exact h.2.symm
          exact absurd rfl h.1
        rintro rfl;exact hout1
      rw [if_neg hk,<-hR.mem]
      constructor
      · intro hm
        rcases hin _ _ hm with h|h
        · exact absurd h.1 hk
        exact h.2
      intro hm
      obtain ⟨z,hz,hzk⟩:=List.mem_map.1 hm
      obtain ⟨i,hi⟩:=List.mem_iff_getElem?.1 hz
      have hij:j≠i:=by
        rintro rfl
        rw [hj]at hi
        cases hi
        rw [hzk]at hu
        exact hk hu
      exact List.mem_of_getElem? (i:=i) (by simp [List.getElem?_modify,hij,hi,hzk])
    have:=hR.len
    simp only [FM.put,h3,Option.isSome_some,if_true,List.length_map,List.length_modify]at this ⊢
    exact this
  · intro z hz
    obtain ⟨i,hi⟩:=List.mem_iff_getElem?.1 hz
    obtain ⟨p,hp,⟨_,rfl⟩|⟨_,rfl⟩⟩:=hfst i z hi
    · rfl
    exact hM.key z (List.mem_of_getElem? hp)
  · intro z hz
    obtain ⟨i,hi⟩:=List.mem_iff_getElem?.1 hz
    obtain ⟨p,hp,⟨_,rfl⟩|⟨_,rfl⟩⟩:=hfst i z hi
    · rfl
    exact hM.val z (List.mem_of_getElem? hp)
  · intro z hz
    obtain ⟨i,hi⟩:=List.mem_iff_getElem?.1 hz
    obtain ⟨p,hp,⟨_,rfl⟩|⟨_,rfl⟩⟩:=hfst i z hi
    · exact hM.born p (List.mem_of_getElem? hp)
    exact hM.born z (List.mem_of_getElem? hp)
  have:(zs.modify j λp=>({p.1 with key:=enc q,val:=encV v},(q,v))).map (·.1.born)=zs.map (·.1.born):=by
    apply List.ext_getElem?
    intro i
    simp only [List.getElem?_map,List.getElem?_modify]
    by_cases hij:j=i
    · subst hij;simp [hj]
    simp [hij]
  rw [this];exact hM.nodup
end
abbrev FT:=Bool×TypeId×Nat
def fieldsB(P : Program)(T : TypeId) : List FT := (P.fieldsOf T).toList.map fun f => (f.name == "_", f.type, f.offset)
def EqAt(P:Program)(n:Nat)(T:TypeId)(u v:Value)(b:Bool):Prop:= ∀d w,(Op.equalIn (d+n) T u v).run P w= .ok b w
inductive EqC (P:Program) (n:Nat) (xs ys:Array Value):List FT->Bool->Prop
  |nil:EqC P n xs ys [] true
  |one {t o:Nat} {ts:List FT} {u v:Value} {b q:Bool} (hA:aggOf P t=some false) (hu:xs[o]? =some u) (hv:ys[o]? =some v) (he:EqAt P n t u v b) (k:EqC P n xs ys ts q):EqC P n xs ys ((false,t,o)::ts) (b && q)
  |agg {t o s:Nat} {ts:List FT} {us vs:Array Value} {b q:Bool} (hA:aggOf P t=some true) (hz:szOf P t=some s) (hu:xs.extract o (o+s)=us) (hv:ys.extract o (o+s)=vs) (he:EqAt P n t (.agg us) (.agg vs) b) (k:EqC P n xs ys ts q):EqC P n xs ys ((false,t,o)::ts) (b && q)
theorem EqAt.up{P:Program}{n m:Nat}{T:TypeId}{u v:Value}{b:Bool}(h:EqAt P n T u v b)(hm:n<=m):EqAt P m T u v b:=λd w=>by
  have:=h (d+(m - n)) w
  rwa [show d+(m - n)+n=d+m by omega]at this
theorem EqC.run{P : Program}{n : Nat}{xs ys : Array Value}{ts : List FT}{q : Bool}(h : EqC P n xs ys ts q) : ∀ (fs : List Field), (fs.map fun f => (f.name == "_", f.type, f.offset)) = ts → ∀ d w, (Op.eqFields (d + n) xs ys fs).run P w = .ok q w := by
  induction h with
  | nil => intro fs hf d w; have : fs = [] := by simpa using hf
           subst this;simp [Op.eqFields]
  | @one t o ts u v b q hA hu hv he k ih=>
    intro fs hf d w
    cases fs with
    |nil=>simp at hf
    |cons f fs=>
      simp only [List.map_cons,List.cons.injEq,Prod.mk.injEq]at hf
      obtain ⟨⟨h1,h2,h3⟩,h4⟩:=hf
      have h1 : f.name ≠ "_" := by simpa using h1
      simp only [Op.eqFields,h1,h2,h3,ne_eq,not_false_eq_true,if_true,Sem.run_bind,hm_ hA hu,hm_ hA hv,Result.andThen_ok,he d w]
      cases b
      · simp
      simp [ih fs h4 d w]
  | @agg t o s ts us vs b q hA hz hu hv he k ih=>
    intro fs hf d w
    cases fs with
    |nil=>simp at hf
    |cons f fs=>
      simp only [List.map_cons,List.cons.injEq,Prod.mk.injEq]at hf
      obtain ⟨⟨h1,h2,h3⟩,h4⟩:=hf
      have h1 : f.name ≠ "_" := by simpa using h1
      simp only [Op.eqFields,h1,h2,h3,ne_eq,not_false_eq_true,if_true,Sem.run_bind,mb_ hA hz,hu,hv,Result.andThen_ok,he d w]
      cases b
      · simp
      simp [ih fs h4 d w]
theorem EqAt.struct{P:Program}{n:Nat}{T:TypeId}{xs ys:Array Value}{ts:List FT}{q:Bool}(hu:P.underlying T=some (.struct (P.fieldsOf T)))(hp:P.stoodInHeld T=false)(hf:fieldsB P T=ts)(h:EqC P n xs ys ts q):EqAt P (n+1) T (.agg xs) (.agg ys) q:=λd w=>by
  rw [<-Nat.add_assoc,run_equalIn_struct w (d+n) T xs ys hu hp]
  exact h.run _ hf d w
theorem EqAt.of{P:Program}{n:Nat}{T:TypeId}{u v:Value}{b b':Bool}(h:EqAt P n T u v b)(e:b=b'):EqAt P n T u v b':=e▸h
theorem EqAt.int{P:Program}{T:TypeId}{k:IntKind}(hT:P.underlying T=some (.int k))(a b:Int):EqAt P 1 T (.int k a) (.int k b) (decide (a=b)):=λd w=>by
  rw [run_equalIn_int w d T k k a b hT];rfl
theorem EqAt.bool{P:Program}{T:TypeId}(hT:P.underlying T=some .bool)(a b:Bool):EqAt P 1 T (.bool a) (.bool b) (decide (a=b)):=λd w=>by
  rw [run_equalIn_bool w d T a b hT];cases a<;>cases b<;>rfl
theorem EqAt.str{P:Program}{T:TypeId}(hT:P.underlying T=some .string)(a b:List UInt8):EqAt P 1 T (.string (bs a)) (.string (bs b)) (decide (a=b)):=λd w=>by
  rw [run_equalIn_string w d T (bs a) (bs b) hT,xq_]
theorem EqAt.set{P:Program}{T E:TypeId}(hT:P.underlying T=some (.array 4 E))(hE:P.underlying E=some (.int .u64))(hA:aggOf P E=some false)(hz:szOf P E=some 1)(a b:BSet):EqAt P 2 T (.agg (setA a)) (.agg (setA b)) (decide (a=b)):=λd w=>by
  have h:=pf_ (P:=P) (k:= .u64) d hT hE hA hz (a.a:Nat) (a.b:Nat) (a.c:Nat) (a.d:Nat) (b.a:Nat) (b.b:Nat) (b.c:Nat) (b.d:Nat) w
  rw [show decide (a=b)=decide (((a.a:Nat):Int)=(b.a:Nat)/\((a.b:Nat):Int)=(b.b:Nat)/\((a.c:Nat):Int)=(b.c:Nat)/\((a.d:Nat):Int)=(b.d:Nat))from by rw [decide_eq_decide];exact BSet.eq_iff a b]
  exact h
section
variable {P:Program} {n m:Nat} {e:Env} {σ:aj} {H:List Res} {o:Oper} {x y:Operand} {T T':TypeId} {xs ys:Array Value} {p:Prop} [Decidable p]
theorem OpVal.eqlSt(ho:o.op= .binOp .eql T x y T')(hx:ev e x= .agg xs)(hy:ev e y= .agg ys)(hg:P.eqGuardType P.depth T=false)(h:EqAt P m T (.agg xs) (.agg ys) (decide p))(hm:Nat.ble m 10000=true):OpVal P n o e σ H (.bool (decide p)):=λw _=>by
  have hm:=Nat.le_of_ble_eq_true hm
  have h1:=h (10000 - m) w
  rw [Nat.sub_add_cancel hm]at h1
  simp only [execOp,ho,hx,hy,Sem.run_bind,run_eqGuard_agg _ _ _ _ _ _ _ hg,Result.andThen_ok]
  rw [hn_ (by simp) h1 rfl];rfl
theorem OpVal.neqSt(ho:o.op= .binOp .neq T x y T')(hx:ev e x= .agg xs)(hy:ev e y= .agg ys)(hg:P.eqGuardType P.depth T=false)(h:EqAt P m T (.agg xs) (.agg ys) (decide p))(hm:Nat.ble m 10000=true):OpVal P n o e σ H (.bool (decide (¬ p))):=λw _=>by
  have hm:=Nat.le_of_ble_eq_true hm
  have h1:=h (10000 - m) w
  rw [Nat.sub_add_cancel hm]at h1
  simp only [execOp,ho,hx,hy,Sem.run_bind,run_eqGuard_agg _ _ _ _ _ _ _ hg,Result.andThen_ok,decide_not]
  rw [mj_ (by simp) h1 rfl];rfl
end
def Jl(P:Program)(n:Nat)(T:TypeId)(v:Value):Prop:= ∀d c w,(Instr.checkKey c (d+n) T v).run P w= .ok () w
inductive CkC (P:Program) (n:Nat) (xs:Array Value):List FT->Prop
  |nil:CkC P n xs []
  |one {t o:Nat} {ts:List FT} {u:Value} (hA:aggOf P t=some false) (hu:xs[o]? =some u) (he:Jl P n t u) (k:CkC P n xs ts):CkC P n xs ((false,t,o)::ts)
  |agg {t o s:Nat} {ts:List FT} {us:Array Value} (hA:aggOf P t=some true) (hz:szOf P t=some s) (hu:xs.extract o (o+s)=us) (he:Jl P n t (.agg us)) (k:CkC P n xs ts):CkC P n xs ((false,t,o)::ts)
theorem Jl.up{P:Program}{n m:Nat}{T:TypeId}{u:Value}(h:Jl P n T u)(hm:n<=m):Jl P m T u:=λd c w=>by
  have:=h (d+(m - n)) c w
  rwa [show d+(m - n)+n=d+m by omega]at this
theorem Jl.int{P:Program}{T:TypeId}{k:IntKind}(hT:P.underlying T=some (.int k))(a:Int):Jl P 1 T (.int k a):=λd c w=>by simp [Instr.checkKey,run_underlying hT]
theorem j3_{P:Program}{α:Type}{w:World}(f:α->PUnit->Sem (ForInStep PUnit)): ∀(l:List α),(∀a∈l,(f a PUnit.unit).run P w= .ok (.yield PUnit.unit) w)->(forIn l PUnit.unit f).run P w= .ok PUnit.unit w
  |[],_=>by simp
  |a::l,h=>by
    rw [List.forIn_cons,Sem.run_bind,h a (jm ..),Result.andThen_ok]
    exact j3_ f l λb hb=>h b (pF _ hb)
theorem Jl.set{P:Program}{T E:TypeId}(hT:P.underlying T=some (.array 4 E))(hE:P.underlying E=some (.int .u64))(hA:aggOf P E=some false)(hz:szOf P E=some 1)(s:BSet):Jl P 2 T (.agg (setA s)):=λd c w=>by
  have h0: ∀a,(Instr.checkKey c (d+1) E (.int .u64 a)).run P w= .ok () w:=λa=>Jl.int hE a d c w
  rw [Instr.checkKey]
  simp only [Sem.run_bind,run_underlying hT,Result.andThen_ok,Std.Legacy.Range.forIn_eq_forIn_range',Std.Legacy.Range.size,Nat.sub_zero,Nat.add_sub_cancel,Nat.div_one]
  rw [j3_]
  · rfl
  intro i hi
  have hi4:i<4:=by
    have:=List.mem_range'.1 hi
    omega
  have hp:(part E (setA s) i).run P w= .ok (.int .u64 (s.word i:Nat)) w:=hm_ hA (t9_ s hi4) w
  simp only [Sem.run_bind,zC hz,Result.andThen_ok,Nat.mul_one,hp,h0,Sem.run_pure]
theorem CkC.all{P : Program}{n : Nat}{xs : Array Value}{ts : List FT}(h : CkC P n xs ts) : ∀ (fs : List Field), (fs.map fun f => (f.name == "_", f.type, f.offset)) = ts → ∀ f ∈ fs, f.name ≠ "_" ∧ ∃ v, (∀ w, (part f.type xs f.offset).run P w = .ok v w) ∧ Jl P n f.type v := by
  induction h with
  | nil => intro fs hf; have : fs = [] := by simpa using hf
           subst this;simp
  | @one t o ts u hA hu he k ih=>
    intro fs hf
    cases fs with
    |nil=>simp
    |cons f fs=>
      simp only [List.map_cons,List.cons.injEq,Prod.mk.injEq]at hf
      obtain ⟨⟨h1,h2,h3⟩,h4⟩:=hf
      intro g hg
      rcases List.mem_cons.1 hg with rfl|hg
      · exact ⟨by simpa using h1,u,λw=>by rw [h2,h3];exact hm_ hA hu w,by rw [h2];exact he⟩
      exact ih fs h4 g hg
  | @agg t o s ts us hA hz hu he k ih=>
    intro fs hf
    cases fs with
    |nil=>simp
    |cons f fs=>
      simp only [List.map_cons,List.cons.injEq,Prod.mk.injEq]at hf
      obtain ⟨⟨h1,h2,h3⟩,h4⟩:=hf
      intro g hg
      rcases List.mem_cons.1 hg with rfl|hg
      · exact ⟨by simpa using h1,_,λw=>by rw [h2,h3,mb_ hA hz,hu],by rw [h2];exact he⟩
      exact ih fs h4 g hg
def Bits(v:Value):Prop:= ∀n,Instr.sameBits n v v=true
theorem Bits.int(k:IntKind)(a:Int):Bits (.int k a):=λn=>by cases n<;>(rw [Instr.sameBits];simp)
section
variable {P:Program} {n:Nat} {e:Env} {σ:aj} {H:List Res} {o:Oper} {x y:Operand} {T T':TypeId} {a b:Nat}
theorem OpVal.neqU{k:IntKind}(ho:o.op= .binOp .neq T x y T')(hx:ev e x= .int k (a:Nat))(hy:ev e y= .int k (b:Nat)):OpVal P n o e σ H (.bool (decide (a≠b))):=by
  have:=OpVal.neq (P:=P) (n:=n) (σ:=σ) (H:=H) ho hx hy
  rwa [show decide ((a:Int)≠(b:Int))=decide (a≠b)from by rw [decide_eq_decide];omega]at this
theorem OpVal.lssU{k:IntKind}(ho:o.op= .binOp .lss T x y T')(hx:ev e x= .int k (a:Nat))(hy:ev e y= .int k (b:Nat)):OpVal P n o e σ H (.bool (decide (a<b))):=by
  have:=OpVal.lss (P:=P) (n:=n) (σ:=σ) (H:=H) ho hx hy
  rwa [show decide ((a:Int)<(b:Int))=decide (a<b)from by rw [decide_eq_decide];omega]at this
theorem OpVal.gtrU{k:IntKind}(ho:o.op= .binOp .gtr T x y T')(hx:ev e x= .int k (a:Nat))(hy:ev e y= .int k (b:Nat)):OpVal P n o e σ H (.bool (decide (b<a))):=by
  have:=OpVal.gtr (P:=P) (n:=n) (σ:=σ) (H:=H) ho hx hy
  rwa [show decide ((b:Int)<(a:Int))=decide (b<a)from by rw [decide_eq_decide];omega]at this
end
def encW(x:Nat):List Value:=[.int .u64 (x:Nat)]
theorem ts_(x:Nat):(encW x).length=1:=rfl
theorem t6_: ∀x, ∀u∈encW x,u.oneCell'=true:=λx u hu=>by simp [encW]at hu;subst hu;rfl
def Rdb(w:World)(v:Value)(xs:List Value):Prop:= ∀a m c,v= .slice (some a) m c-> ∀j u,xs[j]? =some u->w.cell? (a.add j)=some u
theorem rdb_row{α:Type}{σ:aj}{H:List Res}{E size q:Nat}{enc:α->List Value}{v:Value}{l:List α}{w:World}(hq:H[q]? =some (φ E size enc v l))(hw:jR σ H w):Rdb w v (l.flatMap enc):=by
  intro a m c hv j u hj
  have hown:=(hw.2 _ (List.mem_of_getElem? hq)).1
  subst hv
  obtain ⟨h1,h2⟩:=hown
  rcases h2 with ⟨h2,_⟩|⟨g,cap,cur,h2,_,hg,h3,h4,h5,h6⟩
  · cases h2
  cases h2
  rw [DJ]
  have hj2:=(List.getElem?_eq_some_iff.1 hj).1
  rw [<-h6,List.getElem?_take]at hj
  split at hj
  · simp only [World.cell?,hg,Option.isSome_none,Bool.false_eq_true,if_false,Nat.zero_add]
    rw [<-Array.getElem?_toList];exact hj
  cases hj
theorem OpVal.b9_{P:Program}{n:Nat}{e:Env}{σ:aj}{H:List Res}{o:Oper}{x:Operand}{S T E m c:Nat}{a:Option Addr}{l:List UInt8}(ho:o.op= .convert S T x)(hs:P.underlying S=some (.slice E))(he:P.underlying E=some (.int .u8))(ht:P.underlying T=some .string)
    (hx:ev e x= .slice a m c) (hl:nb_ (.slice a m c) l.length) (hr: ∀w,jR σ H w->Rdb w (.slice a m c) (l.flatMap kE)):OpVal P n o e σ H (.string (bs l)):=λw hw=>by
  obtain ⟨a',c',hv,hn,hc⟩:=hl
  cases hv
  cases a with
  |none=>
    obtain ⟨h1,_⟩:=hn rfl
    have hl0:l=[]:=o7 h1
    subst hl0
    have:=run_convert_bytes_nil (P:=P) w S E hs he 0 c T ht
    simp only [execOp,ho,hx]
    simp only [List.length_nil,Sem.run_bind,this,Result.andThen_ok,Sem.run_pure]
    rfl
  |some ad=>
    have hcell:=hr w hw ad _ c rfl
    have h1:(loadCells ad l.length).run P w= .ok ((l.map λb=>(b.toNat:Int)).map (Value.int .u8)).toArray w:=by
      have:=run_loadCells_list (P:=P) w ad ((l.map λb=>(b.toNat:Int)).map (Value.int .u8)) (λj v hj=>hcell j v (by rw [v0_];simpa using hj))
      simpa using this
    have h2:=run_convert_bytes_string (P:=P) w S T E (some ad) l.length c hs he ht
    have h3:=run_bytesToString (P:=P) w ad l.length c (l.map λb=>(b.toNat:Int)) h1
    have h4:(⟨(ByteArray.empty.data++(((l.map λb=>(b.toNat:Int)).map λn=>UInt8.ofNat n.toNat)).toArray)⟩:ByteArray)=bs l:=by
      simp [bs,ByteArray.empty,ByteArray.emptyWithCapacity,Function.comp_def]
      rfl
    rw [foldl_push_bytes,h4]at h3
    simp only [execOp,ho,hx,Sem.run_bind,h2,h3,Result.andThen_ok,Sem.run_pure]
theorem OpVal.cmpStr{P : Program}{n : Nat}{e : Env}{σ : aj}{H : List Res}{o : Oper}{x p q : Operand}{ts : Array TypeId}{J : FuncId}{fn : Func}{a b : List UInt8}(ho : o.op = .call { callee := .value x, args := #[p, q], argTypes := ts })(hx : ev e x = .func (.func J) #[] #[])(hf : P.funcs[J]? = some fn)(hname : (fn.name == "runtime.NumGoroutine") = false)
    (hb:fn.body.isNone=true) (hn:Extern.findNext fn=none) (he:Extern.find fn=some Extern.BytealgCompare.compare) (hp:ev e p= .string (bs a)) (hq:ev e q= .string (bs b)):OpVal P n o e σ H (.int .i64 (Lib.compareBytes a b)):=λw _=>by
  have h:=run_callFunc_extern hf hname hb hn he #[.string (bs a),.string (bs b)] w
  rw [Lib.run_compareString]at h
  simp [execOp,ho,resolve,Deferred.ofValue,invoke,hx,hp,hq,h,Result.andThen,Z_]
structure VwOk (v u:Value) (size k n:Nat):Prop where
  sl:nb_ u n
  el: ∀j,j<n->oN u (j * size)=oN v ((k+j) * size)
theorem VwOk.self{v:Value}{size n:Nat}(h:nb_ v n):VwOk v v size 0 n:=⟨h,λj _=>by rw [Nat.zero_add]⟩
theorem zv_{a:Option Addr}{m c size k:Nat}(h:nb_ (.slice a m c) m)(hk:k<=m): ∃(a':Option Addr) (c':Nat),VwOk (.slice a m c) (.slice a' (m - k) c') size k (m - k)/\
    ∀{P:Program} {n:Nat} {e:Env} {σ:aj} {H:List Res} {o:Oper} {x z:Operand} {T E:TypeId} {kk:IntKind} (_:o.op= .slice T x (some z) none none) (_:P.underlying T=some (.slice E)) (_:szOf P E=some size) (_:ev e x= .slice a m c) (_:ev e z= .int kk (k:Nat)),OpVal P n o e σ H (.slice a' (m - k) c'):=by
  obtain ⟨a1,c1,hv,hn,hc⟩:=h
  cases hv
  refine ⟨if c=k then a else a.map (·.add (k * size)),c - k,⟨⟨_,_,rfl,λha=> ?_,by omega⟩,λj hj=> ?_⟩,?_⟩
  · split at ha
    · obtain ⟨h1,h2⟩:=hn ha;omega
    cases a with
    |none=>obtain ⟨h1,h2⟩:=hn rfl;omega
    |some ad=>simp at ha
  · have hck: ¬ c=k:=by omega
    rw [if_neg hck]
    cases a with
    |none=>obtain ⟨h1,h2⟩:=hn rfl;omega
    |some ad=>simp only [oN,Option.map_some];rw [Z8,Nat.add_mul]
  intro P n e σ H o x z T E kk ho hT hs hx hz w _
  have hsz:=zC (P:=P) hs
  have hrun:(Instr.slice T (.slice a m c) (some (.int kk k)) none none).run P w= .ok (.slice (if c=k then a else a.map (·.add (k * size))) (m - k) (c - k)) w:=by
    simp [Instr.slice,Instr.sliceBounds,Instr.sliceBound,asIntOf,run_underlying hT,hsz]
    intro hlt;omega
  simp [execOp,ho,hx,hz,Instr.sliceAt,run_underlying hT,hrun]
theorem OpVal.elVw{P:Program}{n:Nat}{e:Env}{σ:aj}{H:List Res}{o:Oper}{v u:Value}{size k m j:Nat}(hv:VwOk v u size k m)(hj:j<m)(h:OpVal P n o e σ H (oN u (j * size))):OpVal P n o e σ H (oN v ((k+j) * size)):=hv.el j hj▸h
theorem oy_{α:Type}{enc:α->List Value}{size:Nat}{z:Value}(x0:α)(hz:z.cells.toList=enc x0)(hl: ∀x,(enc x).length=size)(m:Nat)(h0:0<size):(Builtin.zeroCells z.cells m).toList=(List.replicate m x0).flatMap enc:=by
  have:=ij_ z x0 hz m (by rw [hl];exact h0)
  rw [hl]at this
  rw [<-this]
  have hzs:z.cells.size=size:=by rw [<-Array.length_toList,hz,hl]
  simp [Builtin.zeroCells,madeCells,hzs]
theorem uz_{α:Type}{enc:α->List Value}{size:Nat}(hl: ∀x,(enc x).length=size)(l:List α)(k:Nat)(x0:α)(hk:k<=l.length):
    oP (l.flatMap enc) (k * size) ((List.replicate (l.length - k) x0).flatMap enc)=(l.take k++List.replicate (l.length - k) x0).flatMap enc:=by
  rw [List.flatMap_append,oP,k9_ hl]
  have h1:((List.replicate (l.length - k) x0).flatMap enc).length=(l.length - k) * size:=by rw [um hl,r_]
  rw [h1]
  have h2:(l.flatMap enc).length=l.length * size:=um hl l
  rw [List.drop_of_length_le (by rw [h2,<-Nat.add_mul];exact Nat.mul_le_mul_right _ (by omega)),List.append_nil]
theorem OpOk.c9_{X:Ctx}{e:Env}{σ:aj}{F:List Res}{o:Oper}{x:Operand}{K:Env->aj->List Res->Prop}{α:Type}{T E size k m':Nat}{enc:α->List Value}{zv v u:Value}{l:List α}(x0:α)(ho:o.op= .call {callee:= .builtin .clear,args:= #[x],argTypes:= #[T]})(ht:X.P.underlying T=some (.slice E))(hz:zeroOf X.P E=some zv)
    (hd:o.dst=none) (hx:ev e x=u) (hv:VwOk v u size k m') (hm:l.length - k=m') (hk:k<=l.length) (hl: ∀x,(enc x).length=size) (h0:0<size) (hz0:zv.cells.toList=enc x0) (h1: ∀x, ∀u∈enc x,u.oneCell'=true)
    (kk:K e σ (φ E size enc v (l.take k++List.replicate (l.length - k) x0)::F)):OpOk X o e σ (φ E size enc v l::F) K:=by
  subst hm
  intro u0 C0 τ0 w a hw ha K' Q hK
  obtain ⟨hown,hone,hbg⟩:=hw.holds _ (jm ..)
  have hlen:(l.take k++List.replicate (l.length - k) x0).length=l.length:=by simp;omega
  obtain ⟨a',c',rfl,hn,hc⟩:=hv.sl
  by_cases hkl:k=l.length
  · subst hkl
    have e1:l.take l.length++List.replicate (l.length - l.length) x0=l:=by simp
    rw [e1]at kk
    have hrun:(Builtin.clear_ #[T] o.type #[.slice a' (l.length - l.length) c']).run X.P w= .ok (.tuple #[]) w:=by
      rw [Nat.sub_self]
      cases a'<;>simp [Builtin.clear_,run_underlying ht]
    refine Oper.vZ (v:= .tuple #[]) (w':=w) ?_ (hK _ _ _ _ _ kk hw (by rw [hd];exact ⟨ha,rfl⟩))
    rw [ha.eval']
    rw [Nat.sub_self]at hrun
    simp [execOp,ho,resolve,invoke,builtin,hx,hrun]
  have hj:0<l.length - k:=by omega
  have hel:=hv.el 0 hj
  cases a' with
  |none=>obtain ⟨h2,_⟩:=hn rfl;omega
  |some ad=>
    rcases id hown.2 with ⟨hvn,hmn⟩|⟨g,cap,cur,rfl,_⟩
    · omega
    simp only [oN,Nat.zero_mul,Nat.add_zero]at hel
    have had:ad=⟨g,k * size,none⟩:=by
      have h3:(ad.add 0)=(⟨g,0,none⟩:Addr).add (k * size):=by injection hel with h;injection h
      rw [DJ]at h3
      simpa [Addr.add]using h3
    subst had
    have hzl:=oy_ (size:=size) x0 hz0 hl (l.length - k) h0
    obtain ⟨w',hst,hown',hgr,hdr⟩:=World.ownsRow.spliced X.P hown (k:=k * size) (vs:=(List.replicate (l.length - k) x0).flatMap enc) (by rw [um hl,um hl,r_,<-Nat.add_mul];exact Nat.mul_le_mul_right _ (by omega)) (λu hu=>by
      obtain ⟨q,_,hq⟩:=List.mem_flatMap.1 hu
      exact h1 q u hq)
    rw [uz_ hl l k x0 hk]at hown'
    have hrun:(Builtin.clear_ #[T] o.type #[.slice (some ⟨g,k * size,none⟩) (l.length - k) c']).run X.P w= .ok (.tuple #[]) w':=by
      have hne:l.length - k≠0:=by omega
      simp only [Builtin.clear_]
      simp [run_underlying ht,Va hz,hzl,hst]
    have hR:Reach u0 C0 τ0 σ w' (φ E size enc (.slice (some ⟨g,0,none⟩) l.length cap) (l.take k++List.replicate (l.length - k) x0)::F):=by
      refine hw.G9 (some g) (some g) rfl rfl hgr.os hgr.tape hgr.output hgr.size hdr (λq hq hne=>hgr.block q hq (λhx=>hne (by cases hx;rfl))) ?_ (λq hq=> .inl hq)
      show _/\_/\_
      rw [hlen]
      refine ⟨hown',λu hu=> ?_,hbg⟩
      obtain ⟨q,_,hq⟩:=List.mem_flatMap.1 hu
      exact h1 q u hq
    refine Oper.vZ (v:= .tuple #[]) (w':=w') ?_ (hK _ _ _ _ _ kk hR (by rw [hd];exact ⟨ha,rfl⟩))
    rw [ha.eval']
    simp [execOp,ho,resolve,invoke,builtin,hx,hrun]
theorem RS.cl_{α:Type}{τ:aj}{b k m E:Nat}{cs:Array Value}{enc:α->List Value}{l:List α}(h:τ b=some (.cells cs E (0,0)))(hl: ∀x,(enc x).length=1)(h1: ∀x, ∀u∈enc x,u.oneCell'=true)(hk:(cs.toList.drop k).take m=l.flatMap enc)(hm:l.length=m)(hb:Nat.ble l.length 281474976710656=true):RS τ 1 enc (.slice (some ⟨b,k,none⟩) m m) l:=by
  subst hm
  refine ⟨⟨⟨_,_,rfl,(λh=>by cases h),Nat.le_refl _⟩,um hl l,?_,λu hu=> ?_,Nat.le_of_ble_eq_true hb⟩,hl⟩
  · intro a m c hv j u hj
    cases hv
    rw [DJ]
    unfold aj.cell
    simp only [h,Option.isSome_none,Bool.false_eq_true,if_false]
    rw [<-hk,List.getElem?_take]at hj
    split at hj
    · rw [List.getElem?_drop,Array.getElem?_toList]at hj;exact hj
    cases hj
  obtain ⟨q,_,hq⟩:=List.mem_flatMap.1 hu
  exact h1 q u hq
theorem Con.lendC{P:Program}{f:FuncId}{args:Array Value}{σ:aj}{F:List Res}{r:Value}{b E:Nat}{cs:Array Value}
    (h: ∀τ,σ.le τ->τ b=some (.cells cs E (0,0))->Con P f args τ F (v8_ r τ F)):Con P f args σ (κ b cs E::F) (v8_ r σ (κ b cs E::F)):=by
  intro w hw
  have ho:w.heap[b]? =some (.cells cs E (0,0)):=hw.holds _ (jm ..)
  obtain ⟨h1,h2⟩:=hw.sealB (b:=b) rfl ho
  have h3:σ.with b (.cells cs E (0,0)) b=some (.cells cs E (0,0)):=by simp [aj.with]
  generalize σ.with b (.cells cs E (0,0))=τ at h1 h2 h3
  have h0:Reach w (iJ F) τ τ w F:=⟨rfl,rfl,rfl,Nat.le_refl _,λ_ _ _=>rfl,aj.le.refl _,h1.fit,λb o hb=> .inl hb,h1.holds,λr hr b hb=> .inl (yQ.2 ⟨r,hr,hb⟩),h1.nodup,h1.apart,Nat.le_refl _⟩
  refine (h τ h2 h3 w h0).mono λex w' ⟨r',σ',H',he,⟨e1,e2,e3⟩,k⟩=> ?_
  subst e1 e2 e3
  refine ⟨r',σ,_,he,⟨rfl,rfl,rfl⟩,?_⟩
  have hb:b<w.heap.size/\b∉iJ H':=by
    refine ⟨(Array.getElem?_eq_some_iff.1 ho).1,λhx=> ?_⟩
    have hnd:=hw.nodup
    simp only [iJ,List.flatMap_cons]at hnd
    exact (k4_.1 hnd).2.2 b (by simp [κ]) hx
  have hframe: ∀i,i<w.heap.size->i∉iJ H'->w'.heap[i]? =w.heap[i]? :=k.frame
  refine ⟨k.os,k.tape,k.output,k.size,?_,aj.le.refl _,λb o hs=>k.fit b o (h2 b o hs),λb o hs=> .inl hs,?_,?_,?_,?_,k.drawn⟩
  · intro i hi hn
    refine hframe i hi λhx=>hn ?_
    obtain ⟨r2,hr2,hb2⟩:=yQ.1 hx
    exact yQ.2 ⟨r2,pF _ hr2,hb2⟩
  · intro r2 hr2
    rcases List.mem_cons.1 hr2 with rfl|hr2
    · exact (κ b cs E).keep w w' (λc hc=>by rw [List.mem_singleton.1 hc];exact hframe b hb.1 hb.2) ho
    exact k.holds r2 hr2
  · intro r2 hr2 b hb2
    exact .inl (yQ.2 ⟨r2,hr2,hb2⟩)
  · exact hw.nodup
  intro r2 hr2 b hb2
  exact hw.apart r2 hr2 b hb2
theorem OpVal.cg_{P:Program}{n:Nat}{e:Env}{σ:aj}{H:List Res}{o:Oper}{x:Operand}{T E m b k s:Nat}(ho:o.op= .slice T x none none none)(ht:P.underlying T=some (.array m E))(hs:szOf P E=some s)(hx:ev e x=loc b k):OpVal P n o e σ H (.slice (some ⟨b,k,none⟩) m m):=λw _=>by
  have hsz:=zC (P:=P) hs
  simp [execOp,ho,hx,loc,Instr.sliceAt,Instr.sureAddr,run_underlying ht,Instr.slice,Instr.sliceBounds,Instr.sliceBound,hsz,Addr.add]
theorem qG{H B:List Res}(is:List Nat)(h:is.map (λi=>H[i]?)=B.map some){r:Res}(hr:r∈B):r∈H:=by
  have h1:some r∈B.map some:=List.mem_map.2 ⟨r,hr,rfl⟩
  rw [<-h]at h1
  obtain ⟨i,_,hi⟩:=List.mem_map.1 h1
  exact List.mem_of_getElem? hi
structure Tip where
  state:Int
  out:List UInt8
  deriving DecidableEq
def aK:Tip:=⟨0,[]⟩
def dJ(x:Tip):List Value:=[.int .i64 x.state,.string (bs x.out)]
theorem g_(x:Tip):(dJ x).length=2:=rfl
theorem PL: ∀x, ∀u∈dJ x,u.oneCell'=true:=λx u hu=>by
  simp [dJ]at hu
  rcases hu with rfl|rfl<;>rfl
structure Arc where
  frm:Int
  to:Int
  set:BSet
  out:List UInt8
  copy:Bool
  deriving DecidableEq
def bg:Arc:=⟨0,0,BSet.zero,[],false⟩
def kF(x:Arc):List Value:=[.int .i64 x.frm,.int .i64 x.to,.int .u64 ((x.set.a:Nat):Int),.int .u64 ((x.set.b:Nat):Int),.int .u64 ((x.set.c:Nat):Int),.int .u64 ((x.set.d:Nat):Int),.string (bs x.out),.bool x.copy]
theorem wB(x:Arc):(kF x).length=8:=rfl
theorem YN: ∀x, ∀u∈kF x,u.oneCell'=true:=λx u hu=>by
  simp [kF]at hu
  rcases hu with rfl|rfl|rfl|rfl|rfl|rfl|rfl|rfl<;>rfl
structure FPair where
  state:Int
  out:List UInt8
  deriving DecidableEq
def FPair.zero:FPair:=⟨0,[]⟩
structure Span where
  frm:Int
  to:Int
  deriving DecidableEq
def Span.zero:Span:=⟨0,0⟩
structure Fst where
  states:Int
  starts:List Tip
  ends:List Tip
  arcs:List Arc
  deriving DecidableEq
def Fst.zero:Fst:=⟨0,[],[],[]⟩
abbrev oU(x:Fst)(a1:Option Addr)(c1:Nat)(a2:Option Addr)(c2:Nat)(a3:Option Addr)(c3:Nat):Array Value:=#[.int .i64 x.states,.slice a1 x.starts.length c1,.slice a2 x.ends.length c2,.slice a3 x.arcs.length c3]
abbrev bT:Value:=.slice none 0 0
end Go.E
end

noncomputable section
namespace Go.Proofs.YtchebnpdnfhenaaGreatDoor
open Go Go.E Go.E.OpVal Go.E.OpOk Go.Proofs.Tryz
open List (replicate)
theorem kX:prog.underlying 22=some (.slice 76):=underlying22
theorem kK:prog.underlying 9=some .string:=underlying9
theorem qF:prog.underlying 23=some (.slice 66):=underlying23
theorem b_:prog.underlying 86=some (.slice 3):=underlying86
theorem fK:prog.underlying 30=some (.slice 9):=underlying30
theorem eU:prog.underlying 27=some (.slice 86):=underlying27
theorem lI:prog.underlying 28=some (.slice 30):=underlying28
theorem gI:prog.underlying 29=some (.slice 4):=underlying29
theorem Ho:prog.underlying 60=some (.slice 5):=underlying60
theorem FH:aggOf Tryz.prog 22=some false:=by kernel_rfl
theorem Nb:aggOf Tryz.prog 23=some false:=by kernel_rfl
theorem fJ:aggOf Tryz.prog 3=some false:=by kernel_rfl
theorem Jr:aggOf Tryz.prog 66=some true:=by kernel_rfl
theorem DU:aggOf Tryz.prog 76=some true:=by kernel_rfl
theorem iG:aggOf Tryz.prog 9=some false:=by kernel_rfl
theorem eg64:Tryz.prog.eqGuardType Tryz.prog.depth 64=false:=by kernel_rfl
theorem E5:foOf Tryz.prog 25 0=some 0:=by kernel_rfl
theorem Td:foOf Tryz.prog 25 1=some 1:=by kernel_rfl
theorem WI:foOf Tryz.prog 25 2=some 2:=by kernel_rfl
theorem Tf:foOf Tryz.prog 25 3=some 3:=by kernel_rfl
theorem PD:foOf Tryz.prog 66 0=some 0:=by kernel_rfl
theorem Ti:foOf Tryz.prog 66 1=some 1:=by kernel_rfl
theorem l5_:foOf Tryz.prog 66 2=some 2:=by kernel_rfl
theorem l8_:foOf Tryz.prog 66 3=some 6:=by kernel_rfl
theorem EZ:foOf Tryz.prog 76 0=some 0:=by kernel_rfl
theorem AQ:foOf Tryz.prog 76 1=some 1:=by kernel_rfl
theorem pf83:plainF Tryz.prog 83=true:=by kernel_rfl
theorem V8:plainF Tryz.prog 84=true:=by kernel_rfl
theorem nZ:szOf Tryz.prog 66=some 8:=by kernel_rfl
theorem jP:szOf Tryz.prog 76=some 2:=by kernel_rfl
theorem AO:zeroOf Tryz.prog 66=some (.agg #[.int .i64 0,.int .i64 0,.int .u64 0,.int .u64 0,.int .u64 0,.int .u64 0,.string ByteArray.empty,.bool false]):=by kernel_rfl
theorem vP:zeroOf Tryz.prog 76=some (.agg #[.int .i64 0,.string ByteArray.empty]):=by kernel_rfl
def Zy(x0:Int)(x1:Int):Option (Bool):=
 aN (decide (0<=x0)) (some (decide (x0<x1))) (some false)
theorem F6_{σ:aj}{x0:Int}{x1:Int}{r:Bool}(hh:Zy x0 x1=some r):
  Con prog 84 #[.int .i64 x0,.int .i64 x1] σ [] (jQ (.bool r) σ):=by
 dsimp only [Zy]at hh
 refine Con.mk (n:=12) Tryz.func84 z z z (λw0=> ?_)
 refine ψ (TL.j z z (ε (ψ (ξ z z (ω z (OpVal.leq z z z) (TL.j z z (TL.split 7 z (λfC=> ?_) (λfC=> ?_))))))))
 ·replace hh:=gZ fC hh
  replace fC:=jg fC
  refine Ψ z (dw (.inl z) z) (Ψ z (dw (.inl z) z) (Ψ z (OpVal.lss z z z) (ω z (dS z z z) (TL.j z z (ε (TC.ret ?_))))))
  obtain rfl:=so hh
  exact rq [4] ⟨z,z,z⟩
 replace hh:=gY fC hh
 replace fC:=jo fC
 refine π z (π z (π z (ω z (dV z z z) (TL.j z z (ε (TC.ret ?_))))))
 obtain rfl:=so hh
 exact rq [4] ⟨z,z,z⟩
def ZG(x0:List Tip)(x1:Int)(cZ:Nat):Option ((Nat)⊕(Bool)):=
 aN (decide ((cZ:Int)<((x0.length:Nat):Int))) (bnd (Zy ((nth x0 cZ aK).state) x1) (λv17=>aN (!v17) (fin (some false)) (aN (decide (1024<((((nth x0 cZ aK).out).length:Nat):Int))) (fin (some false)) (nxt (cZ+1))))) (fin (some true))
def Dt_(x0:List Tip)(x1:Int):Option (Bool):=
 aN (decide (1024<((x0.length:Nat):Int))) (some false) (bC (λq:Nat=>ZG x0 x1 q) 0)
theorem Gb_{σ:aj}{x0:List Tip}{aI:Option Addr}{aH:Nat}{x1:Int}(au:RS σ 2 dJ (.slice aI x0.length aH) x0){r:Bool}(hh:Dt_ x0 x1=some r):
  Con prog 83 #[.slice aI x0.length aH,.int .i64 x1] σ [] (jQ (.bool r) σ):=by
 dsimp only [Dt_]at hh
 have f0_0b:=au.rv.big
 refine Con.mk (n:=28) Tryz.func83 z z z (λw0=> ?_)
 refine ψ (TL.j z z (ε (ζ (ψ (Φ z z (ω z (lenC z kX z) (ω z (OpVal.gtr z z z) (ε (TC.cD z hh (λfC hh=> ?_) (λfC hh=> ?_))))))))))
 ·refine ψ (TL.j z z (ε (TC.ret (S.r ?_))))
  obtain rfl:=so hh
  exact rq [4] ⟨z,z,z⟩
 refine ι (S.n (ζ (ψ (Φ z z (ω z (lenC z kX z) (ξ z z (ε (υ (TC.ig (α:=(Nat)×(Unit)) (rgs [(4,1),(6,1),(12,16)]) (λg=>[(12,.int .i64 ((g.1:Nat):Int))]) (λg=>[]) (λg=>σ) (λg=>bC (λq:Nat=>ZG x0 x1 q) g.1=some r) (λg=>f_ (λq:Nat=>ZG x0 x1 q) g.1) (0,()) (Sub.pre 0 z) z (by repeat (first|exact trivial|refine ⟨z,?_⟩)) hh (λg1 j1 hg1=> ?_))))))))))
 obtain ⟨cZ,_⟩:=g1
 have hh:=hg1;clear hg1
 try dsimp only
 obtain ⟨z1,hh,hR1⟩:=gJ hh
 dsimp only [ZG]at hh
 refine ψ (ω z (OpVal.lss z z z) (ε (ζ (TC.cD z hh (λbW hh=> ?_) (λbW hh=> ?_)))))
 ·refine ι (S.n (ζ (υ (ψ (ω z (bU z kX jP z z au.rv.sl (by omega)) (ω z (Io aK z DU jP z au (by omega) (by omega)) (ν z (OpOk.alloc z vP z z (λyA=> ?_)))))))))
  refine ν z (storeAll z jP z z z z z z ?_)
  refine ε (ψ (ω z (aS z EZ z) (ω z (aZ z fJ z (i:=0) z z) (ξ z z ?_))))
  obtain ⟨v17,ZX,hh⟩:=dM hh
  refine ν z (jF (F6_ ZX) z z V8 z z z ?_)
  refine ω z (OpVal.not z z) (TL.j z z (TL.split 21 z (λdU=> ?_) (λdU=> ?_)))
  ·replace hh:=gZ dU hh
   refine π z (π z (π z (π z (ω z (dS z z z) (ε (TC.t z (ψ (TL.j z z (ε (TC.rt 0 (B.r (S.r (S.r ?_)))))))))))))
   replace hh:=dG hR1 hh
   refine B.r (S.r ?_)
   obtain rfl:=so hh
   exact rq [4] ⟨z,z,z⟩
  replace hh:=gY dU hh
  refine Ψ z (aS z AQ z) (Ψ z (aZ z iG z (i:=0) z z) (Ψ z (rY z kK z) (Ψ z (OpVal.gtr z z z) (ω z (dV z z z) (ε (TC.cD z hh (λl9 hh=> ?_) (λl9 hh=> ?_)))))))
  ·refine ψ (TL.j z z (ε (TC.rt 0 (B.r (S.r (S.r ?_))))))
   replace hh:=dG hR1 hh
   refine B.r (S.r ?_)
   obtain rfl:=so hh
   exact rq [4] ⟨z,z,z⟩
  refine ι (B.n (S.n (η (ω z (OpVal.succ z z z (by omega)) (ξ z z (ε ?_))))))
  obtain ⟨hh,Ep⟩:=dO hR1 hh
  exact lf ((cZ+1),()) Ep hh (Sub.pre 0 z)
 refine TC.exit (S.x (S.x ?_))
 replace hh:=dG hR1 hh
 refine Δ (S.n (ψ (TL.j z z (ε (TC.ret ?_)))))
 obtain rfl:=so hh
 exact rq [4] ⟨z,z,z⟩
def ZC(x0:Fst)(zX:Nat):Option ((Nat)⊕(Int)):=
 aN (decide ((zX:Int)<((x0.arcs.length:Nat):Int))) (bnd (Zy ((nth x0.arcs zX bg).frm) x0.states) (λv46=>aN (!v46) (fin (some 1)) (bnd (Zy ((nth x0.arcs zX bg).to) x0.states) (λv53=>aN (!v53) (fin (some 1)) (aN (decide ((nth x0.arcs zX bg).set=BSet.zero)) (fin (some 1)) (aN (decide (1024<((((nth x0.arcs zX bg).out).length:Nat):Int))) (fin (some 1)) (nxt (zX+1)))))))) (fin (some 0))
def ZA(x0:Fst):Option (Int):=
 aN (decide (x0.states<0)) (some 1) (aN (decide (1024<x0.states)) (some 1) (aN (decide (16384<((x0.arcs.length:Nat):Int))) (some 1) (bnd (Dt_ x0.starts x0.states) (λv22=>aN (!v22) (some 1) (bnd (Dt_ x0.ends x0.states) (λv29=>aN (!v29) (some 1) (bC (λq:Nat=>ZC x0 q) 0)))))))
theorem F8_{σ:aj}{x0:Fst}{aI:Option Addr}{aH:Nat}{aA:Option Addr}{aX:Nat}{aU:Option Addr}{ay:Nat}(au:RS σ 2 dJ (.slice aI x0.starts.length aH) x0.starts)(aY:RS σ 2 dJ (.slice aA x0.ends.length aX) x0.ends)(aV:RS σ 8 kF (.slice aU x0.arcs.length ay) x0.arcs){r:Int}(hh:ZA x0=some r):
  Con prog 43 #[.agg (oU x0 aI aH aA aX aU ay)] σ [] (jQ (.int .i64 r) σ):=by
 dsimp only [ZA]at hh
 have f0_0b:=au.rv.big
 have f0_1b:=aY.rv.big
 have f0_2b:=aV.rv.big
 refine Con.mk (n:=67) Tryz.func43 z z z (λw0=> ?_)
 refine ψ (ν z (boxA z z z z (λbG=> ?_)))
 refine ξ z z (ε (ζ (ψ (ω z (aS z E5 z) (ω z (aZ z fJ z (i:=0) z z) (ω z (OpVal.lss z z z) (TL.j z z (TL.split 8 z (λiI=> ?_) (λiI=> ?_)))))))))
 ·replace hh:=gZ iI hh
  replace iI:=jg iI
  refine π z (π z (π z (ω z (dS z z z) (TL.j z z (π z (π z (π z (π z (ω z (dS z z z) (ε (TC.t z (ψ (ξ z z (ε (TC.rt 0 ?_)))))))))))))))
  refine S.r ?_
  obtain rfl:=so hh
  exact rq [2] ⟨z,z,z⟩
 replace hh:=gY iI hh
 replace iI:=jo iI
 refine Ψ z (aS z E5 z) (Ψ z (aZ z fJ z (i:=0) z z) (Ψ z (OpVal.gtr z z z) (ω z (dV z z z) (TL.j z z (TL.split 13 z (λgX=> ?_) (λgX=> ?_))))))
 ·replace hh:=gZ gX hh
  replace gX:=jg gX
  refine π z (π z (π z (π z (ω z (dS z z z) (ε (TC.t z (ψ (ξ z z (ε (TC.rt 0 (S.r ?_)))))))))))
  obtain rfl:=so hh
  exact rq [2] ⟨z,z,z⟩
 replace hh:=gY gX hh
 replace gX:=jo gX
 refine Ψ z (aS z Tf z) (Ψ z (aZ z Nb z (i:=0) z z) (Ψ z (lenC z qF z) (Ψ z (OpVal.gtr z z z) (ω z (dV z z z) (ε (TC.cD z hh (λbW hh=> ?_) (λbW hh=> ?_)))))))
 ·refine ψ (ξ z z (ε (TC.rt 0 (S.r ?_))))
  obtain rfl:=so hh
  exact rq [2] ⟨z,z,z⟩
 refine ι (S.n (ζ (ψ (ω z (aS z Td z) (ω z (aZ z FH z (i:=0) z z) (ω z (aS z E5 z) (ω z (aZ z fJ z (i:=0) z z) ?_)))))))
 obtain ⟨v22,u22,hh⟩:=dM hh
 refine ν z (jF (Gb_ au u22) z z pf83 z z z ?_)
 refine ω z (OpVal.not z z) (TL.j z z (TL.split 25 z (λdN=> ?_) (λdN=> ?_)))
 ·replace hh:=gZ dN hh
  refine π z (π z (π z (π z (π z (π z (ω z (dS z z z) (ε (TC.t z (ψ (ξ z z (ε (TC.rt 0 (S.r ?_)))))))))))))
  obtain rfl:=so hh
  exact rq [2] ⟨z,z,z⟩
 replace hh:=gY dN hh
 refine Ψ z (aS z WI z) (Ψ z (aZ z FH z (i:=0) z z) (Ψ z (aS z E5 z) (Ψ z (aZ z fJ z (i:=0) z z) ?_)))
 obtain ⟨v29,u29,hh⟩:=dM hh
 refine TL.gon z z z z z (jF (Gb_ aY u29) z z pf83 z z z ?_)
 refine Ψ z (OpVal.not z z) (ω z (dV z z z) (ε (TC.cB z hh (λdP hh=> ?_) (λdP hh=> ?_))))
 ·refine ψ (ξ z z (ε (TC.rt 0 (S.r ?_))))
  obtain rfl:=so hh
  exact rq [2] ⟨z,z,z⟩
 refine ι (S.n (ζ (ψ (ω z (aS z Tf z) (ω z (aZ z Nb z (i:=0) z z) (ω z (lenC z qF z) (ξ z z (ε (υ (TC.ig (α:=(Nat)×(Unit)) (rgs [(2,1),(4,1),(36,31)]) (λg=>[(36,.int .i64 ((g.1:Nat):Int))]) (λg=>[κ bG (oU x0 aI aH aA aX aU ay) 25]) (λg=>σ) (λg=>bC (λq:Nat=>ZC x0 q) g.1=some r) (λg=>f_ (λq:Nat=>ZC x0 q) g.1) (0,()) (Sub.pre 1 z) z (by repeat (first|exact trivial|refine ⟨z,?_⟩)) hh (λg1 j1 hg1=> ?_)))))))))))
 obtain ⟨zX,_⟩:=g1
 have hh:=hg1;clear hg1
 try dsimp only
 obtain ⟨z1,hh,hR1⟩:=gJ hh
 dsimp only [ZC]at hh
 refine ψ (ω z (OpVal.lss z z z) (ε (ζ (TC.cD z hh (λLU hh=> ?_) (λLU hh=> ?_)))))
 ·refine ι (S.n (ζ (υ (ψ (ω z (bU z qF nZ z z aV.rv.sl (by omega)) (ω z (Io bg z Jr nZ z aV (by omega) (by omega)) (ν z (OpOk.alloc z AO z z (λqC=> ?_)))))))))
  refine ν z (storeAll z nZ z z z z z z ?_)
  refine ε (ψ (ω z (aS z PD z) (ω z (aZ z fJ z (i:=0) z z) (ω z (aS z E5 z) (ω z (aZ z fJ z (i:=1) z z) ?_)))))
  obtain ⟨v46,u46,hh⟩:=dM hh
  refine ν z (jF (F6_ u46) z z V8 z z z ?_)
  refine ω z (OpVal.not z z) (TL.j z z (TL.split 46 z (λjM=> ?_) (λjM=> ?_)))
  ·replace hh:=gZ jM hh
   refine π z (π z (π z (π z (π z (π z (ω z (dS z z z) (TL.j z z (π z (π z (π z (π z (ω z (dS z z z) (TL.j z z (π z (π z ?_)))))))))))))))
   refine π z (π z (ω z (dS z z z) (ε (TC.t z (ψ (ξ z z (ε (TC.rt 0 (B.r (S.r (S.r ?_)))))))))))
   replace hh:=dG hR1 hh
   refine B.r (S.r ?_)
   obtain rfl:=so hh
   exact rq [2] ⟨z,z,z⟩
  replace hh:=gY jM hh
  refine Ψ z (aS z Ti z) (Ψ z (aZ z fJ z (i:=0) z z) (Ψ z (aS z E5 z) (Ψ z (aZ z fJ z (i:=1) z z) ?_)))
  obtain ⟨v53,u53,hh⟩:=dM hh
  refine TL.gon z z z z z (jF (F6_ u53) z z V8 z z z ?_)
  refine Ψ z (OpVal.not z z) (ω z (dV z z z) (TL.j z z (TL.split 54 z (λrW=> ?_) (λrW=> ?_))))
  ·replace hh:=gZ rW hh
   refine π z (π z (π z (π z (ω z (dS z z z) (TL.j z z (π z (π z (π z (π z (ω z (dS z z z) (ε (TC.t z (ψ (ξ z z (ε ?_)))))))))))))))
   refine TC.rt 0 (B.r (S.r (S.r ?_)))
   replace hh:=dG hR1 hh
   refine B.r (S.r ?_)
   obtain rfl:=so hh
   exact rq [2] ⟨z,z,z⟩
  replace hh:=gY rW hh
  refine Ψ z (aS z l5_ z) (Ψ z (bj_ z MG Hw z (i:=0) z z z) (Ψ z (cy_ z underlying64 Na VA z) (Ψ z (eqlSet (s:=(nth x0.arcs zX bg).set) (t:=BSet.zero) z underlying64 underlying62 MH Na eg64 z z) (ω z (dV z z z) (TL.j z z (TL.split 60 z (λh116=> ?_) (λh116=> ?_)))))))
  ·replace hh:=gZ h116 hh
   replace h116:=jg h116
   refine π z (π z (π z (π z (ω z (dS z z z) (ε (TC.t z (ψ (ξ z z (ε (TC.rt 0 (B.r (S.r (S.r ?_)))))))))))))
   replace hh:=dG hR1 hh
   refine B.r (S.r ?_)
   obtain rfl:=so hh
   exact rq [2] ⟨z,z,z⟩
  replace hh:=gY h116 hh
  replace h116:=jo h116
  refine Ψ z (aS z l8_ z) (Ψ z (aZ z iG z (i:=0) z z) (Ψ z (rY z kK z) (Ψ z (OpVal.gtr z z z) (ω z (dV z z z) (ε (TC.cD z hh (λqy hh=> ?_) (λqy hh=> ?_)))))))
  ·refine ψ (ξ z z (ε (TC.rt 0 (B.r (S.r (S.r ?_))))))
   replace hh:=dG hR1 hh
   refine B.r (S.r ?_)
   obtain rfl:=so hh
   exact rq [2] ⟨z,z,z⟩
  refine ι (B.n (S.n (η (ω z (OpVal.succ z z z (by omega)) (ξ z z (ε ?_))))))
  obtain ⟨hh,X_⟩:=dO hR1 hh
  exact lf ((zX+1),()) X_ hh (Θ [1] 1)
 refine TC.exit (S.x (S.x ?_))
 replace hh:=dG hR1 hh
 refine Δ (S.n (ψ (ξ z z (ε (TC.rt 0 ?_)))))
 obtain rfl:=so hh
 exact rq [2] ⟨z,z,z⟩
end Go.Proofs.YtchebnpdnfhenaaGreatDoor
end
