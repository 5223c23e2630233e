/- Parts of a proof, one behind the other: what a machine reaches, functions decompiled, plain lemmas. Conditions stand with each lemma. -/
import Derived.Test.YtchebnpdnfhenaaGreatDoorB60195d3efe
import Derived.Test.YtchebnpdnfhenaaGreatDoorB382a0c1c0e
import Derived.Test.YtchebnpdnfhenaaGreatDoorBa5759567ef
import Derived.KernelRfl

set_option linter.unusedVariables false
set_option linter.unusedSimpArgs false
set_option linter.unusedSectionVars false
set_option maxRecDepth 100000
set_option maxHeartbeats 8000000
variable {σ:Go.E.Store}

noncomputable section
namespace Go.Proofs.YtchebnpdnfhenaaGreatDoor
open Go Go.E
def srt(t:Fst):Fst:=⟨t.states,onceL Tip.zero cmpTip t.starts,onceL Tip.zero cmpTip t.ends,onceL Arc.zero cmpArc t.arcs⟩
theorem sort_eq(t:Fst):Cl_ t=some (if fstB t=true then (srt t,0) else (⟨0,[],[],[]⟩,1)):=by
  unfold Cl_
  rw [E7_,bnd,Option.bind_some,errB_ne]
  by_cases h:fstB t=true
  · have ht:=(fstB_iff t).1 h
    have h1:=ht.startsN
    have h2:=ht.endsN
    have h3:=ht.arcsN
    rw [h,if_pos rfl,Bool.not_true,iteO_false]
    simp only [Gr_ (l:=t.starts) (by omega),Gr_ (l:=t.ends) (by omega),G8_ (l:=t.arcs) (by omega),bnd,Option.bind_some]
    rfl
  simp only [Bool.not_eq_true]at h
  rw [h];rfl
structure Alike (s t:Fst):Prop where
  states:s.states=t.states
  starts: ∀x,x∈s.starts↔x∈t.starts
  ends: ∀x,x∈s.ends↔x∈t.ends
  arcs: ∀x,x∈s.arcs↔x∈t.arcs
theorem srt_alike(t:Fst):Alike (srt t) t:=⟨rfl,fun _=>mem_onceL,fun _=>mem_onceL,fun _=>mem_onceL⟩
theorem srt_ok{t:Fst}(ht:FstOk t):FstOk (srt t) where
  st0:=ht.st0
  st1:=ht.st1
  arcsN:=Nat.le_trans (Ez_ _) ht.arcsN
  startsN:=Nat.le_trans (Ez_ _) ht.startsN
  endsN:=Nat.le_trans (Ez_ _) ht.endsN
  starts p hp:=ht.starts p (mem_onceL.1 hp)
  ends p hp:=ht.ends p (mem_onceL.1 hp)
  arcs a ha:=ht.arcs a (mem_onceL.1 ha)
structure Within (s t:Fst):Prop where
  starts: ∀x∈s.starts,x∈t.starts
  ends: ∀x∈s.ends,x∈t.ends
  arcs: ∀x∈s.arcs,x∈t.arcs
theorem Alike.within{s t:Fst}(h:Alike s t):Within s t:=⟨fun x=>(h.starts x).1,fun x=>(h.ends x).1,fun x=>(h.arcs x).1⟩
theorem Alike.symm{s t:Fst}(h:Alike s t):Alike t s:=⟨h.states.symm,fun x=>(h.starts x).symm,fun x=>(h.ends x).symm,fun x=>(h.arcs x).symm⟩
theorem Within.pairs{s t:Fst}(h:Within s t)(w:List UInt8): ∀p∈pairsL s w,p∈pairsL t w:=by
  induction w using rev_ind with
  |h0=>
    intro p hp
    obtain ⟨x,hx,rfl⟩:=List.mem_map.1 hp
    exact List.mem_map.2 ⟨x,h.starts x hx,rfl⟩
  |h1 w b ih=>
    intro q hq
    rw [pairsL_snoc,mem_aftP]at *
    obtain ⟨p,hp,a,ha,r⟩:=hq
    exact ⟨p,ih p hp,a,h.arcs a ha,r⟩
theorem mem_endT{t:Fst}{S:List FPair}{o:List UInt8}:o∈endT t S↔ ∃p∈S, ∃e∈t.ends,e.state=p.state∧o=p.out++e.out:=by
  simp only [endT,List.mem_flatMap,List.mem_map,List.mem_filter,decide_eq_true_eq]
  constructor
  · rintro ⟨p,hp,_,⟨e,⟨he,h1⟩,rfl⟩,h2⟩;exact ⟨p,hp,e,he,h1,h2.symm⟩
  rintro ⟨p,hp,e,he,h1,h2⟩;exact ⟨p,hp,_,⟨e,⟨he,h1⟩,rfl⟩,h2.symm⟩
theorem mem_outsL{t:Fst}{w o:List UInt8}:o∈outsL t w↔ ∃p∈pairsL t w, ∃e∈t.ends,e.state=p.state∧o=p.out++e.out:=by rw [outsL,mem_onceL,mem_endT]
theorem Within.outs{s t:Fst}(h:Within s t)(w:List UInt8): ∀o∈outsL s w,o∈outsL t w:=by
  intro o ho
  rw [mem_outsL]at *
  obtain ⟨p,hp,e,he,r⟩:=ho
  exact ⟨p,h.pairs w p hp,e,h.ends e he,r⟩
theorem outsL_rise(t:Fst)(w:List UInt8):(outsL t w).Pairwise fun x y=>Lib.compareBytes x y<0:=sorted_onceL cmpB_good _
theorem Alike.outs{s t:Fst}(h:Alike s t)(w:List UInt8):outsL s w=outsL t w:=rising_eq cmpB_good (outsL_rise s w) (outsL_rise t w) fun x=>⟨h.within.outs w x,h.symm.within.outs w x⟩
end Go.Proofs.YtchebnpdnfhenaaGreatDoor
end

noncomputable section
namespace Go.Proofs.YtchebnpdnfhenaaGreatDoor
open Go Go.E
end Go.Proofs.YtchebnpdnfhenaaGreatDoor
end

noncomputable section
namespace Go.Proofs.YtchebnpdnfhenaaGreatDoor
open Go Go.E
section
variable {α:Type} [DecidableEq α] {d:α} {cf:α→α→Int}
end
end Go.Proofs.YtchebnpdnfhenaaGreatDoor
end

noncomputable section
namespace Go.Proofs.YtchebnpdnfhenaaGreatDoor
open Go Go.E
end Go.Proofs.YtchebnpdnfhenaaGreatDoor
end

noncomputable section
namespace Go.Proofs.YtchebnpdnfhenaaGreatDoor
open Go Go.E
theorem short_eq{x:List UInt8}(h:x.length≤281474976710656):Dk_ x=some (if 4096<x.length then .inl 2 else .inr ()):=by
  unfold Dk_
  rw [grd_mk h]
  by_cases c:4096<x.length
  · rw [iteO_dt (by omega),if_pos c]
  rw [iteO_df (by omega),if_neg c]
def dupB:List Tip→Bool
  |a::b::l=>decide (a.state=b.state) || dupB (b::l)
  |_=>false
theorem dupB_iff: ∀l:List Tip,dupB l=true↔ ∃k,k+1<l.length∧(nth l k Tip.zero).state=(nth l (k+1) Tip.zero).state
  |[]=>by simp [dupB]
  |[a]=>by simp [dupB]
  | a :: b :: l => by
    rw [dupB,Bool.or_eq_true,decide_eq_true_eq,dupB_iff (b::l)]
    constructor
    · rintro (h|⟨k,h1,h2⟩)
      · exact ⟨0,by simp,h⟩
      exact ⟨k+1,by simpa using h1,h2⟩
    rintro ⟨k,h1,h2⟩
    cases k with
    |zero=>exact .inl h2
    |succ k=>exact .inr ⟨k,by simpa using h1,h2⟩
def cutT(n:Nat)(x:Tip):Tip:=⟨x.state,x.out.drop n⟩
def stripD(l:List Tip):Int⊕(List UInt8×List Tip):=
  let m:=onceL Tip.zero cmpTip l
  if dupB m=true then .inl 12 else
  let f:=lcpL (m.map Tip.out)
  if 4096<f.length then .inl 2 else
  if ∃x∈m,4096<(x.out.drop f.length).length then .inl 2 else .inr (f,m.map (cutT f.length))
theorem G2_{α β:Type}(f:α→α)(l:List α)(k:Nat)(hk:k<l.length)(d:α):((l.take k).map f++l.drop k).set k (f (nth l k d))=(l.take (k+1)).map f++l.drop (k+1):=by
  have h1:((l.take k).map f).length=k:=by rw [List.length_map,List.length_take];omega
  rw [List.set_append_right _ _ (by omega),h1,Nat.sub_self,drop_nth l hk d,List.set_cons_zero,take_snoc l hk d,List.map_append]
  simp
theorem nth_mid{α:Type}(f:α→α)(l:List α)(k:Nat)(hk:k<l.length)(d:α):nth ((l.take k).map f++l.drop k) k d=nth l k d:=by
  have h1:((l.take k).map f).length=k:=by rw [List.length_map,List.length_take];omega
  unfold nth
  rw [List.getD_eq_getElem?_getD,List.getElem?_append_right (by omega),h1,Nat.sub_self,drop_nth l hk d]
  simp [nth]
theorem nth_set_self{α:Type}(l:List α)(k:Nat)(hk:k<l.length)(x d:α):nth (l.set k x) k d=x:=by rw [nth_set,if_pos ⟨rfl,hk⟩]
theorem fill_take{α:Type}(l:List α)(k:Nat)(hk:k<l.length)(d z:α):(l.take k++List.replicate (l.length - k) z).set k (nth l k d)=l.take (k+1)++List.replicate (l.length - (k+1)) z:=by
  have h1:(l.take k).length=k:=by rw [List.length_take];omega
  rw [List.set_append_right _ _ (by omega),h1,Nat.sub_self,show l.length - k=(l.length - (k+1))+1 by omega,List.replicate_succ,List.set_cons_zero,take_snoc l hk d]
  simp
theorem strip_cut {m : List Tip} {f : List UInt8} (hf : ∀ x ∈ m, f.length ≤ x.out.length) (hb : ∀ x ∈ m, x.out.length ≤ 281474976710656) :
    iter (fun q:(List Tip)×Nat=>Bl_ m f q.1 q.2) (m,0)=some (if ∃x∈m,4096<(x.out.drop f.length).length then .inl 2 else .inr (f,m.map (cutT f.length))):=by
  obtain ⟨r,h1,h2⟩:=iter_up (step:=fun q:(List Tip)×Nat=>Bl_ m f q.1 q.2) (fun s k=>(s,k)) m.length (fun k s=>s=(m.take k).map (cutT f.length)++m.drop k∧ ∀x∈m.take k, ¬ 4096<(x.out.drop f.length).length)
    (fun r=>r=(if ∃x∈m,4096<(x.out.drop f.length).length then .inl 2 else .inr (f,m.map (cutT f.length))))
    (fun k s hk hI=>by
      obtain ⟨rfl,hI⟩:=hI
      have hl:k<((m.take k).map (cutT f.length)++m.drop k).length:=by
        rw [List.length_append,List.length_map,List.length_take,List.length_drop];omega
      have hm:nth m k Tip.zero∈m:=mem_at _ hk
      have hs:=hf _ hm
      have hbb:=hb _ hm
      have hst:Bl_ m f ((m.take k).map (cutT f.length)++m.drop k) k=some (if 4096<((nth m k Tip.zero).out.drop f.length).length then .inr (.inl 2) else .inl ((m.take (k+1)).map (cutT f.length)++m.drop (k+1),k+1)):=by
        unfold Bl_
        rw [iteO_dt (by omega),grd_mk hl,nth_mid (cutT f.length) m k hk,grd_mk ⟨hs,Nat.le_refl _⟩,grd_mk hl,grd_mk (by rw [List.length_set];exact hl),nth_set_self _ k hl]
        show bnd (Dk_ ((nth m k Tip.zero).out.drop f.length)) _=_
        rw [short_eq (by rw [List.length_drop];omega),bnd_mk]
        by_cases c:4096<((nth m k Tip.zero).out.drop f.length).length
        · rw [if_pos c,if_pos c];rfl
        rw [if_neg c,if_neg c]
        show nxt (_,_)=_
        rw [show (⟨(nth m k Tip.zero).state,(nth m k Tip.zero).out.drop f.length⟩:Tip)=cutT f.length (nth m k Tip.zero)from rfl,G2_ (β:=Tip) (cutT f.length) m k hk];rfl
      by_cases c:4096<((nth m k Tip.zero).out.drop f.length).length
      · rw [if_pos c]at hst
        exact .inr ⟨_,hst,by rw [if_pos ⟨_,hm,c⟩]⟩
      rw [if_neg c]at hst
      refine .inl ⟨_,hst,rfl,fun x hx=> ?_⟩
      rw [take_snoc m hk Tip.zero]at hx
      rcases List.mem_append.1 hx with hx|hx
      · exact hI x hx
      rw [List.mem_singleton.1 hx];exact c)
    (fun s hI=>by
      obtain ⟨rfl,hI⟩:=hI
      rw [List.take_length]at hI
      refine ⟨_,?_,rfl⟩
      rw [if_neg (by rintro ⟨x,h1,h2⟩;exact hI x h1 h2),List.take_length,List.drop_length,List.append_nil]
      show Bl_ m f _ m.length=_
      unfold Bl_
      rw [iteO_df (by omega)];rfl) (s0:=m) ⟨by simp,by simp⟩
  rw [←h2];exact h1
theorem strip_ok {l : List Tip} (hl : l.length ≤ 1000000) (hb : ∀ x ∈ l, x.out.length ≤ 281474976710656) : Ea_ l = some (stripD l) := by
  unfold Ea_
  have e0:compactT (sortL cmpTip l)=some (onceL Tip.zero cmpTip l):=by
    rw [Ge_,gC_eq Tip.zero (by rw [C6_];omega),C6_]
    rfl
  rw [e0,bnd_mk]
  have hm:(onceL Tip.zero cmpTip l).length≤l.length:=Ez_ ..
  have hbm: ∀x∈onceL Tip.zero cmpTip l,x.out.length≤281474976710656:=fun x hx=>hb x ((mem_onceL ..).1 hx)
  unfold stripD
  generalize onceL Tip.zero cmpTip l=m at hm hbm ⊢
  rw [grd_mk (by omega)]
  have hlast:A9_ m (m.map Tip.out) m.length=some (.inr (if 4096<(lcpL (m.map Tip.out)).length then .inl 2 else if ∃x∈m,4096<(x.out.drop (lcpL (m.map Tip.out)).length).length then .inl 2 else .inr (lcpL (m.map Tip.out),m.map (cutT (lcpL (m.map Tip.out)).length)))):=by
    have hbx: ∀x∈m.map Tip.out,x.length≤281474976710656:=fun x hx=>by
      obtain ⟨y,hy,rfl⟩:=List.mem_map.1 hx;exact hbm y hy
    have hfl:(lcpL (m.map Tip.out)).length≤281474976710656:=by
      cases h:m with
      |nil=>simp [lcpL]
      |cons x t=>
        have:lcpL ((x::t).map Tip.out) <+: x.out:=lcpL_pre (by simp)
        exact Nat.le_trans this.length_le (hbm x (by rw [h];exact List.mem_cons_self ..))
    unfold A9_
    rw [iteO_df (by omega),textLcp_eq hbx,bnd_mk,short_eq hfl,bnd_mk]
    by_cases c:4096<(lcpL (m.map Tip.out)).length
    · rw [if_pos c,if_pos c];rfl
    rw [if_neg c,if_neg c]
    show fin (iter _ (m,0))=_
    rw [strip_cut (fun x hx=>(lcpL_pre (List.mem_map.2 ⟨x,hx,rfl⟩)).length_le) hbm];rfl
  obtain ⟨r,h1,h2⟩:=iter_up (step:=fun q:(List (List UInt8))×Nat=>A9_ m q.1 q.2) (fun s k=>(s,k)) m.length (fun k s=>s=(m.map Tip.out).take k++List.replicate ((m.map Tip.out).length - k) []∧ ∀j,j+1<k+0∨j+1<k→(nth m j Tip.zero).state≠(nth m (j+1) Tip.zero).state)
    (fun r=>r=(if dupB m=true then .inl 12 else if 4096<(lcpL (m.map Tip.out)).length then .inl 2 else if ∃x∈m,4096<(x.out.drop (lcpL (m.map Tip.out)).length).length then .inl 2 else .inr (lcpL (m.map Tip.out),m.map (cutT (lcpL (m.map Tip.out)).length))))
    (fun k s hk hI=>by
      obtain ⟨rfl,hI⟩:=hI
      have hkm:k<(m.map Tip.out).length:=by rw [List.length_map];exact hk
      have hlen:k<((m.map Tip.out).take k++List.replicate ((m.map Tip.out).length - k) []).length:=by
        rw [List.length_append,List.length_take,List.length_replicate];omega
      have hnx:Dg_ k ((m.map Tip.out).take k++List.replicate ((m.map Tip.out).length - k) []) m=some (.inl ((m.map Tip.out).take (k+1)++List.replicate ((m.map Tip.out).length - (k+1)) [],k+1)):=by
        unfold Dg_
        rw [grd_mk hlen,←fill_take (m.map Tip.out) k hkm ([]:List UInt8) [],nth_map Tip.out m k Tip.zero [] hk];rfl
      by_cases c0:k=0
      · subst c0
        refine .inl ⟨_,?_,rfl,fun j hj=>by omega⟩
        show A9_ m _ 0=_
        unfold A9_
        rw [iteO_dt (by omega),iteO_df (by omega)];exact hnx
      obtain ⟨j,rfl⟩: ∃j,k=j+1:=⟨k - 1,by omega⟩
      have hw:IntKind.i64.wrap (((j+1:Nat):Int) - 1)=((j:Nat):Int):=by rw [show ((j+1:Nat):Int) - 1=(j:Int) by omega,wrap64_of (by omega) (by omega)]
      have hst:A9_ m ((m.map Tip.out).take (j+1)++List.replicate ((m.map Tip.out).length - (j+1)) []) (j+1)=if (nth m j Tip.zero).state=(nth m (j+1) Tip.zero).state then some (.inr (.inl 12)) else some (.inl ((m.map Tip.out).take (j+1+1)++List.replicate ((m.map Tip.out).length - (j+1+1)) [],j+1+1)):=by
        unfold A9_
        rw [iteO_dt (by omega),iteO_dt (by omega),hw,grd_mk ⟨by omega,by omega⟩,Int.toNat_natCast]
        by_cases c:(nth m j Tip.zero).state=(nth m (j+1) Tip.zero).state
        · rw [iteO_dt c,if_pos c];rfl
        rw [iteO_df c,if_neg c];exact hnx
      by_cases c:(nth m j Tip.zero).state=(nth m (j+1) Tip.zero).state
      · rw [if_pos c]at hst
        refine .inr ⟨_,hst,?_⟩
        rw [if_pos ((dupB_iff m).2 ⟨j,hk,c⟩)]
      rw [if_neg c]at hst
      refine .inl ⟨_,hst,rfl,fun i hi=> ?_⟩
      by_cases e:i=j
      · subst e;exact c
      exact hI i (by omega))
    (fun s hI=>by
      obtain ⟨rfl,hI⟩:=hI
      have hd: ¬ dupB m=true:=fun h=>by
        obtain ⟨j,h1,h2⟩:=(dupB_iff m).1 h
        exact hI j (.inr h1) h2
      refine ⟨_,?_,rfl⟩
      rw [if_neg hd]
      have e:(m.map Tip.out).take m.length++List.replicate ((m.map Tip.out).length - m.length) []=m.map Tip.out:=by
        rw [List.length_map,Nat.sub_self,List.replicate_zero,List.append_nil,show m.length=(m.map Tip.out).length by rw [List.length_map],List.take_length]
      show A9_ m _ m.length=_
      rw [e];exact hlast) (s0:=List.replicate m.length []) ⟨by simp,fun j hj=>by omega⟩
  rw [←h2];exact h1
end Go.Proofs.YtchebnpdnfhenaaGreatDoor
end

noncomputable section
namespace Go.Proofs.YtchebnpdnfhenaaGreatDoor
open Go Go.E
end Go.Proofs.YtchebnpdnfhenaaGreatDoor
end

noncomputable section
namespace Go.Proofs.YtchebnpdnfhenaaGreatDoor
open Go Go.E Go.E.OpVal Go.E.OpOk
end Go.Proofs.YtchebnpdnfhenaaGreatDoor
end

noncomputable section
namespace Go.Proofs.YtchebnpdnfhenaaGreatDoor
open Go Go.E
theorem cmpB_pre: ∀p a b:List UInt8,Lib.compareBytes (p++a) (p++b)=Lib.compareBytes a b
  |[],_,_=>rfl
  |x::p,a,b=>by
    simp only [List.cons_append,Lib.compareBytes,UInt8.lt_irrefl,if_false]
    exact cmpB_pre p a b
theorem cut_cmp{f:List UInt8}{x y:Tip}(hx:f <+: x.out)(hy:f <+: y.out):cmpTip (cutT f.length x) (cutT f.length y)=cmpTip x y:=by
  obtain ⟨a,ha⟩:=hx
  obtain ⟨b,hb⟩:=hy
  unfold cmpTip cutT
  simp only [←ha,←hb,List.drop_left,cmpB_pre]
theorem once_cut{l:List Tip}{f:List UInt8}(hf: ∀x∈l,f <+: x.out):onceL Tip.zero cmpTip (l.map (cutT f.length))=(onceL Tip.zero cmpTip l).map (cutT f.length):=by
  refine rising_eq cmpTip_good (sorted_onceL cmpTip_good _) ?_ fun x=> ?_
  · rw [List.pairwise_map]
    refine (sorted_onceL cmpTip_good l).imp_of_mem fun {a b} ha hb h=> ?_
    rw [cut_cmp (hf a ((mem_onceL ..).1 ha)) (hf b ((mem_onceL ..).1 hb))];exact h
  rw [mem_onceL]
  simp only [List.mem_map]
  exact ⟨fun ⟨y,h1,h2⟩=>⟨y,(mem_onceL ..).2 h1,h2⟩,fun ⟨y,h1,h2⟩=>⟨y,(mem_onceL ..).1 h1,h2⟩⟩
theorem lcp_once(l:List Tip):lcpL ((onceL Tip.zero cmpTip l).map Tip.out)=lcpL (l.map Tip.out):=lcpL_congr fun x=>by
  simp only [List.mem_map]
  exact ⟨fun ⟨y,h1,h2⟩=>⟨y,(mem_onceL ..).1 h1,h2⟩,fun ⟨y,h1,h2⟩=>⟨y,(mem_onceL ..).2 h1,h2⟩⟩
theorem stripD_def(l:List Tip):stripD l=if dupB (onceL Tip.zero cmpTip l)=true then .inl 12 else if 4096<(lcpL (l.map Tip.out)).length then .inl 2 else
    if ∃x∈onceL Tip.zero cmpTip l,4096<(x.out.drop (lcpL (l.map Tip.out)).length).length then .inl 2 else .inr (lcpL (l.map Tip.out),(onceL Tip.zero cmpTip l).map (cutT (lcpL (l.map Tip.out)).length)):=by
  rw [←lcp_once l];rfl
end Go.Proofs.YtchebnpdnfhenaaGreatDoor
end

noncomputable section
namespace Go.Proofs.YtchebnpdnfhenaaGreatDoor
open Go Go.E
def valD(l:List UInt8):Nat:=l.foldl (fun v d=>v * 10+(d.toNat - 48)) 0
theorem valD_snoc(l:List UInt8)(d:UInt8):valD (l++[d])=valD l * 10+(d.toNat - 48):=by simp [valD]
theorem digit_nat{k:Nat}(h:k<10):(UInt8.ofNat (48+k)).toNat=48+k:=by
  rw [UInt8.toNat_ofNat'];omega
theorem dec_val(u:Nat):valD (Lib.decDigits u)=u:=by
  induction u using Nat.strongRecOn with
  |ind u ih=>
    rw [Lib.decDigits]
    split
    · rename_i h
      show 0 * 10+((UInt8.ofNat (48+u)).toNat - 48)=u
      rw [digit_nat h];omega
    rename_i h
    rw [valD_snoc,ih (u / 10) (by omega),digit_nat (by omega)];omega
theorem dec_not(u:Nat): ∀c∈Lib.decDigits u,c≠58:=by
  induction u using Nat.strongRecOn with
  |ind u ih=>
    rw [Lib.decDigits]
    have hd: ∀k,k<10→UInt8.ofNat (48+k)≠58:=fun k hk e=>by
      have:=congrArg UInt8.toNat e
      rw [digit_nat hk]at this
      have h2:(58:UInt8).toNat=58:=rfl
      omega
    split
    · rename_i h
      intro c hc
      rw [List.mem_singleton.1 hc];exact hd u h
    rename_i h
    intro c hc
    rcases List.mem_append.1 hc with hc|hc
    · exact ih (u / 10) (by omega) c hc
    rw [List.mem_singleton.1 hc];exact hd _ (by omega)
theorem split58: ∀{a b x y:List UInt8},(∀c∈a,c≠58)→(∀c∈b,c≠58)→a++58::x=b++58::y→a=b∧x=y
  |[],[],x,y,_,_,h=>by simp at h;exact ⟨rfl,h⟩
  |[],d::b,x,y,_,hb,h=>by
    simp only [List.nil_append,List.cons_append,List.cons.injEq]at h
    exact absurd h.1.symm (hb d (List.mem_cons_self ..))
  |d::a,[],x,y,ha,_,h=>by
    simp only [List.nil_append,List.cons_append,List.cons.injEq]at h
    exact absurd h.1 (ha d (List.mem_cons_self ..))
  |d::a,e::b,x,y,ha,hb,h=>by
    simp only [List.cons_append,List.cons.injEq]at h
    obtain ⟨rfl,h⟩:=h
    obtain ⟨rfl,rfl⟩:=split58 (fun c hc=>ha c (List.mem_cons_of_mem _ hc)) (fun c hc=>hb c (List.mem_cons_of_mem _ hc)) h
    exact ⟨rfl,rfl⟩
theorem dec_inj{u v:Nat}(h:Lib.decDigits u=Lib.decDigits v):u=v:=by rw [←dec_val u,h,dec_val]
def keyT(x:Tip)(r:List UInt8):List UInt8:=Lib.decDigits x.state.toNat++58::(Lib.decDigits x.out.length++58::(x.out++r))
def keyL:List Tip→List UInt8
  |[]=>[]
  |x::l=>keyT x (keyL l)
theorem keyL_snoc(x:Tip): ∀l:List Tip,keyL (l++[x])=keyL l++keyT x []
  |[]=>rfl
  |y::l=>by
    show keyT y (keyL (l++[x]))=keyT y (keyL l)++keyT x []
    rw [keyL_snoc x l]
    unfold keyT
    simp
theorem keyL_inj: ∀{l m:List Tip},(∀x∈l,0≤x.state)→(∀x∈m,0≤x.state)→keyL l=keyL m→l=m
  |[],[],_,_,_=>rfl
  |[],y::m,_,_,h=>by
    have:=congrArg List.length h
    simp [keyL,keyT]at this
  |x::l,[],_,_,h=>by
    have:=congrArg List.length h
    simp [keyL,keyT]at this
  | x :: l, y :: m, hl, hm, h => by
    obtain ⟨h1,h2⟩:=split58 (dec_not _) (dec_not _) (show Lib.decDigits x.state.toNat++58::_=Lib.decDigits y.state.toNat++58::_ from h)
    obtain ⟨h3,h4⟩:=split58 (dec_not _) (dec_not _) h2
    have h5:=dec_inj h1
    have h6:=dec_inj h3
    obtain ⟨h7,h8⟩:=List.append_inj h4 h6
    have hx:=hl x (List.mem_cons_self ..)
    have hy:=hm y (List.mem_cons_self ..)
    have e:x=y:=by
      cases x;cases y
      simp only at h5 h7 hx hy
      simp only [Tip.mk.injEq]
      exact ⟨by omega,h7⟩
    rw [e,keyL_inj (fun z hz=>hl z (List.mem_cons_of_mem _ hz)) (fun z hz=>hm z (List.mem_cons_of_mem _ hz)) h8]
theorem itoa_nat{n:Int}(h:0≤n):Lib.itoa n=Lib.decDigits n.toNat:=by unfold Lib.itoa;rw [if_neg (by omega)]
theorem dec_lenK: ∀(k u:Nat),u<10 ^ (k+1)→(Lib.decDigits u).length≤k+1
  |0,u,h=>by
    rw [Lib.decDigits,dif_pos (by simpa using h)];simp
  |k+1,u,h=>by
    rw [Lib.decDigits]
    split
    · simp
    have:=dec_lenK k (u / 10) (by rw [Nat.div_lt_iff_lt_mul (by decide),←Nat.pow_succ];exact h)
    rw [List.length_append,List.length_singleton];omega
theorem dec_len{u:Nat}(h:u≤9223372036854775807):(Lib.decDigits u).length≤21:=by
  have:=dec_lenK 18 u (by omega)
  omega
structure RowOk (n:Int) (l:List Tip):Prop where
  len:l.length≤1000000
  inc:l.Pairwise fun x y=>x.state<y.state
  st: ∀x∈l,0≤x.state∧x.state<n
  out: ∀x∈l,x.out.length≤4096
theorem wrS_eq(b x:List UInt8)(hx:x.length≤281474976710656)(h:b.length+x.length≤140737488355328):writeS ⟨b⟩ x=some (((x.length:Nat):Int),(),⟨b++x⟩):=by
  unfold writeS copyCheck copyCheckF
  rw [grd_mk hx,bnd_mk,grd_mk h]
theorem writeB_eq(b:List UInt8)(x:UInt8)(h:b.length+1≤140737488355328):writeB ⟨b⟩ x=some ((),⟨b++[x]⟩):=by
  unfold writeB copyCheck copyCheckF
  rw [bnd_mk,grd_mk (by simpa using h)]
theorem key_eq {n : Int} (hn : n ≤ 1024) {l : List Tip} (h : RowOk n l) : Fl_ l = some (keyL l) := by
  unfold Fl_
  obtain ⟨r,h1,h2⟩:=iter_up (step:=fun q:(List UInt8)×Nat=>Ch_ l q.1 q.2) (fun s k=>(s,k)) l.length (fun k s=>s=keyL (l.take k)∧s.length≤k * 4200) (fun r=>r=keyL l)
    (fun k s hk hI=>by
      obtain ⟨rfl,hI⟩:=hI
      have hm:=mem_at Tip.zero hk
      have hst:=h.st _ hm
      have hout:=h.out _ hm
      have hlen:=h.len
      have hd1:=dec_len (u:=(nth l k Tip.zero).state.toNat) (by omega)
      have hd2:=dec_len (u:=(nth l k Tip.zero).out.length) (by omega)
      refine .inl ⟨keyL (l.take k)++keyT (nth l k Tip.zero) [],?_,by rw [take_snoc l hk Tip.zero,keyL_snoc],?_⟩
      · show Ch_ l (keyL (l.take k)) k=_
        unfold Ch_
        have hk1:k≤1000000:=by omega
        have hk2:k * 4200≤4200000000:=by omega
        rw [iteO_dt (by omega),grd_mk ⟨by omega,by omega⟩,itoa_nat hst.1,wrS_eq _ _ (by omega) (by omega),bnd_mk]
        show bnd (writeB ⟨keyL (l.take k)++Lib.decDigits (nth l k Tip.zero).state.toNat⟩ 58) _=_
        rw [writeB_eq _ _ (by rw [List.length_append];omega),bnd_mk,grd_mk ⟨by omega,by omega⟩,itoa_nat (by omega),Int.toNat_natCast]
        show bnd (writeS ⟨keyL (l.take k)++Lib.decDigits (nth l k Tip.zero).state.toNat++[58]⟩ (Lib.decDigits (nth l k Tip.zero).out.length)) _=_
        rw [wrS_eq _ _ (by omega) (by simp only [List.length_append,List.length_singleton];omega),bnd_mk]
        show bnd (writeB ⟨keyL (l.take k)++Lib.decDigits (nth l k Tip.zero).state.toNat++[58]++Lib.decDigits (nth l k Tip.zero).out.length⟩ 58) _=_
        rw [writeB_eq _ _ (by simp only [List.length_append,List.length_singleton];omega),bnd_mk]
        show bnd (writeS ⟨keyL (l.take k)++Lib.decDigits (nth l k Tip.zero).state.toNat++[58]++Lib.decDigits (nth l k Tip.zero).out.length++[58]⟩ (nth l k Tip.zero).out) _=_
        rw [wrS_eq _ _ (by omega) (by simp only [List.length_append,List.length_singleton];omega),bnd_mk]
        show nxt (_,_)=some (.inl (_,_))
        unfold keyT
        simp [nxt]
      rw [List.length_append]
      unfold keyT
      simp only [List.length_append,List.length_cons,List.length_nil]
      omega)
    (fun s hI=>by
      obtain ⟨rfl,hI⟩:=hI
      refine ⟨_,?_,rfl⟩
      rw [List.take_length]
      show Ch_ l (keyL l) l.length=_
      unfold Ch_ stringB
      rw [iteO_df (by omega),bnd_mk];rfl) (s0:=[]) ⟨rfl,by simp⟩
  rw [←h2];exact h1
end Go.Proofs.YtchebnpdnfhenaaGreatDoor
end

noncomputable section
namespace Go.Proofs.YtchebnpdnfhenaaGreatDoor
open Go Go.E
def stateD(most:Int)(R:List (List Tip))(r:List Tip):Int⊕(Nat×List (List Tip)):=
  if r∈R then .inr (R.idxOf r,R) else if most≤(R.length:Int) then .inl 2 else .inr (R.length,R++[r])
theorem idx_lt{R:List (List Tip)}{r:List Tip}(h:r∈R):R.idxOf r<R.length:=List.idxOf_lt_length_iff.2 h
theorem idx_at{R:List (List Tip)}{r:List Tip}(h:r∈R):nth R (R.idxOf r) []=r:=by
  unfold nth
  rw [List.getD_eq_getElem?_getD,List.getElem?_eq_getElem (idx_lt h)]
  exact List.getElem_idxOf (idx_lt h)
structure Places (n:Int) (m:FM (List UInt8) Int) (R:List (List Tip)):Prop where
  ok: ∀r∈R,RowOk n r
  nd:R.Nodup
  at': ∀i,i<R.length→m.f (keyL (nth R i []))=some ((i:Nat):Int)
  is: ∀k v,m.f k=some v→ ∃i,i<R.length∧keyL (nth R i [])=k
theorem Places.nil(n:Int):Places n FM.emp []:=⟨by simp,List.nodup_nil,by simp,fun k v h=>by cases h⟩
theorem nth_app_l{α:Type}{l m:List α}{i:Nat}(h:i<l.length)(d:α):nth (l++m) i d=nth l i d:=by
  unfold nth
  rw [List.getD_eq_getElem?_getD,List.getD_eq_getElem?_getD,List.getElem?_append_left h]
theorem nth_app_at{α:Type}(l:List α)(x d:α):nth (l++[x]) l.length d=x:=by
  unfold nth
  rw [List.getD_eq_getElem?_getD,List.getElem?_append_right (Nat.le_refl _),Nat.sub_self];rfl
theorem Places.key{n:Int}{m:FM (List UInt8) Int}{R:List (List Tip)}(h:Places n m R){r:List Tip}(hr:RowOk n r):m.has (keyL r)=decide (r∈R):=by
  unfold FM.has
  rw [Bool.eq_iff_iff,decide_eq_true_eq]
  constructor
  · intro hs
    obtain ⟨v,hv⟩:=Option.isSome_iff_exists.1 hs
    obtain ⟨i,h1,h2⟩:=h.is _ _ hv
    have h3:=mem_at [] h1
    have:=keyL_inj (fun x hx=>((h.ok _ h3).st x hx).1) (fun x hx=>(hr.st x hx).1) h2
    rw [←this];exact h3
  intro hm
  have:=h.at' _ (idx_lt hm)
  rw [idx_at hm]at this
  rw [this];rfl
theorem Places.get{n:Int}{m:FM (List UInt8) Int}{R:List (List Tip)}(h:Places n m R){r:List Tip}(hm:r∈R):m.get (keyL r) 0=((R.idxOf r:Nat):Int):=by
  have:=h.at' _ (idx_lt hm)
  rw [idx_at hm]at this
  unfold FM.get
  rw [this];rfl
theorem Places.put{n:Int}{m:FM (List UInt8) Int}{R:List (List Tip)}(h:Places n m R){r:List Tip}(hr:RowOk n r)(hm:r∉R):Places n (m.put (keyL r) ((R.length:Nat):Int)) (R++[r]):=by
  refine ⟨fun x hx=> ?_,?_,fun i hi=> ?_,fun k v hk=> ?_⟩
  · rcases List.mem_append.1 hx with hx|hx
    · exact h.ok x hx
    rw [List.mem_singleton.1 hx];exact hr
  · rw [List.nodup_append]
    refine ⟨h.nd,by simp,fun a ha b hb e=> ?_⟩
    rw [List.mem_singleton.1 hb]at e
    exact hm (e▸ha)
  · rw [List.length_append,List.length_singleton]at hi
    show (if keyL (nth (R++[r]) i [])=keyL r then _ else _)=_
    by_cases e:i=R.length
    · subst e
      rw [nth_app_at,if_pos rfl]
    have hl:i<R.length:=by omega
    rw [nth_app_l hl]
    have h3:=mem_at [] hl
    rw [if_neg fun q=> ?_]
    · exact h.at' i hl
    have:=keyL_inj (fun x hx=>((h.ok _ h3).st x hx).1) (fun x hx=>(hr.st x hx).1) q
    exact hm (this▸h3)
  change (if k=keyL r then _ else _)=_ at hk
  rw [List.length_append,List.length_singleton]
  by_cases e:k=keyL r
  · exact ⟨R.length,by omega,by rw [nth_app_at];exact e.symm⟩
  rw [if_neg e]at hk
  obtain ⟨i,h1,h2⟩:=h.is _ _ hk
  exact ⟨i,by omega,by rw [nth_app_l h1];exact h2⟩
def putR(x:Maker)(R:List (List Tip))(m:FM (List UInt8) Int):Maker:=⟨x.arcs,x.ends,x.most,R,m,x.q⟩
theorem state_ok{n:Int}(hn:n≤1024){x0:Maker}(h:Places n x0.places x0.rows){r:List Tip}(hr:RowOk n r)(hl:x0.rows.length≤1000000):
    (∀k,stateD x0.most x0.rows r= .inl k→As_ x0 r=some (.inl k))∧ ∀i R',stateD x0.most x0.rows r= .inr (i,R')→ ∃m',As_ x0 r=some (.inr (((i:Nat):Int),putR x0 R' m'))∧Places n m' R':=by
  have hst:As_ x0 r=iteO (decide (r∈x0.rows)) (some (.inr ((x0.places.get (keyL r) 0),x0))) (iteO (decide (x0.most≤((x0.rows.length:Nat):Int))) (some (.inl 2)) (some (.inr (((x0.rows.length:Nat):Int),(⟨x0.arcs,x0.ends,x0.most,(x0.rows++[r]),(x0.places.put (keyL r) ((x0.rows.length:Nat):Int)),x0.q⟩:Maker))))):=by
    unfold As_
    rw [key_eq hn hr,bnd_mk,h.key hr,grd_mk (by simp;omega)]
  rw [hst]
  unfold stateD
  by_cases c:r∈x0.rows
  · rw [if_pos c,iteO_dt c]
    refine ⟨fun k e=>(by cases e),fun i R' e=> ?_⟩
    cases e
    exact ⟨x0.places,by rw [h.get c];rfl,h⟩
  rw [if_neg c,iteO_df c]
  by_cases d:x0.most≤(x0.rows.length:Int)
  · rw [if_pos d,iteO_dt d]
    exact ⟨fun k e=>(by cases e;rfl),fun i R' e=>(by cases e)⟩
  rw [if_neg d,iteO_df d]
  refine ⟨fun k e=>(by cases e),fun i R' e=> ?_⟩
  cases e
  exact ⟨_,rfl,h.put hr c⟩
end Go.Proofs.YtchebnpdnfhenaaGreatDoor
end

noncomputable section
namespace Go.Proofs.YtchebnpdnfhenaaGreatDoor
open Go Go.E
def em(a:Arc)(b:UInt8):List UInt8:=if a.copy then a.out++[b] else a.out
inductive Wy (t:Fst):Int→List UInt8→List UInt8→Int→Prop
  |nil (s:Int):Wy t s [] [] s
  |cons {w o:List UInt8} {q:Int} (a:Arc) (b:UInt8):a∈t.arcs→a.set.has b.toNat=true→Wy t a.to w o q→Wy t a.frm (b::w) (em a b++o) q
theorem Wy.nil_inv{t:Fst}{s q:Int}{o:List UInt8}(h:Wy t s [] o q):o=[]∧q=s:=by
  cases h;exact ⟨rfl,rfl⟩
theorem Wy.cons_inv{t:Fst}{s q:Int}{b:UInt8}{w o:List UInt8}(h:Wy t s (b::w) o q): ∃a∈t.arcs,a.frm=s∧a.set.has b.toNat=true∧ ∃o',Wy t a.to w o' q∧o=em a b++o':=by
  cases h with
  |cons a b ha hb hw=>exact ⟨a,ha,rfl,hb,_,hw,rfl⟩
theorem Wy.append{t:Fst}{s m q:Int}{u v o p:List UInt8}(h:Wy t s u o m)(k:Wy t m v p q):Wy t s (u++v) (o++p) q:=by
  induction h with
  |nil s=>exact k
  |cons a b ha hb _ ih=>rw [List.append_assoc];exact .cons a b ha hb (ih k)
theorem Wy.split{t:Fst}: ∀{u v o:List UInt8} {s q:Int},Wy t s (u++v) o q→ ∃m o1 o2,Wy t s u o1 m∧Wy t m v o2 q∧o=o1++o2
  |[],v,o,s,q,h=>⟨s,[],o,.nil s,h,rfl⟩
  |b::u,v,o,s,q,h=>by
    obtain ⟨a,ha,rfl,hb,o',hw,rfl⟩:=Wy.cons_inv h
    obtain ⟨m,o1,o2,h1,h2,rfl⟩:=Wy.split hw
    exact ⟨m,em a b++o1,o2,.cons a b ha hb h1,h2,by rw [List.append_assoc]⟩
theorem Wy.one{t:Fst}{a:Arc}{b:UInt8}(ha:a∈t.arcs)(hb:a.set.has b.toNat=true):Wy t a.frm [b] (em a b) a.to:=by
  have:=Wy.cons a b ha hb (.nil a.to)
  rwa [List.append_nil]at this
def Rel(t:Fst)(w o:List UInt8):Prop:= ∃x∈t.starts, ∃e∈t.ends, ∃m,Wy t x.state w m e.state∧o=x.out++(m++e.out)
theorem Wy.len{t:Fst}{n:Nat}(h: ∀a∈t.arcs,a.out.length≤n){s q:Int}{w o:List UInt8}(k:Wy t s w o q):o.length≤w.length * (n+1):=by
  induction k with
  |nil=>exact Nat.zero_le _
  |cons a b ha hb _ ih=>
    have:=h a ha
    have he:(em a b).length≤n+1:=by
      unfold em;split
      · rw [List.length_append,List.length_singleton];omega
      omega
    rw [List.length_append,List.length_cons,Nat.add_mul];omega
theorem Wy.map{t T:Fst}(f:Int→Int)(h: ∀a∈t.arcs,(⟨f a.frm,f a.to,a.set,a.out,a.copy⟩:Arc)∈T.arcs){s q:Int}{w o:List UInt8}(k:Wy t s w o q):Wy T (f s) w o (f q):=by
  induction k with
  |nil s=>exact .nil _
  |cons a b ha hb _ ih=>exact Wy.cons (⟨f a.frm,f a.to,a.set,a.out,a.copy⟩:Arc) b (h a ha) hb ih
end Go.Proofs.YtchebnpdnfhenaaGreatDoor
end

noncomputable section
namespace Go.Proofs.YtchebnpdnfhenaaGreatDoor
open Go Go.E
def Eqs(L:List (List UInt8)):Prop:= ∀x∈L, ∀y∈L,x=y
instance (L:List (List UInt8)):Decidable (Eqs L):=inferInstanceAs (Decidable (∀x∈L, ∀y∈L,x=y))
def lastD(L:List (List UInt8)):List UInt8:=L.getLastD []
theorem lastD_snoc(L:List (List UInt8))(s:List UInt8):lastD (L++[s])=s:=by simp [lastD]
theorem lastD_mem{L:List (List UInt8)}(h:L≠[]):lastD L∈L:=by
  unfold lastD
  rw [List.getLastD_eq_getLast?,List.getLast?_eq_some_getLast h]
  exact List.getLast_mem h
theorem Eqs.last{L:List (List UInt8)}(h:Eqs L){x:List UInt8}(hx:x∈L):x=lastD L:=h _ hx _ (lastD_mem (List.ne_nil_of_mem hx))
theorem eqs_snoc{L:List (List UInt8)}{s:List UInt8}:Eqs (L++[s])↔Eqs L∧(L≠[]→s=lastD L):=by
  constructor
  · intro h
    refine ⟨fun x hx y hy=>h x (List.mem_append_left _ hx) y (List.mem_append_left _ hy),fun hn=> ?_⟩
    exact h _ (List.mem_append_right _ (List.mem_singleton.2 rfl)) _ (List.mem_append_left _ (lastD_mem hn))
  rintro ⟨h1,h2⟩ x hx y hy
  have key: ∀z∈L++[s],z=s:=fun z hz=>by
    rcases List.mem_append.1 hz with hz|hz
    · rw [h1.last hz,h2 (List.ne_nil_of_mem hz)]
    exact List.mem_singleton.1 hz
  rw [key x hx,key y hy]
theorem eqs_sub{L M:List (List UInt8)}(h:Eqs M)(hs: ∀x∈L,x∈M):Eqs L:=fun x hx y hy=>h x (hs x hx) y (hs y hy)
def goesB(L:List (List UInt8)):Bool:= !L.isEmpty
theorem goesB_snoc(L:List (List UInt8))(s:List UInt8):goesB (L++[s])=true:=by cases L<;>rfl
theorem goesB_iff{L:List (List UInt8)}:goesB L=true↔L≠[]:=by cases L<;>simp [goesB]
def tailX(E:List Tip)(x:Tip):List (List UInt8):=(E.filter fun e=>decide (e.state=x.state)).map fun e=>x.out++e.out
def tailL(E l:List Tip):List (List UInt8):=l.flatMap (tailX E)
theorem tailL_snoc(E l:List Tip)(x:Tip):tailL E (l++[x])=tailL E l++tailX E x:=by simp [tailL]
def tailD(E l:List Tip):Int⊕(Bool×List UInt8):=
  if ¬ Eqs (tailL E l) then .inl 12 else if 4096<(lastD (tailL E l)).length then .inl 2 else .inr (goesB (tailL E l),lastD (tailL E l))
def behX(A:List Arc)(b:UInt8)(x:Tip):List Tip:=((A.filter fun a=>decide (a.frm=x.state)).filter fun a=>a.set.has b.toNat).map fun a=>⟨a.to,x.out++em a b⟩
def behD(A:List Arc)(l:List Tip)(b:UInt8):List Tip:=l.flatMap (behX A b)
theorem behD_snoc(A:List Arc)(l:List Tip)(b:UInt8)(x:Tip):behD A (l++[x]) b=behD A l b++behX A b x:=by simp [behD]
theorem behX_len(A:List Arc)(b:UInt8)(x:Tip):(behX A b x).length≤A.length:=by
  unfold behX
  rw [List.length_map]
  exact Nat.le_trans (List.length_filter_le _ _) (List.length_filter_le _ _)
theorem behD_len(A:List Arc)(b:UInt8): ∀l:List Tip,(behD A l b).length≤l.length * A.length
  |[]=>by simp [behD]
  |x::l=>by
    have h1:=behD_len A b l
    have h2:=behX_len A b x
    show (behX A b x++behD A l b).length≤_
    rw [List.length_append,List.length_cons,Nat.succ_mul];omega
theorem mem_behD{A:List Arc}{l:List Tip}{b:UInt8}{y:Tip}:y∈behD A l b↔ ∃x∈l, ∃a∈A,a.frm=x.state∧a.set.has b.toNat=true∧y=⟨a.to,x.out++em a b⟩:=by
  unfold behD behX
  simp only [List.mem_flatMap,List.mem_map,List.mem_filter,decide_eq_true_eq]
  exact ⟨fun ⟨x,h1,a,⟨⟨h2,h3⟩,h4⟩,h5⟩=>⟨x,h1,a,h2,h3,h4,h5.symm⟩,fun ⟨x,h1,a,h2,h3,h4,h5⟩=>⟨x,h1,a,⟨⟨h2,h3⟩,h4⟩,h5.symm⟩⟩
theorem mem_tailL{E l:List Tip}{y:List UInt8}:y∈tailL E l↔ ∃x∈l, ∃e∈E,e.state=x.state∧y=x.out++e.out:=by
  unfold tailL tailX
  simp only [List.mem_flatMap,List.mem_map,List.mem_filter,decide_eq_true_eq]
  exact ⟨fun ⟨x,h1,e,⟨h2,h3⟩,h5⟩=>⟨x,h1,e,h2,h3,h5.symm⟩,fun ⟨x,h1,e,h2,h3,h5⟩=>⟨x,h1,e,⟨h2,h3⟩,h5.symm⟩⟩
structure Knows (n:Nat) (A:List Arc) (E:List Tip) (x:Maker):Prop where
  arcs:Grp Arc.frm id n x.arcs A
  ends:Grp Tip.state Tip.out n x.ends E
  al:A.length≤16384
  ao: ∀a∈A,a.out.length≤1024
  eo: ∀e∈E,e.out.length≤1024
  hn:n≤1024
theorem tail_in {n : Nat} {A : List Arc} {E : List Tip} {x0 : Maker} (h : Knows n A E x0) {l : List Tip} (hl : RowOk n l) {k : Nat} (hk : k < l.length) (P : List (List UInt8)) (hP : Eqs P) :
    iter (fun q:Bool×(List UInt8)×Nat=>Ax_ x0 l k q.1 q.2.1 q.2.2) (goesB P,lastD P,0)=some (if Eqs (P++tailX E (nth l k Tip.zero)) then .inl (goesB (P++tailX E (nth l k Tip.zero)),lastD (P++tailX E (nth l k Tip.zero)),k+1) else .inr (.inl 12)):=by
  have hm:=mem_at Tip.zero hk
  have hs:=hl.st _ hm
  have ho:=hl.out _ hm
  have hg:=h.ends.at hs.1 hs.2
  have hX:tailX E (nth l k Tip.zero)=(nth x0.ends (nth l k Tip.zero).state.toNat []).map fun o=>(nth l k Tip.zero).out++o:=by
    rw [hg,List.map_map];rfl
  have hgo: ∀o∈nth x0.ends (nth l k Tip.zero).state.toNat [],o.length≤1024:=by
    rw [hg]
    intro o ho
    obtain ⟨e,he,rfl⟩:=List.mem_map.1 ho
    exact h.eo e (List.mem_filter.1 he).1
  rw [hX]
  obtain ⟨r,h1,h2⟩:=iter_up (step:=fun q:Bool×(List UInt8)×Nat=>Ax_ x0 l k q.1 q.2.1 q.2.2) (fun (s:Bool×List UInt8) j=>(s.1,s.2,j)) (nth x0.ends (nth l k Tip.zero).state.toNat []).length
    (fun j s=>Eqs (P++((nth x0.ends (nth l k Tip.zero).state.toNat []).take j).map fun o=>(nth l k Tip.zero).out++o)∧s=(goesB (P++((nth x0.ends (nth l k Tip.zero).state.toNat []).take j).map fun o=>(nth l k Tip.zero).out++o),lastD (P++((nth x0.ends (nth l k Tip.zero).state.toNat []).take j).map fun o=>(nth l k Tip.zero).out++o)))
    (fun r=>r=(if Eqs (P++(nth x0.ends (nth l k Tip.zero).state.toNat []).map fun o=>(nth l k Tip.zero).out++o) then .inl (goesB (P++(nth x0.ends (nth l k Tip.zero).state.toNat []).map fun o=>(nth l k Tip.zero).out++o),lastD (P++(nth x0.ends (nth l k Tip.zero).state.toNat []).map fun o=>(nth l k Tip.zero).out++o),k+1) else .inr (.inl 12)))
    (fun j s hj hI=>by
      obtain ⟨hI,rfl⟩:=hI
      have hoj:=hgo _ (mem_at [] hj)
      have ht:((nth x0.ends (nth l k Tip.zero).state.toNat []).take (j+1)).map (fun o=>(nth l k Tip.zero).out++o)=((nth x0.ends (nth l k Tip.zero).state.toNat []).take j).map (fun o=>(nth l k Tip.zero).out++o)++[(nth l k Tip.zero).out++nth (nth x0.ends (nth l k Tip.zero).state.toNat []) j []]:=by
        rw [take_snoc _ hj [],List.map_append];rfl
      have hsub: ∀y∈P++((nth x0.ends (nth l k Tip.zero).state.toNat []).take (j+1)).map (fun o=>(nth l k Tip.zero).out++o),y∈P++(nth x0.ends (nth l k Tip.zero).state.toNat []).map fun o=>(nth l k Tip.zero).out++o:=fun y hy=>by
        rcases List.mem_append.1 hy with hy|hy
        · exact List.mem_append_left _ hy
        obtain ⟨o,ho,rfl⟩:=List.mem_map.1 hy
        exact List.mem_append_right _ (List.mem_map.2 ⟨o,List.mem_of_mem_take ho,rfl⟩)
      rw [ht,←List.append_assoc]at hsub
      have hst:Ax_ x0 l k (goesB (P++((nth x0.ends (nth l k Tip.zero).state.toNat []).take j).map fun o=>(nth l k Tip.zero).out++o)) (lastD (P++((nth x0.ends (nth l k Tip.zero).state.toNat []).take j).map fun o=>(nth l k Tip.zero).out++o)) j
          =if P++((nth x0.ends (nth l k Tip.zero).state.toNat []).take j).map (fun o=>(nth l k Tip.zero).out++o)≠[]∧(nth l k Tip.zero).out++nth (nth x0.ends (nth l k Tip.zero).state.toNat []) j []≠lastD (P++((nth x0.ends (nth l k Tip.zero).state.toNat []).take j).map fun o=>(nth l k Tip.zero).out++o) then some (.inr (.inr (.inl 12)))
            else some (.inl (true,(nth l k Tip.zero).out++nth (nth x0.ends (nth l k Tip.zero).state.toNat []) j [],j+1)):=by
        unfold Ax_ Cf_
        rw [iteO_dt (by omega),grd_mk (by omega)]
        by_cases c1:P++((nth x0.ends (nth l k Tip.zero).state.toNat []).take j).map (fun o=>(nth l k Tip.zero).out++o)≠[]
        · rw [goesB_iff.2 c1,iteO_true]
          by_cases c2:(nth l k Tip.zero).out++nth (nth x0.ends (nth l k Tip.zero).state.toNat []) j []≠lastD (P++((nth x0.ends (nth l k Tip.zero).state.toNat []).take j).map fun o=>(nth l k Tip.zero).out++o)
          · rw [iteO_dt c2,if_pos ⟨c1,c2⟩];rfl
          rw [iteO_df c2,if_neg (fun q=>c2 q.2)];rfl
        rw [show goesB (P++((nth x0.ends (nth l k Tip.zero).state.toNat []).take j).map fun o=>(nth l k Tip.zero).out++o)=false from by rw [Bool.eq_false_iff];exact fun q=>c1 (goesB_iff.1 q),iteO_false,if_neg (fun q=>c1 q.1)];rfl
      by_cases c:P++((nth x0.ends (nth l k Tip.zero).state.toNat []).take j).map (fun o=>(nth l k Tip.zero).out++o)≠[]∧(nth l k Tip.zero).out++nth (nth x0.ends (nth l k Tip.zero).state.toNat []) j []≠lastD (P++((nth x0.ends (nth l k Tip.zero).state.toNat []).take j).map fun o=>(nth l k Tip.zero).out++o)
      · rw [if_pos c]at hst
        exact .inr ⟨_,hst,by rw [if_neg fun q=>c.2 ((eqs_snoc.1 (eqs_sub q hsub)).2 c.1)]⟩
      rw [if_neg c]at hst
      refine .inl ⟨(true,_),hst,?_,?_⟩
      · rw [ht,←List.append_assoc]
        exact eqs_snoc.2 ⟨hI,fun q=>Classical.byContradiction fun q2=>c ⟨q,q2⟩⟩
      rw [ht,←List.append_assoc,goesB_snoc,lastD_snoc])
    (fun s hI=>by
      obtain ⟨hI,rfl⟩:=hI
      rw [List.take_length]at hI
      refine ⟨_,?_,rfl⟩
      rw [if_pos hI,List.take_length]
      show Ax_ x0 l k _ _ (nth x0.ends (nth l k Tip.zero).state.toNat []).length=_
      unfold Ax_
      rw [iteO_df (by omega)];rfl) (s0:=(goesB P,lastD P)) ⟨by simpa using hP,by simp⟩
  rw [←h2];exact h1
theorem tail_ok {n : Nat} {A : List Arc} {E : List Tip} {x0 : Maker} (h : Knows n A E x0) {l : List Tip} (hl : RowOk n l) : De_ x0 l = some (tailD E l) := by
  unfold De_
  obtain ⟨r,h1,h2⟩:=iter_up (step:=fun q:Bool×(List UInt8)×Nat=>A4_ l x0 q.1 q.2.1 q.2.2) (fun (s:Bool×List UInt8) k=>(s.1,s.2,k)) l.length (fun k s=>Eqs (tailL E (l.take k))∧s=(goesB (tailL E (l.take k)),lastD (tailL E (l.take k)))) (fun r=>r=tailD E l)
    (fun k s hk hI=>by
      obtain ⟨hI,rfl⟩:=hI
      have hs:=hl.st _ (mem_at Tip.zero hk)
      have ht:tailL E (l.take (k+1))=tailL E (l.take k)++tailX E (nth l k Tip.zero):=by rw [take_snoc l hk Tip.zero,tailL_snoc]
      have hst:A4_ l x0 (goesB (tailL E (l.take k))) (lastD (tailL E (l.take k))) k=some (if Eqs (tailL E (l.take (k+1))) then .inl (goesB (tailL E (l.take (k+1))),lastD (tailL E (l.take (k+1))),k+1) else .inr (.inl 12)):=by
        unfold A4_
        rw [iteO_dt (by omega),grd_mk ⟨hs.1,by rw [h.ends.len];exact hs.2⟩,ht]
        exact tail_in h hl hk _ hI
      by_cases c:Eqs (tailL E (l.take (k+1)))
      · rw [if_pos c]at hst
        exact .inl ⟨(_,_),hst,c,rfl⟩
      rw [if_neg c]at hst
      refine .inr ⟨_,hst,?_⟩
      unfold tailD
      rw [if_pos]
      intro q
      refine c (eqs_sub q fun y hy=> ?_)
      obtain ⟨x,hx,e,he⟩:=mem_tailL.1 hy
      exact mem_tailL.2 ⟨x,List.mem_of_mem_take hx,e,he⟩)
    (fun s hI=>by
      obtain ⟨hI,rfl⟩:=hI
      rw [List.take_length]at hI
      refine ⟨_,?_,rfl⟩
      have hlen:(lastD (tailL E l)).length≤281474976710656:=by
        by_cases c:tailL E l=[]
        · rw [c];simp [lastD]
        obtain ⟨x,hx,e,he,_,hq⟩:=mem_tailL.1 (lastD_mem c)
        have h3:=hl.out x hx
        have h4:=h.eo e he
        rw [hq,List.length_append];omega
      rw [List.take_length]
      show A4_ l x0 _ _ l.length=_
      unfold A4_ tailD
      rw [iteO_df (by omega),if_neg (fun q=>q hI),short_eq hlen,bnd_mk]
      by_cases c:4096<(lastD (tailL E l)).length
      · rw [if_pos c,if_pos c];rfl
      rw [if_neg c,if_neg c];rfl) (s0:=(false,[])) ⟨by intro x hx;simp [tailL]at hx,rfl⟩
  rw [←h2];exact h1
theorem beh_in {n : Nat} {A : List Arc} {E : List Tip} {x0 : Maker} (h : Knows n A E x0) {l : List Tip} (hl : RowOk n l) (b : UInt8) {k : Nat} (hk : k < l.length) (P : List Tip) (hP : P.length + A.length ≤ 100000000000) :
    iter (fun q:(List Tip)×Nat=>Ak_ x0 l k b q.1 q.2) (P,0)=some (.inl (P++behX A b (nth l k Tip.zero),k+1)):=by
  have hm:=mem_at Tip.zero hk
  have hs:=hl.st _ hm
  have ho:=hl.out _ hm
  have hg:=h.arcs.at hs.1 hs.2
  rw [List.map_id]at hg
  have hga: ∀a∈nth x0.arcs (nth l k Tip.zero).state.toNat [],a.out.length≤1024:=by
    rw [hg];intro a ha;exact h.ao a (List.mem_filter.1 ha).1
  have hgl:(nth x0.arcs (nth l k Tip.zero).state.toNat []).length≤A.length:=by rw [hg];exact List.length_filter_le _ _
  have hX:behX A b (nth l k Tip.zero)=((nth x0.arcs (nth l k Tip.zero).state.toNat []).filter fun a=>a.set.has b.toNat).map fun a=>⟨a.to,(nth l k Tip.zero).out++em a b⟩:=by rw [hg];rfl
  rw [hX]
  obtain ⟨r,h1,h2⟩:=iter_up (step:=fun q:(List Tip)×Nat=>Ak_ x0 l k b q.1 q.2) (fun s j=>(s,j)) (nth x0.arcs (nth l k Tip.zero).state.toNat []).length
    (fun j s=>s=P++(((nth x0.arcs (nth l k Tip.zero).state.toNat []).take j).filter fun a=>a.set.has b.toNat).map fun a=>⟨a.to,(nth l k Tip.zero).out++em a b⟩)
    (fun r=>r= .inl (P++((nth x0.arcs (nth l k Tip.zero).state.toNat []).filter fun a=>a.set.has b.toNat).map fun a=>⟨a.to,(nth l k Tip.zero).out++em a b⟩,k+1))
    (fun j s hj hI=>by
      subst hI
      have hoj:=hga _ (mem_at Arc.zero hj)
      have hpl:(P++(((nth x0.arcs (nth l k Tip.zero).state.toNat []).take j).filter fun a=>a.set.has b.toNat).map fun a=>(⟨a.to,(nth l k Tip.zero).out++em a b⟩:Tip)).length≤100000000000:=by
        rw [List.length_append,List.length_map]
        have h3:=List.length_filter_le (fun a:Arc=>a.set.has b.toNat) ((nth x0.arcs (nth l k Tip.zero).state.toNat []).take j)
        rw [List.length_take]at h3
        omega
      refine .inl ⟨_,?_,rfl⟩
      rw [take_snoc _ hj Arc.zero,List.filter_append,List.map_append,←List.append_assoc]
      generalize P++(((nth x0.arcs (nth l k Tip.zero).state.toNat []).take j).filter fun a=>a.set.has b.toNat).map (fun a=>(⟨a.to,(nth l k Tip.zero).out++em a b⟩:Tip))=S at hpl ⊢
      show Ak_ x0 l k b S j=_
      unfold Ak_ Ba_ B4_
      rw [iteO_dt (by omega)]
      generalize nth (nth x0.arcs (nth l k Tip.zero).state.toNat []) j Arc.zero=a at hoj ⊢
      cases c:a.set.has b.toNat with
      |false=>
        rw [iteO_nf]
        simp [c,nxt]
      |true=>
        rw [iteO_nt,grd_mk (by omega)]
        cases d:a.copy with
        |true=>
          rw [iteO_true,grd_mk (by simp;omega),grd_mk (by simp;omega)]
          unfold Ba_
          simp [c,d,nxt,em]
        |false=>
          rw [iteO_false,grd_mk (by simp;omega)]
          unfold Ba_
          simp [c,d,nxt,em])
    (fun s hI=>by
      subst hI
      refine ⟨_,?_,rfl⟩
      rw [List.take_length]
      show Ak_ x0 l k b _ _=_
      unfold Ak_
      rw [iteO_df (by omega)];rfl) (s0:=P) (by simp)
  rw [←h2];exact h1
theorem beh_ok{n:Nat}{A:List Arc}{E:List Tip}{x0:Maker}(h:Knows n A E x0){l:List Tip}(hl:RowOk n l)(b:UInt8):Ci_ x0 l b=some (behD A l b):=by
  unfold Ci_
  have hal:=h.al
  have hll:=hl.len
  obtain ⟨r,h1,h2⟩:=iter_up (step:=fun q:(List Tip)×Nat=>Av_ l x0 b q.1 q.2) (fun s k=>(s,k)) l.length (fun k s=>s=behD A (l.take k) b) (fun r=>r=behD A l b)
    (fun k s hk hI=>by
      subst hI
      have hs:=hl.st _ (mem_at Tip.zero hk)
      refine .inl ⟨_,?_,rfl⟩
      have hb:=behD_len A b (l.take k)
      have h3:(l.take k).length * A.length≤1000000 * 16384:=Nat.mul_le_mul (by rw [List.length_take];omega) hal
      show Av_ l x0 b _ k=_
      unfold Av_
      rw [iteO_dt (by omega),grd_mk ⟨hs.1,by rw [h.arcs.len];exact hs.2⟩,beh_in h hl b hk (behD A (l.take k) b) (by omega),take_snoc l hk Tip.zero,behD_snoc])
    (fun s hI=>by
      subst hI
      refine ⟨_,?_,rfl⟩
      rw [List.take_length]
      show Av_ l x0 b _ l.length=_
      unfold Av_
      rw [iteO_df (by omega)];rfl) (s0:=[]) rfl
  rw [←h2];exact h1
end Go.Proofs.YtchebnpdnfhenaaGreatDoor
end

noncomputable section
namespace Go.Proofs.YtchebnpdnfhenaaGreatDoor
open Go Go.E
theorem toU8_nat{k:Nat}(h:k<256):(toU8 ((k:Nat):Int)).toNat=k:=by
  unfold toU8
  rw [IntKind.wrap_u8]
  have:((k:Int) % 256).toNat=k:=by omega
  rw [this,UInt8.toNat_ofNat'];omega
end Go.Proofs.YtchebnpdnfhenaaGreatDoor
end

noncomputable section
namespace Go.Proofs.YtchebnpdnfhenaaGreatDoor
open Go Go.E
def byteD (A : List Arc) (most : Int) (l : List Tip) (b : UInt8) (R : List (List Tip)) : Int ⊕ (List (List Tip) × Int × List UInt8) :=
  if behD A l b=[] then .inr (R, -1,[]) else
  match stripD (behD A l b)with
  | .inl k=> .inl k
  | .inr (f,r)=>match stateD most R r with
    | .inl k=> .inl k
    | .inr (i,R')=> .inr (R',((i:Nat):Int),f)
def bytesD (A : List Arc) (most : Int) (l : List Tip) (R : List (List Tip)) : Nat → Int ⊕ (List (List Tip) × List Int × List (List UInt8))
  |0=> .inr (R,[],[])
  | k + 1 => match bytesD A most l R k with
    | .inl e=> .inl e
    | .inr (R1,N,O)=>match byteD A most l (toU8 ((k:Nat):Int)) R1 with
      | .inl e=> .inl e
      | .inr (R2,z,o)=> .inr (R2,N++[z],O++[o])
def pushQ(q:Seq)(N:List Int)(O:List (List UInt8))(b:Bool)(t:List UInt8):Seq:=⟨q.front,q.next++[N],q.outs++[O],q.fin++[b],q.tail++[t]⟩
def doD (A : List Arc) (E : List Tip) (most : Int) (l : List Tip) (R : List (List Tip)) (q : Seq) : Int ⊕ (List (List Tip) × Seq) :=
  match tailD E l with
  | .inl e=> .inl e
  | .inr (b,t)=>match bytesD A most l R 256 with
    | .inl e=> .inl e
    | .inr (R',N,O)=> .inr (R',pushQ q N O b t)
def allD (A : List Arc) (E : List Tip) (most : Int) : Nat → Nat → List (List Tip) → Seq → Int ⊕ (List (List Tip) × Seq)
  |0,_,R,q=> .inr (R,q)
  | g + 1, s, R, q => if s < R.length then
      match doD A E most (nth R s []) R q with
      | .inl e=> .inl e
      | .inr (R',q')=>allD A E most g (s+1) R' q'
    else .inr (R,q)
def ofT(t:Fst)(most:Int):Int⊕(List (List Tip)×Seq):=
  if t.starts=[] then .inr ([],Seq.zero) else
  match stripD t.starts with
  | .inl e=> .inl e
  | .inr (f,l)=>allD t.arcs t.ends most 1025 0 [l] ⟨f,[],[],[],[]⟩
def ofR:Int⊕(List (List Tip)×Seq)→Seq×Int
  | .inl e=>(Seq.zero,e)
  | .inr (_,q)=>(q,0)
theorem inc_len{n:Int}(hn:0≤n){l:List Tip}(h:l.Pairwise fun x y=>x.state<y.state)(hs: ∀x∈l,0≤x.state∧x.state<n):(l.length:Int)≤n:=by
  have h1:(l.map fun x=>x.state.toNat).Nodup:=by
    rw [List.Nodup,List.pairwise_map]
    refine h.imp_of_mem fun {a b} ha hb q e=> ?_
    have h2:=(hs a ha).1
    have h3:=(hs b hb).1
    omega
  have h2:=len_of_sub h1 (m:=List.range n.toNat) fun x hx=>by
    obtain ⟨y,hy,rfl⟩:=List.mem_map.1 hx
    have:=hs y hy
    rw [List.mem_range];omega
  rw [List.length_map,List.length_range]at h2
  omega
theorem dup_inc {l : List Tip} (h : l.Pairwise fun x y => cmpTip x y < 0) (hd : ¬ dupB l = true) : l.Pairwise fun x y => x.state < y.state := by
  have key: ∀l:List Tip,(l.Pairwise fun x y=>cmpTip x y<0)→ ¬ dupB l=true→l.Pairwise fun x y=>x.state<y.state:=by
    intro l
    induction l with
    |nil=>intro _ _;exact List.Pairwise.nil
    |cons a l ih=>
      intro h hd
      rw [List.pairwise_cons]at h
      cases l with
      |nil=>simp
      |cons b l=>
        rw [dupB,Bool.or_eq_true,decide_eq_true_eq]at hd
        have h1:=ih h.2 (fun q=>hd (.inr q))
        refine List.pairwise_cons.2 ⟨fun x hx=> ?_,h1⟩
        have hab:a.state<b.state:=by
          have h2:=h.1 b (List.mem_cons_self ..)
          have h3:a.state≠b.state:=fun q=>hd (.inl q)
          unfold cmpTip corI cmpI at h2
          repeat' split at h2
          all_goals omega
        rcases List.mem_cons.1 hx with rfl|hx
        · exact hab
        have:=(List.pairwise_cons.1 h1).1 x hx
        omega
  exact key l h hd
theorem strip_row{n:Int}(hn:0≤n∧n≤1024){l:List Tip}(hs: ∀x∈l,0≤x.state∧x.state<n){f:List UInt8}{r:List Tip}(h:stripD l= .inr (f,r)):
    RowOk n r∧f.length≤4096∧(∀x,x∈r↔ ∃y∈l,y.state=x.state∧y.out=f++x.out)∧f=lcpL (l.map Tip.out):=by
  rw [stripD_def]at h
  by_cases c1:dupB (onceL Tip.zero cmpTip l)=true
  · rw [if_pos c1]at h;cases h
  rw [if_neg c1]at h
  by_cases c2:4096<(lcpL (l.map Tip.out)).length
  · rw [if_pos c2]at h;cases h
  rw [if_neg c2]at h
  by_cases c3: ∃x∈onceL Tip.zero cmpTip l,4096<(x.out.drop (lcpL (l.map Tip.out)).length).length
  · rw [if_pos c3]at h;cases h
  rw [if_neg c3]at h
  cases h
  have hso: ∀x∈onceL Tip.zero cmpTip l,0≤x.state∧x.state<n:=fun x hx=>hs x ((mem_onceL ..).1 hx)
  have hinc:=dup_inc (sorted_onceL cmpTip_good l) c1
  have hlen:=inc_len hn.1 hinc hso
  refine ⟨⟨by rw [List.length_map];omega,?_,fun x hx=> ?_,fun x hx=> ?_⟩,by omega,fun x=> ?_,rfl⟩
  · rw [List.pairwise_map];exact hinc
  · obtain ⟨y,hy,rfl⟩:=List.mem_map.1 hx
    exact hso y hy
  · obtain ⟨y,hy,rfl⟩:=List.mem_map.1 hx
    exact Nat.le_of_not_lt fun q=>c3 ⟨y,hy,q⟩
  rw [List.mem_map]
  constructor
  · rintro ⟨y,hy,rfl⟩
    have hm:=(mem_onceL ..).1 hy
    refine ⟨y,hm,rfl,?_⟩
    obtain ⟨u,hu⟩:=lcpL_pre (List.mem_map.2 ⟨y,hm,rfl⟩:y.out∈l.map Tip.out)
    show y.out=_++y.out.drop _
    rw [←hu,List.drop_left]
  rintro ⟨y,hy,h1,h2⟩
  refine ⟨y,(mem_onceL ..).2 hy,?_⟩
  unfold cutT
  rw [h1,h2,List.drop_left]
theorem beh_st{n:Int}{A:List Arc}(hA: ∀a∈A,0≤a.to∧a.to<n)(l:List Tip)(b:UInt8): ∀x∈behD A l b,0≤x.state∧x.state<n:=fun x hx=>by
  obtain ⟨y,_,a,ha,_,_,rfl⟩:=mem_behD.1 hx
  exact hA a ha
theorem beh_out{n:Int}{A:List Arc}(hA: ∀a∈A,a.out.length≤1024){l:List Tip}(hl:RowOk n l)(b:UInt8): ∀x∈behD A l b,x.out.length≤281474976710656:=fun x hx=>by
  obtain ⟨y,hy,a,ha,_,_,rfl⟩:=mem_behD.1 hx
  have h1:=hl.out y hy
  have h2:=hA a ha
  show (y.out++em a b).length≤_
  unfold em
  rw [List.length_append]
  split
  · rw [List.length_append,List.length_singleton];omega
  omega
theorem fill_snoc{α:Type}(l:List α)(m:Nat)(x z:α)(h:l.length<m):(l++List.replicate (m - l.length) z).set l.length x=(l++[x])++List.replicate (m - (l++[x]).length) z:=by
  rw [List.set_append_right _ _ (Nat.le_refl _),Nat.sub_self,List.length_append,List.length_singleton,show m - l.length=(m - (l.length+1))+1 by omega,List.replicate_succ,List.set_cons_zero]
  simp
theorem Hc_{α:Type}(l:List α)(i:Nat)(x y:α):(l.set i x).set i y=l.set i y:=by simp
structure Fits (n:Nat) (A:List Arc) (E:List Tip) (x:Maker):Prop extends Knows n A E x where
  to: ∀a∈A,0≤a.to∧a.to<(n:Int)
  few:n * A.length≤1000000
  m1:1≤x.most
  m2:x.most≤1024
theorem state_len{most:Int}{R R':List (List Tip)}{r:List Tip}{i:Nat}(h:stateD most R r= .inr (i,R'))(hR:(R.length:Int)≤most):(R'.length:Int)≤most∧(∃X,R'=R++X)∧i<R'.length∧nth R' i []=r:=by
  unfold stateD at h
  by_cases c:r∈R
  · rw [if_pos c]at h;cases h
    exact ⟨hR,⟨[],(List.append_nil _).symm⟩,idx_lt c,idx_at c⟩
  rw [if_neg c]at h
  by_cases d:most≤(R.length:Int)
  · rw [if_pos d]at h;cases h
  rw [if_neg d]at h;cases h
  exact ⟨by simp;omega,⟨_,rfl⟩,by simp,nth_app_at R r []⟩
theorem byte_len{A:List Arc}{most:Int}{l:List Tip}{b:UInt8}{R R':List (List Tip)}{z:Int}{o:List UInt8}(h:byteD A most l b R= .inr (R',z,o))(hR:(R.length:Int)≤most):(R'.length:Int)≤most∧ ∃X,R'=R++X:=by
  unfold byteD at h
  by_cases c:behD A l b=[]
  · rw [if_pos c]at h;cases h
    exact ⟨hR,[],(List.append_nil _).symm⟩
  rw [if_neg c]at h
  split at h
  · cases h
  split at h
  · cases h
  rename_i q;cases h
  have:=state_len q hR
  exact ⟨this.1,this.2.1⟩
theorem bytes_len{A:List Arc}{most:Int}{l:List Tip}{R:List (List Tip)}(hR:(R.length:Int)≤most): ∀{k:Nat} {R':List (List Tip)} {N:List Int} {O:List (List UInt8)},bytesD A most l R k= .inr (R',N,O)→(R'.length:Int)≤most∧(∃X,R'=R++X)∧N.length=k∧O.length=k
  |0,R',N,O,h=>by cases h;exact ⟨hR,⟨[],(List.append_nil _).symm⟩,rfl,rfl⟩
  |k+1,R',N,O,h=>by
    rw [bytesD]at h
    split at h
    · cases h
    rename_i R1 N1 O1 q
    obtain ⟨h1,⟨X,h2⟩,h3,h4⟩:=bytes_len hR q
    split at h
    · cases h
    rename_i R2 z o q2
    cases h
    obtain ⟨h5,Y,h6⟩:=byte_len q2 h1
    exact ⟨h5,⟨X++Y,by rw [h6,h2,List.append_assoc]⟩,by simp [h3],by simp [h4]⟩
end Go.Proofs.YtchebnpdnfhenaaGreatDoor
end

noncomputable section
namespace Go.Proofs.YtchebnpdnfhenaaGreatDoor
open Go Go.E
theorem grp_len{β γ:Type}{key:β→Int}{val:β→γ}{n:Nat}{l:List (List γ)}{xs:List β}(h:Grp key val n l xs){i:Nat}(hi:i<n):(nth l i []).length≤xs.length:=by
  rw [h.row i hi,List.length_map];exact List.length_filter_le ..
theorem take_len_le{α:Type}(l:List α)(k:Nat):(l.take k).length≤l.length:=by rw [List.length_take];omega
theorem useful_eq{t:Fst}(ht:FstOk t): ∃on bk,D2_ t=some (t,on,bk)∧Grp Arc.frm Arc.to t.states.toNat on t.arcs∧Grp Arc.to Arc.frm t.states.toNat bk t.arcs:=by
  have h0:=ht.st0
  have h1:=ht.st1
  have hN:=ht.arcsN
  unfold D2_ Dy_
  rw [grd_mk ⟨h0,by omega⟩,grd_mk ⟨h0,by omega⟩]
  obtain ⟨r,h2,on,bk,rfl,h3,h4⟩:=iter_for (step:=fun q:List (List Int)×List (List Int)×Nat=>Bb_ t q.1 q.2.1 q.2.2) (fun (s:List (List Int)×List (List Int)) k=>(s.1,s.2,k)) t.arcs Arc.zero
    (fun pre s=>Grp Arc.frm Arc.to t.states.toNat s.1 pre∧Grp Arc.to Arc.frm t.states.toNat s.2 pre)
    (fun r=> ∃on bk,r=(t,on,bk)∧Grp Arc.frm Arc.to t.states.toNat on t.arcs∧Grp Arc.to Arc.frm t.states.toNat bk t.arcs)
    (fun k s hk ⟨a1,a2⟩=>by
      obtain ⟨b1,b2,b3,b4⟩:=ht.arcs _ (mem_at Arc.zero hk)
      have l1:=a1.len
      have l2:=a2.len
      have r1:=grp_len a1 (i:=(nth t.arcs k Arc.zero).frm.toNat) (by omega)
      have r2:=grp_len a2 (i:=(nth t.arcs k Arc.zero).to.toNat) (by omega)
      have r3:=take_len_le t.arcs k
      refine .inl ⟨(s.1.set (nth t.arcs k Arc.zero).frm.toNat (nth s.1 (nth t.arcs k Arc.zero).frm.toNat []++[(nth t.arcs k Arc.zero).to]),s.2.set (nth t.arcs k Arc.zero).to.toNat (nth s.2 (nth t.arcs k Arc.zero).to.toNat []++[(nth t.arcs k Arc.zero).frm])),?_,a1.snoc b1.1 (by omega),a2.snoc b2.1 (by omega)⟩
      show Bb_ t s.1 s.2 k=_
      unfold Bb_ Dx_ Dw_
      rw [iteO_dt (by omega),grd_mk ⟨b1.1,by omega⟩,grd_mk (by simp only [List.length_singleton];omega),grd_mk ⟨b1.1,by omega⟩,grd_mk ⟨b2.1,by omega⟩,grd_mk (by simp only [List.length_singleton];omega),grd_mk ⟨b2.1,by omega⟩]
      rfl)
    (fun s hI=>⟨(t,s.1,s.2),by
      show Bb_ t s.1 s.2 t.arcs.length=_
      unfold Bb_
      rw [iteO_df (by omega)];rfl,s.1,s.2,rfl,hI.1,hI.2⟩)
    (s0:=(List.replicate t.states.toNat [],List.replicate t.states.toNat [])) ⟨Grp.nil ..,Grp.nil ..⟩
  exact ⟨on,bk,h2,h3,h4⟩
theorem stE_on{t:Fst}(ht:FstOk t){key val:Arc→Int}{l:List (List Int)}(h:Grp key val t.states.toNat l t.arcs)(hk: ∀a∈t.arcs,0≤key a∧key a<t.states):stE l=fun a b=> ∃x∈t.arcs,key x=a∧val x=b:=by
  funext a b
  refine propext ⟨fun ⟨h0,hb⟩=> ?_,fun ⟨x,hx,h1,h2⟩=> ?_⟩
  · have hlt:a.toNat<t.states.toNat:=by
      have:=h.len
      by_cases hl:a.toNat<l.length
      · omega
      unfold nth at hb
      rw [List.getD_eq_getElem?_getD,List.getElem?_eq_none (by omega)]at hb
      simp at hb
    rw [h.row _ hlt,List.mem_map]at hb
    obtain ⟨x,hx,e⟩:=hb
    have:=List.mem_filter.1 hx
    exact ⟨x,this.1,by have:=of_decide_eq_true this.2;omega,e⟩
  have:=hk x hx
  refine ⟨by omega,?_⟩
  rw [h.row _ (by omega),List.mem_map]
  exact ⟨x,List.mem_filter.2 ⟨hx,decide_eq_true (by omega)⟩,h2⟩
theorem grp_rng{t:Fst}{key val:Arc→Int}{l:List (List Int)}(h:Grp key val t.states.toNat l t.arcs)(hk: ∀a∈t.arcs,0≤val a∧val a<t.states): ∀a, ∀z∈nth l a [],0≤z∧z<t.states.toNat:=fun a z hz=>by
  have hl:=h.len
  by_cases ha:a<t.states.toNat
  · rw [h.row _ ha,List.mem_map]at hz
    obtain ⟨x,hx,rfl⟩:=hz
    have:=hk x (List.mem_filter.1 hx).1
    omega
  unfold nth at hz
  rw [List.getD_eq_getElem?_getD,List.getElem?_eq_none (by omega)]at hz
  simp at hz
def NumOk(p:Nat→Bool)(n:Nat)(num:List Int):Prop:=num.length=n∧ ∀s:Int,0≤s→s<n→nth num s.toNat 0=numB p s
theorem keepT_snoc(p:Nat→Bool)(l:List Tip)(k:Nat)(h:k<l.length):keepT p (l.take (k+1))=keepT p (l.take k)++(if 0≤numB p (nth l k Tip.zero).state then [⟨numB p (nth l k Tip.zero).state,(nth l k Tip.zero).out⟩] else []):=by
  rw [take_snoc l h Tip.zero]
  unfold keepT
  rw [List.filterMap_append]
  congr 1
  by_cases hc:0≤numB p (nth l k Tip.zero).state
  · rw [List.filterMap_cons,if_pos hc,if_pos hc];rfl
  rw [List.filterMap_cons,if_neg hc,if_neg hc];rfl
theorem keepA_snoc(p:Nat→Bool)(l:List Arc)(k:Nat)(h:k<l.length):keepA p (l.take (k+1))=keepA p (l.take k)++(if 0≤numB p (nth l k Arc.zero).frm∧0≤numB p (nth l k Arc.zero).to then [⟨numB p (nth l k Arc.zero).frm,numB p (nth l k Arc.zero).to,(nth l k Arc.zero).set,(nth l k Arc.zero).out,(nth l k Arc.zero).copy⟩] else []):=by
  rw [take_snoc l h Arc.zero]
  unfold keepA
  rw [List.filterMap_append]
  congr 1
  by_cases hc:0≤numB p (nth l k Arc.zero).frm∧0≤numB p (nth l k Arc.zero).to
  · rw [List.filterMap_cons,if_pos hc,if_pos hc];rfl
  rw [List.filterMap_cons,if_neg hc,if_neg hc];rfl
theorem trim_arcs{t:Fst}(ht:FstOk t){p:Nat→Bool}{num:List Int}(hn:NumOk p t.states.toNat num)(c:Nat)(S E:List Tip):
    iter (fun q:List Arc×Nat=>Bo_ t num c S E q.1 q.2) (([]:List Arc),0)=bnd (Cl_ ⟨(c:Int),S,E,keepA p t.arcs⟩) (fun v=>some (v.1,v.2)):=by
  have hN:=ht.arcsN
  obtain ⟨r,hr⟩: ∃r,bnd (Cl_ ⟨(c:Int),S,E,keepA p t.arcs⟩) (fun v=>some (v.1,v.2))=some r:=by rw [sort_eq];exact ⟨_,rfl⟩
  rw [hr]
  refine iter_fold t.arcs Arc.zero (fun k=>keepA p (t.arcs.take k)) (fun k hk=> ?_) ?_
  · obtain ⟨b1,b2,b3,b4⟩:=ht.arcs _ (mem_at Arc.zero hk)
    have hl:=keepA_len p (t.arcs.take k)
    have r3:=take_len_le t.arcs k
    have e1:=hn.2 _ b1.1 (by omega)
    have e2:=hn.2 _ b2.1 (by omega)
    have l1:=hn.1
    show Bo_ t num c S E _ k=_
    unfold Bo_ Cv_
    rw [iteO_dt (by omega),grd_mk ⟨b1.1,by omega⟩,grd_mk ⟨b2.1,by omega⟩,e1,e2,keepA_snoc p _ k hk]
    by_cases c1:0≤numB p (nth t.arcs k Arc.zero).frm
    · rw [iteO_dt c1]
      by_cases c2:0≤numB p (nth t.arcs k Arc.zero).to
      · rw [iteO_dt c2,if_pos ⟨c1,c2⟩,grd_mk (by simp only [List.length_singleton];omega)];rfl
      rw [iteO_df c2,if_neg (fun h=>c2 h.2),List.append_nil];rfl
    rw [iteO_df c1,if_neg (fun h=>c1 h.1),List.append_nil];rfl
  show Bo_ t num c S E _ _=_
  unfold Bo_
  rw [iteO_df (by omega),List.take_length,hr];rfl
theorem trim_ends{t:Fst}(ht:FstOk t){p:Nat→Bool}{num:List Int}(hn:NumOk p t.states.toNat num)(c:Nat)(S:List Tip):
    iter (fun q:List Tip×Nat=>Bq_ t num c S q.1 q.2) (([]:List Tip),0)=bnd (Cl_ ⟨(c:Int),S,keepT p t.ends,keepA p t.arcs⟩) (fun v=>some (v.1,v.2)):=by
  have hN:=ht.endsN
  obtain ⟨r,hr⟩: ∃r,bnd (Cl_ ⟨(c:Int),S,keepT p t.ends,keepA p t.arcs⟩) (fun v=>some (v.1,v.2))=some r:=by rw [sort_eq];exact ⟨_,rfl⟩
  rw [hr]
  refine iter_fold t.ends Tip.zero (fun k=>keepT p (t.ends.take k)) (fun k hk=> ?_) ?_
  · obtain ⟨b1,b2⟩:=ht.ends _ (mem_at Tip.zero hk)
    have hl:=keepT_len p (t.ends.take k)
    have r3:=take_len_le t.ends k
    have e1:=hn.2 _ b1.1 (by omega)
    have l1:=hn.1
    show Bq_ t num c S _ k=_
    unfold Bq_ Do_
    rw [iteO_dt (by omega),grd_mk ⟨b1.1,by omega⟩,e1,keepT_snoc p _ k hk]
    by_cases c1:0≤numB p (nth t.ends k Tip.zero).state
    · rw [iteO_dt c1,if_pos c1,grd_mk (by simp only [List.length_singleton];omega)];rfl
    rw [iteO_df c1,if_neg c1,List.append_nil];rfl
  show Bq_ t num c S _ _=_
  unfold Bq_
  rw [iteO_df (by omega),List.take_length,trim_arcs ht hn,hr];rfl
theorem trim_starts{t:Fst}(ht:FstOk t){p:Nat→Bool}{num:List Int}(hn:NumOk p t.states.toNat num)(c:Nat):
    iter (fun q:List Tip×Nat=>Bp_ t num c q.1 q.2) (([]:List Tip),0)=bnd (Cl_ ⟨(c:Int),keepT p t.starts,keepT p t.ends,keepA p t.arcs⟩) (fun v=>some (v.1,v.2)):=by
  have hN:=ht.startsN
  obtain ⟨r,hr⟩: ∃r,bnd (Cl_ ⟨(c:Int),keepT p t.starts,keepT p t.ends,keepA p t.arcs⟩) (fun v=>some (v.1,v.2))=some r:=by rw [sort_eq];exact ⟨_,rfl⟩
  rw [hr]
  refine iter_fold t.starts Tip.zero (fun k=>keepT p (t.starts.take k)) (fun k hk=> ?_) ?_
  · obtain ⟨b1,b2⟩:=ht.starts _ (mem_at Tip.zero hk)
    have hl:=keepT_len p (t.starts.take k)
    have r3:=take_len_le t.starts k
    have e1:=hn.2 _ b1.1 (by omega)
    have l1:=hn.1
    show Bp_ t num c _ k=_
    unfold Bp_ Dr_
    rw [iteO_dt (by omega),grd_mk ⟨b1.1,by omega⟩,e1,keepT_snoc p _ k hk]
    by_cases c1:0≤numB p (nth t.starts k Tip.zero).state
    · rw [iteO_dt c1,if_pos c1,grd_mk (by simp only [List.length_singleton];omega)];rfl
    rw [iteO_df c1,if_neg c1,List.append_nil];rfl
  show Bp_ t num c _ _=_
  unfold Bp_
  rw [iteO_df (by omega),List.take_length,trim_ends ht hn,hr];rfl
theorem number_eq {t : Fst} (ht : FstOk t) {on bk : List (List Int)} (h1 : Grp Arc.frm Arc.to t.states.toNat on t.arcs) (h2 : Grp Arc.to Arc.frm t.states.toNat bk t.arcs) {l0 : List Int} (hl0 : l0.length = t.states.toNat) (hm : ∀ i, i < t.states.toNat → nth l0 i 0 = -1) :
    ∃num,Dj_ (stepY (fun (q:List Int×Nat) (x:Int)=>B3_ q.1 q.2 x)) (0,(l0,0)) (⟨t.states,t.starts,t.ends,t.arcs⟩:Fst) on bk=some (0,(num,cntB (useB t) t.states.toNat))∧NumOk (useB t) t.states.toNat num:=by
  have h0:=ht.st0
  have hs1:=ht.st1
  obtain ⟨ah,a1,a2,a3⟩:=reach_ok (tips:=t.starts) (by omega) h1.len (grp_rng h1 fun a ha=>(ht.arcs a ha).2.1) (fun x hx=>by have:=(ht.starts x hx).1;omega)
  obtain ⟨be,b1,b2,b3⟩:=reach_ok (tips:=t.ends) (by omega) h2.len (grp_rng h2 fun a ha=>(ht.arcs a ha).1) (fun x hx=>by have:=(ht.ends x hx).1;omega)
  rw [stE_on ht h1 fun a ha=>(ht.arcs a ha).1]at a3
  rw [stE_on ht h2 fun a ha=>(ht.arcs a ha).2.1]at b3
  have hp: ∀v,useB t v=(nth ah v false && nth be v false):=fun v=>by
    rw [Bool.eq_iff_iff,Bool.and_eq_true,a3 v,b3 v];exact useB_iff
  unfold Dj_
  rw [bnd_some a1,bnd_some b1]
  obtain ⟨r,e,f⟩:=iter_up (step:=fun q:Nat×(Nat×List Int×Nat)=>A3_ ah be (stepY (fun (q:List Int×Nat) (x:Int)=>B3_ q.1 q.2 x)) q.1 q.2) (fun (s:Nat×List Int×Nat) k=>(k,s)) t.states.toNat
    (fun k s=>s.1=0∧s.2.2=cntB (useB t) k∧s.2.1.length=t.states.toNat∧ ∀i,i<t.states.toNat→nth s.2.1 i 0=if i<k then numB (useB t) i else -1)
    (fun r=>r.1=0∧r.2.2=cntB (useB t) t.states.toNat∧NumOk (useB t) t.states.toNat r.2.1)
    (fun k s hk ⟨c1,c2,c3,c4⟩=>by
      obtain ⟨j,l,c⟩:=s
      obtain rfl:j=0:=c1
      obtain rfl:c=cntB (useB t) k:=c2
      dsimp only at c3 c4
      refine .inl ?_
      show ∃s':Nat×List Int×Nat,A3_ ah be _ k (0,l,cntB (useB t) k)=_∧_
      unfold A3_ B2_
      rw [iteO_dt (by omega)]
      have hk':=hp k
      cases ha:nth ah k false with
      |false=>
        rw [ha,Bool.false_and]at hk'
        refine ⟨(0,l,cntB (useB t) k),rfl,rfl,by simp only [cntB,hk'];rfl,c3,fun i hi=> ?_⟩
        dsimp only
        rw [c4 i hi]
        by_cases e1:i<k
        · rw [if_pos e1,if_pos (by omega)]
        rw [if_neg e1]
        by_cases e2:i<k+1
        · obtain rfl:i=k:=by omega
          rw [if_pos e2];unfold numB;simp [hk']
        rw [if_neg e2]
      |true=>
        rw [iteO_true,grd_mk (by omega)]
        cases hb:nth be k false with
        |false=>
          rw [ha,hb,Bool.true_and]at hk'
          refine ⟨(0,l,cntB (useB t) k),rfl,rfl,by simp only [cntB,hk'];rfl,c3,fun i hi=> ?_⟩
          dsimp only
          rw [c4 i hi]
          by_cases e1:i<k
          · rw [if_pos e1,if_pos (by omega)]
          rw [if_neg e1]
          by_cases e2:i<k+1
          · obtain rfl:i=k:=by omega
            rw [if_pos e2];unfold numB;simp [hk']
          rw [if_neg e2]
        |true=>
          rw [ha,hb,Bool.true_and]at hk'
          have hy:stepY (fun (q:List Int×Nat) (x:Int)=>B3_ q.1 q.2 x) (0,l,cntB (useB t) k) ((k:Nat):Int)=some ((0,l.set k ((cntB (useB t) k:Nat):Int),cntB (useB t) k+1),true):=by
            unfold stepY
            rw [if_pos rfl]
            show (B3_ l (cntB (useB t) k) ((k:Nat):Int)).bind _=_
            unfold B3_
            have hself:=cntB_self (useB t) k
            rw [grd_mk ⟨by omega,by omega⟩,grd_mk (by omega)];rfl
          rw [iteO_true,bnd_some hy]
          refine ⟨(0,l.set k ((cntB (useB t) k:Nat):Int),cntB (useB t) k+1),rfl,rfl,by simp only [cntB,hk',if_true],by rw [List.length_set];exact c3,fun i hi=> ?_⟩
          dsimp only
          rw [nth_set]
          by_cases e1:k=i
          · subst e1
            rw [if_pos ⟨rfl,by omega⟩,if_pos (by omega),numB_pos (by simpa using hk')];simp
          rw [if_neg (fun h=>e1 h.1),c4 i hi]
          by_cases e2:i<k
          · rw [if_pos e2,if_pos (by omega)]
          rw [if_neg e2,if_neg (by omega)])
    (fun s ⟨c1,c2,c3,c4⟩=>⟨s,by
      show A3_ ah be _ _ s=_
      unfold A3_
      rw [iteO_df (by omega)];rfl,c1,c2,c3,fun v h1 h2=>by
        rw [c4 _ (by omega),if_pos (by omega),show ((v.toNat:Nat):Int)=v by omega]⟩)
    (s0:=(0,l0,0)) ⟨rfl,rfl,hl0,fun i hi=>by rw [if_neg (by omega)];exact hm i hi⟩
  obtain ⟨j,num,c⟩:=r
  obtain ⟨f1,f2,f3⟩:=f
  dsimp only at f1 f2 f3
  subst f1 f2
  exact ⟨num,e,f3⟩
def trimD(t:Fst):Fst:=srt (keepF (useB t) t)
theorem ok_rng{t:Fst}(ht:FstOk t):Rng t:=⟨fun x hx=>(ht.starts x hx).1,fun x hx=>(ht.ends x hx).1,fun x hx=>⟨(ht.arcs x hx).1,(ht.arcs x hx).2.1⟩⟩
theorem keep_ok{t:Fst}(ht:FstOk t):FstOk (keepF (useB t) t):=by
  have hr:=keep_rng (t:=t) (r:=keepF (useB t) t) (fun _=>Iff.rfl) (fun _=>Iff.rfl) (fun _=>Iff.rfl) rfl (ok_rng ht)
  have h1:=ht.st1
  have hc:=cntB_self (useB t) t.states.toNat
  have l1:=keepT_len (useB t) t.starts
  have l2:=keepT_len (useB t) t.ends
  have l3:=keepA_len (useB t) t.arcs
  refine ⟨by show (0:Int)≤((cntB (useB t) t.states.toNat:Nat):Int);omega,by have:=ht.st0;show ((cntB (useB t) t.states.toNat:Nat):Int)≤1024;omega,Nat.le_trans l3 ht.arcsN,Nat.le_trans l1 ht.startsN,Nat.le_trans l2 ht.endsN,fun y hy=>⟨hr.starts y hy,?_⟩,fun y hy=>⟨hr.ends y hy,?_⟩,fun y hy=>⟨(hr.arcs y hy).1,(hr.arcs y hy).2,?_⟩⟩
  · obtain ⟨x,hx,_,rfl⟩:=mem_keepT.1 hy;exact (ht.starts x hx).2
  · obtain ⟨x,hx,_,rfl⟩:=mem_keepT.1 hy;exact (ht.ends x hx).2
  obtain ⟨x,hx,_,_,rfl⟩:=mem_keepA.1 hy;exact (ht.arcs x hx).2.2
theorem trim_eq (t : Fst) : D5_ t = some (if fstB t = true then (trimD t, 0) else (⟨0, [], [], []⟩, 1)) := by
  unfold D5_
  rw [E7_,bnd,Option.bind_some,errB_ne]
  by_cases h:fstB t=true
  · have ht:=(fstB_iff t).1 h
    have h0:=ht.st0
    have h1:=ht.st1
    rw [h,Bool.not_true,iteO_false,grd_mk ⟨h0,by omega⟩,if_pos rfl]
    obtain ⟨r,e,rfl⟩:=iter_up (step:=fun q:List Int×Nat=>Bn_ t q.1 q.2) (fun (l:List Int) k=>(l,k)) t.states.toNat
      (fun k l=>l.length=t.states.toNat∧ ∀i,i<k→nth l i 0= -1) (fun r=>r=(trimD t,0))
      (fun k l hk ⟨c1,c2⟩=> .inl ⟨l.set k (-1),by
        show Bn_ t l k=_
        unfold Bn_
        rw [List.length_replicate,iteO_dt (by omega),grd_mk (by omega)];rfl,by rw [List.length_set];exact c1,fun i hi=>by
          rw [nth_set]
          by_cases e1:k=i
          · rw [if_pos ⟨e1,by omega⟩]
          rw [if_neg (fun h=>e1 h.1)];exact c2 i (by omega)⟩)
      (fun l ⟨c1,c2⟩=>⟨(trimD t,0),by
        obtain ⟨on,bk,u1,u2,u3⟩:=useful_eq ht
        obtain ⟨num,v1,v2⟩:=number_eq ht u2 u3 c1 c2
        show Bn_ t l _=_
        unfold Bn_
        rw [List.length_replicate,iteO_df (by omega),bnd_some u1]
        dsimp only
        rw [bnd_some v1]
        unfold E3_
        show fin (iter _ _)=_
        rw [trim_starts ht v2,sort_eq]
        show fin (bnd (some (if fstB (keepF (useB t) t)=true then (srt (keepF (useB t) t),0) else _)) _)=_
        rw [if_pos ((fstB_iff _).2 (keep_ok ht))];rfl,rfl⟩)
      (s0:=List.replicate t.states.toNat 0) ⟨List.length_replicate ..,fun i hi=>by omega⟩
    exact e
  simp only [Bool.not_eq_true]at h
  rw [h];rfl
theorem trimD_ok{t:Fst}(ht:FstOk t):FstOk (trimD t):=srt_ok (keep_ok ht)
end Go.Proofs.YtchebnpdnfhenaaGreatDoor
end

noncomputable section
namespace Go.Proofs.YtchebnpdnfhenaaGreatDoor
open Go Go.E
theorem bytes_err{A:List Arc}{most:Int}{l:List Tip}{R:List (List Tip)}{e:Int}{k:Nat}(h:bytesD A most l R k= .inl e): ∀j,bytesD A most l R (k+j)= .inl e
  |0=>h
  |j+1=>by
    show bytesD A most l R (k+j+1)=_
    rw [bytesD,bytes_err h j]
def DoQ(n:Int)(x0:Maker):Int⊕(List (List Tip)×Seq)→Int⊕Maker→Prop
  | .inl e,r=>r= .inl e
  | .inr (R',q'),r=> ∃m',r= .inr ⟨x0.arcs,x0.ends,x0.most,R',m',q'⟩∧Places n m' R'
theorem Fits.with'{n:Nat}{A:List Arc}{E:List Tip}{x:Maker}(h:Fits n A E x)(R:List (List Tip))(m:FM (List UInt8) Int)(q:Seq):Fits n A E ⟨x.arcs,x.ends,x.most,R,m,q⟩:=
  ⟨⟨h.arcs,h.ends,h.al,h.ao,h.eo,h.hn⟩,h.to,h.few,h.m1,h.m2⟩
structure QOk (q:Seq) (k:Nat):Prop where
  n:q.next.length=k
  o:q.outs.length=k
  e:q.fin.length=k
  t:q.tail.length=k
theorem QOk.push{q:Seq}{k:Nat}(h:QOk q k)(N:List Int)(O:List (List UInt8))(b:Bool)(t:List UInt8):QOk (pushQ q N O b t) (k+1):=⟨by simp [pushQ,h.n],by simp [pushQ,h.o],by simp [pushQ,h.e],by simp [pushQ,h.t]⟩
theorem do_ok {n : Nat} {A : List Arc} {E : List Tip} {x0 : Maker} (h : Fits n A E x0) (hp : Places n x0.places x0.rows) (hR : (x0.rows.length : Int) ≤ x0.most) {s : Nat} (hs : s < x0.rows.length) {c : Nat} (hq : QOk x0.q c) (hc : c ≤ 1024) :
    ∃r,D1_ x0 ((s:Nat):Int)=some r∧DoQ n x0 (doD A E x0.most (nth x0.rows s []) x0.rows x0.q) r:=by
  have hl:RowOk n (nth x0.rows s []):=hp.ok _ (mem_at _ hs)
  have hn:=h.hn
  have hm2:=h.m2
  have hlen:(nth x0.rows s []).length≤n:=by
    have:=inc_len (by omega) hl.inc hl.st
    omega
  unfold D1_ doD
  rw [grd_mk (by omega),Int.toNat_natCast,tail_ok h.toKnows hl,bnd_mk]
  cases htl:tailD E (nth x0.rows s [])with
  |inl e=>exact ⟨_,rfl,rfl⟩
  | inr bt =>
    obtain ⟨bb,tt⟩:=bt
    show ∃r,C2_ x0 ((s:Nat):Int) (bb,tt)=some r∧DoQ n x0 (match bytesD A x0.most (nth x0.rows s []) x0.rows 256 with| .inl e=> .inl e| .inr (R',N,O)=> .inr (R',pushQ x0.q N O bb tt)) r
    unfold C2_
    refine iter_up (step:=fun q:(List (List Tip))×(FM (List UInt8) Int)×(List Int)×(List (List UInt8))×Nat=>A0_ x0 ((s:Nat):Int) (bb,tt) q.1 q.2.1 q.2.2.1 q.2.2.2.1 q.2.2.2.2) (fun (z:List (List Tip)×FM (List UInt8) Int×List Int×List (List UInt8)) k=>(z.1,z.2.1,z.2.2.1,z.2.2.2,k)) 256
      (fun k z=> ∃R N O,bytesD A x0.most (nth x0.rows s []) x0.rows k= .inr (R,N,O)∧Places n z.2.1 R∧z.1=R∧z.2.2.1=N++List.replicate (256 - N.length) 0∧z.2.2.2=O++List.replicate (256 - O.length) [])
      _ ?_ ?_ (s0:=(x0.rows,x0.places,List.replicate 256 0,List.replicate 256 [])) ⟨x0.rows,[],[],rfl,hp,rfl,by simp,by simp⟩
    · rintro k ⟨z1,m,z3,z4⟩ hk ⟨R,N,O,hb,hpl,e1,e3,e4⟩
      simp only at e1 e3 e4 hpl
      subst e1 e3 e4
      obtain ⟨hRl,⟨X,hX⟩,hN,hO⟩:=bytes_len hR hb
      have hfit:=h.with' z1 m x0.q
      have hb1:bytesD A x0.most (nth x0.rows s []) x0.rows (k+1)=match byteD A x0.most (nth x0.rows s []) (toU8 ((k:Nat):Int)) z1 with| .inl e=> .inl e| .inr (R2,z,o)=> .inr (R2,N++[z],O++[o]):=by rw [bytesD,hb]<;>rfl
      have hbl:(behD A (nth x0.rows s []) (toU8 ((k:Nat):Int))).length≤1000000:=by
        have h1:=behD_len A (toU8 ((k:Nat):Int)) (nth x0.rows s [])
        have h2:(nth x0.rows s []).length * A.length≤n * A.length:=Nat.mul_le_mul_right _ hlen
        have h3:=h.few
        omega
      have hkN:k<(N++List.replicate (256 - N.length) (0:Int)).length:=by simp;omega
      have hkO:k<(O++List.replicate (256 - O.length) ([]:List UInt8)).length:=by simp;omega
      have e1:(N++List.replicate (256 - N.length) (0:Int)).set k (-1)=(N++[-1])++List.replicate (256 - (N++[(-1:Int)]).length) 0:=by
        have:=fill_snoc N 256 (-1:Int) 0 (by omega)
        rwa [hN]at this ⊢
      have e2: ∀z:Int,((N++List.replicate (256 - N.length) (0:Int)).set k (-1)).set k z=(N++[z])++List.replicate (256 - (N++[z]).length) 0:=fun z=>by
        rw [Hc_]
        have:=fill_snoc N 256 z 0 (by omega)
        rwa [hN]at this ⊢
      have e3: ∀o:List UInt8,(O++List.replicate (256 - O.length) ([]:List UInt8)).set k o=(O++[o])++List.replicate (256 - (O++[o]).length) []:=fun o=>by
        have:=fill_snoc O 256 o [] (by omega)
        rwa [hO]at this ⊢
      have hO1:O++List.replicate (256 - O.length) ([]:List UInt8)=(O++[[]])++List.replicate (256 - (O++[([]:List UInt8)]).length) []:=by
        rw [List.append_assoc,List.length_append,List.length_singleton,show 256 - O.length=(256 - (O.length+1))+1 by omega,List.replicate_succ];rfl
      -- the step
      have hst:A0_ x0 ((s:Nat):Int) (bb,tt) z1 m (N++List.replicate (256 - N.length) 0) (O++List.replicate (256 - O.length) []) k=
          iteO (decide (0<(((behD A (nth x0.rows s []) (toU8 ((k:Nat):Int))).length:Nat):Int))) (bnd (some (stripD (behD A (nth x0.rows s []) (toU8 ((k:Nat):Int))))) (fun v41=>sumE v41 (fun v41k=>fin (some (.inl v41k))) (fun v41r=>bnd (As_ (⟨x0.arcs,x0.ends,x0.most,z1,m,x0.q⟩:Maker) v41r.2) (fun v52=>sumE v52 (fun v52k=>fin (some (.inl v52k))) (fun v52r=>Bz_ k v52r.2.rows v52r.2.places (((N++List.replicate (256 - N.length) (0:Int)).set k (-1)).set k v52r.1) ((O++List.replicate (256 - O.length) []).set k v41r.1))))))
          (Bz_ k z1 m ((N++List.replicate (256 - N.length) (0:Int)).set k (-1)) (O++List.replicate (256 - O.length) [])):=by
        unfold A0_
        rw [iteO_dt (by omega),grd_mk hkN,Int.toNat_natCast,beh_ok hfit.toKnows hl,bnd_mk,strip_ok hbl (beh_out h.ao hl _)]
        simp only [grd_mk hkO,grd_mk (show k<((N++List.replicate (256 - N.length) (0:Int)).set k (-1)).length by rw [List.length_set];exact hkN)]
      show (∃s':List (List Tip)×FM (List UInt8) Int×List Int×List (List UInt8),A0_ x0 ((s:Nat):Int) (bb,tt) z1 m (N++List.replicate (256 - N.length) 0) (O++List.replicate (256 - O.length) []) k=some (.inl (s'.1,s'.2.1,s'.2.2.1,s'.2.2.2,k+1))∧_)∨ ∃r,A0_ x0 ((s:Nat):Int) (bb,tt) z1 m (N++List.replicate (256 - N.length) 0) (O++List.replicate (256 - O.length) []) k=some (.inr r)∧_
      rw [hst]
      unfold byteD at hb1
      by_cases cb:behD A (nth x0.rows s []) (toU8 ((k:Nat):Int))=[]
      · rw [if_pos cb]at hb1
        left
        refine ⟨(z1,m,_,_),?_,z1,_,_,hb1,hpl,rfl,rfl,rfl⟩
        rw [cb,iteO_df (by simp),e1,hO1];rfl
      rw [if_neg cb]at hb1
      have hpos:0<(behD A (nth x0.rows s []) (toU8 ((k:Nat):Int))).length:=List.length_pos_iff.2 cb
      rw [iteO_dt (by omega),bnd_mk]
      cases hsd:stripD (behD A (nth x0.rows s []) (toU8 ((k:Nat):Int)))with
      |inl e=>
        rw [hsd]at hb1
        right
        refine ⟨.inl e,rfl,?_⟩
        have:=bytes_err hb1 (256 - (k+1))
        rw [show k+1+(256 - (k+1))=256 by omega]at this
        rw [this];rfl
      |inr fr=>
        obtain ⟨f,r⟩:=fr
        rw [hsd]at hb1
        have hrow:=(strip_row (n:=n) (by omega) (beh_st h.to _ _) hsd).1
        obtain ⟨k1,k2⟩:=state_ok (n:=n) (x0:=⟨x0.arcs,x0.ends,x0.most,z1,m,x0.q⟩) (by omega) hpl hrow (show z1.length≤1000000 by omega)
        show (∃s',bnd (As_ ⟨x0.arcs,x0.ends,x0.most,z1,m,x0.q⟩ r) _=_∧_)∨ ∃q,bnd (As_ ⟨x0.arcs,x0.ends,x0.most,z1,m,x0.q⟩ r) _=_∧_
        cases hsn:stateD x0.most z1 r with
        |inl e=>
          simp only [hsn]at hb1
          rw [k1 e hsn,bnd_mk]
          right
          refine ⟨.inl e,rfl,?_⟩
          have:=bytes_err hb1 (256 - (k+1))
          rw [show k+1+(256 - (k+1))=256 by omega]at this
          rw [this];rfl
        |inr iR=>
          obtain ⟨i,R'⟩:=iR
          simp only [hsn]at hb1
          obtain ⟨m',hm1,hm2⟩:=k2 i R' hsn
          rw [hm1,bnd_mk]
          left
          refine ⟨(R',m',_,_),?_,R',_,_,hb1,hm2,rfl,rfl,rfl⟩
          show Bz_ k R' m' _ _=_
          rw [e2,e3];rfl
    rintro ⟨z1,m,z3,z4⟩ ⟨R,N,O,hb,hpl,e1,e3,e4⟩
    simp only at e1 e3 e4 hpl
    subst e1 e3 e4
    obtain ⟨hRl,⟨X,hX⟩,hN,hO⟩:=bytes_len hR hb
    have hq1:=hq.n
    have hq2:=hq.o
    have hq3:=hq.e
    have hq4:=hq.t
    refine ⟨.inr ⟨x0.arcs,x0.ends,x0.most,z1,m,pushQ x0.q N O bb tt⟩,?_,?_⟩
    · show A0_ x0 ((s:Nat):Int) (bb,tt) z1 m (N++List.replicate (256 - N.length) 0) (O++List.replicate (256 - O.length) []) 256=_
      unfold A0_
      rw [iteO_df (by omega),grd_mk (by simp;omega),grd_mk (by simp;omega),grd_mk (by simp;omega),grd_mk (by simp;omega),hN,hO,Nat.sub_self,List.replicate_zero,List.append_nil,List.replicate_zero,List.append_nil]
      rfl
    rw [hb]
    exact ⟨m,rfl,hpl⟩
theorem do_len{A:List Arc}{E:List Tip}{most:Int}{l:List Tip}{R R':List (List Tip)}{q q':Seq}{c:Nat}(h:doD A E most l R q= .inr (R',q'))(hR:(R.length:Int)≤most)(hq:QOk q c):
    (R'.length:Int)≤most∧(∃X,R'=R++X)∧QOk q' (c+1)∧q'.front=q.front:=by
  unfold doD at h
  split at h
  · cases h
  split at h
  · cases h
  rename_i hb
  cases h
  obtain ⟨h1,h2,_,_⟩:=bytes_len hR hb
  exact ⟨h1,h2,hq.push _ _ _ _,rfl⟩
theorem all_run {n : Nat} {A : List Arc} {E : List Tip} {x0 : Maker} (h : Fits n A E x0) (v : (List UInt8) × (List Tip)) : ∀ (g s : Nat) (R : List (List Tip)) (m : FM (List UInt8) Int) (q : Seq), 1025 - s ≤ g → s ≤ R.length → Places n m R → (R.length : Int) ≤ x0.most → QOk q s → q.front = v.1 →
    iter (fun q:(List (List Tip))×(FM (List UInt8) Int)×(List (List Int))×(List (List (List UInt8)))×(List Bool)×(List (List UInt8))×Nat=>At_ x0 v q.1 q.2.1 q.2.2.1 q.2.2.2.1 q.2.2.2.2.1 q.2.2.2.2.2.1 q.2.2.2.2.2.2) (R,m,q.next,q.outs,q.fin,q.tail,s)=some (ofR (allD A E x0.most g s R q))
  |0,s,R,m,q,hg,hs,hp,hR,hq,hf=>by have:=h.m2;omega
  | g + 1, s, R, m, q, hg, hs, hp, hR, hq, hf => by
    have hm2:=h.m2
    rw [allD]
    by_cases c:s<R.length
    · rw [if_pos c]
      have hfit:=h.with' R m q
      obtain ⟨r,h1,h2⟩:=do_ok hfit hp hR c hq (by omega)
      have eq1:(⟨v.1,q.next,q.outs,q.fin,q.tail⟩:Seq)=q:=by rw [←hf]
      have hst:At_ x0 v R m q.next q.outs q.fin q.tail s=sumE r (fun k=>fin (bnd (Ed_ k) (fun v70=>some (v70.1,v70.2)))) (fun r=>nxt (r.rows,r.places,r.q.next,r.q.outs,r.q.fin,r.q.tail,(s+1))):=by
        unfold At_
        rw [iteO_dt (by omega),eq1,h1,bnd_mk]
      cases hd:doD A E x0.most (nth R s []) R q with
      |inl e=>
        have h2:r= .inl e:=by
          have:=h2
          change DoQ n _ (doD A E x0.most (nth R s []) R q) r at this
          rw [hd]at this;exact this
        refine iter_done ?_
        show At_ x0 v R m q.next q.outs q.fin q.tail s=_
        rw [hst,h2];rfl
      |inr rq=>
        obtain ⟨R',q'⟩:=rq
        obtain ⟨m',h3,h4⟩: ∃m',r= .inr ⟨x0.arcs,x0.ends,x0.most,R',m',q'⟩∧Places n m' R':=by
          have:=h2
          change DoQ n _ (doD A E x0.most (nth R s []) R q) r at this
          rw [hd]at this;exact this
        obtain ⟨h5,⟨X,h6⟩,h7,h8⟩:=do_len hd hR hq
        have hlen:R.length≤R'.length:=by rw [h6,List.length_append];omega
        refine iter_next (s':=(R',m',q'.next,q'.outs,q'.fin,q'.tail,s+1)) ?_ (all_run h v g (s+1) R' m' q' (by omega) (by omega) h4 h5 h7 (h8.trans hf))
        show At_ x0 v R m q.next q.outs q.fin q.tail s=_
        rw [hst,h3];rfl
    rw [if_neg c]
    refine iter_done ?_
    show At_ x0 v R m q.next q.outs q.fin q.tail s=_
    have eq1:(⟨v.1,q.next,q.outs,q.fin,q.tail⟩:Seq)=q:=by rw [←hf]
    unfold At_
    rw [iteO_df (by omega),eq1];rfl
theorem all_eq{n:Nat}{t:Fst}{x0:Maker}(h:Fits n t.arcs t.ends x0)(hn:t.states=n)(ht:FstOk t)(hr:x0.rows=[])(hm:x0.places=FM.emp)(hq:x0.q=Seq.zero):Dp_ x0 t=some (ofR (ofT t x0.most)):=by
  have hn2:=h.hn
  have hm1:=h.m1
  unfold Dp_ ofT
  by_cases c:t.starts=[]
  · rw [if_pos c,c,iteO_dt (by simp)];rfl
  rw [if_neg c]
  have hpos:=List.length_pos_iff.2 c
  have hsl:=ht.startsN
  have hss: ∀x∈t.starts,0≤x.state∧x.state<(n:Int):=fun x hx=>by rw [←hn];exact (ht.starts x hx).1
  rw [iteO_df (by omega),grd_mk (by omega),strip_ok (by omega) (fun x hx=>by have:=(ht.starts x hx).2;omega),bnd_mk]
  cases hsd:stripD t.starts with
  |inl e=>rfl
  |inr fl=>
    obtain ⟨f,l⟩:=fl
    have hrow:=(strip_row (n:=n) (by omega) hss hsd).1
    obtain ⟨k1,k2⟩:=state_ok (n:=n) (x0:=⟨x0.arcs,x0.ends,x0.most,x0.rows,x0.places,⟨f,x0.q.next,x0.q.outs,x0.q.fin,x0.q.tail⟩⟩) (by omega) (by rw [hr,hm];exact Places.nil n) hrow (by rw [hr];simp)
    have hsn:stateD x0.most x0.rows l= .inr (0,[l]):=by
      unfold stateD
      rw [hr,if_neg (by simp),if_neg (by simp;omega)];rfl
    obtain ⟨m',h1,h2⟩:=k2 0 [l] hsn
    show bnd (As_ ⟨x0.arcs,x0.ends,x0.most,x0.rows,x0.places,⟨f,x0.q.next,x0.q.outs,x0.q.fin,x0.q.tail⟩⟩ l) _=_
    rw [h1,bnd_mk]
    show iter _ ([l],m',x0.q.next,x0.q.outs,x0.q.fin,x0.q.tail,0)=_
    rw [hq]
    exact all_run h (f,l) 1025 0 [l] m' ⟨f,[],[],[],[]⟩ (by omega) (by simp) h2 (by simp;omega) ⟨rfl,rfl,rfl,rfl⟩ rfl
end Go.Proofs.YtchebnpdnfhenaaGreatDoor
end

noncomputable section
namespace Go.Proofs.YtchebnpdnfhenaaGreatDoor
open Go Go.E
def ofD(t:Fst)(most:Int):Seq×Int:=if fstB t=true∧1≤most∧most≤1024 then ofR (ofT (trimD t) most) else (Seq.zero,1)
theorem of_ends {T : Fst} (hT : FstOk T) {most : Int} (h1 : 1 ≤ most) (h2 : most ≤ 1024) (hf : T.states.toNat * T.arcs.length ≤ 1000000) (e : Int) {la : List (List Arc)} (hG : Grp Arc.frm id T.states.toNat la T.arcs) :
    iter (fun q:(List (List (List UInt8)))×Nat=>Cb_ (T,e) la most q.1 q.2) ((List.replicate T.states.toNat ([]:List (List UInt8))),0)=some (ofR (ofT T most)):=by
  have hs:=hT.st0
  obtain ⟨r,k1,k2⟩:=iter_up (step:=fun q:(List (List (List UInt8)))×Nat=>Cb_ (T,e) la most q.1 q.2) (fun l k=>(l,k)) T.ends.length (fun k l=>Grp Tip.state Tip.out T.states.toNat l (T.ends.take k)) (fun r=>r=ofR (ofT T most))
    (fun k l hk hI=>by
      have hx:=(hT.ends _ (mem_at Tip.zero hk)).1
      have hle:=hI.len
      have hen:=hT.endsN
      have hgl:(nth l (nth T.ends k Tip.zero).state.toNat []).length≤1024:=by
        have h3:=grp_len hI (i:=(nth T.ends k Tip.zero).state.toNat) (by omega)
        rw [List.length_take]at h3;omega
      refine .inl ⟨l.set (nth T.ends k Tip.zero).state.toNat (nth l (nth T.ends k Tip.zero).state.toNat []++[(nth T.ends k Tip.zero).out]),?_,?_⟩
      · show Cb_ (T,e) la most l k=_
        unfold Cb_ Ff_
        show iteO (decide (((k:Nat):Int)<((T.ends.length:Nat):Int))) _ _=_
        rw [iteO_dt (by omega),grd_mk ⟨hx.1,by show (nth T.ends k Tip.zero).state<_;omega⟩,grd_mk (by show ((nth l (nth T.ends k Tip.zero).state.toNat []).length+1) * 16≤_;omega),grd_mk ⟨hx.1,by show (nth T.ends k Tip.zero).state<_;omega⟩];rfl
      rw [take_snoc _ hk Tip.zero]
      exact hI.snoc hx.1 (by omega))
    (fun l hI=>by
      rw [List.take_length]at hI
      refine ⟨_,?_,rfl⟩
      have hfit:Fits T.states.toNat T.arcs T.ends ⟨la,l,most,[],FM.emp,⟨[],[],[],[],[]⟩⟩:=
        ⟨⟨hG,hI,hT.arcsN,fun a ha=>(hT.arcs a ha).2.2.2,fun x hx=>(hT.ends x hx).2,by have:=hT.st1;omega⟩,fun a ha=>by have:=(hT.arcs a ha).2.1;omega,hf,h1,h2⟩
      show Cb_ (T,e) la most l T.ends.length=_
      unfold Cb_
      rw [iteO_df (by show ¬ ((T.ends.length:Nat):Int)<((T.ends.length:Nat):Int);omega),all_eq hfit (by omega) hT rfl rfl rfl,bnd_mk];rfl) (s0:=List.replicate T.states.toNat []) (Grp.nil ..)
  rw [←k2];exact k1
theorem of_all {T : Fst} (hT : FstOk T) {most : Int} (h1 : 1 ≤ most) (h2 : most ≤ 1024) (hf : T.states.toNat * T.arcs.length ≤ 1000000) (e : Int) : Ec_ (T, e) most = some (ofR (ofT T most)) := by
  have hs:=hT.st0
  unfold Ec_
  obtain ⟨r,k1,k2⟩:=iter_up (step:=fun q:(List (List Arc))×Nat=>C4_ (T,e) most q.1 q.2) (fun l k=>(l,k)) T.arcs.length (fun k l=>Grp Arc.frm id T.states.toNat l (T.arcs.take k)) (fun r=>r=ofR (ofT T most))
    (fun k l hk hI=>by
      have hx:=(hT.arcs _ (mem_at Arc.zero hk)).1
      have hle:=hI.len
      have hen:=hT.arcsN
      have hgl:(nth l (nth T.arcs k Arc.zero).frm.toNat []).length≤16384:=by
        have h3:=grp_len hI (i:=(nth T.arcs k Arc.zero).frm.toNat) (by omega)
        rw [List.length_take]at h3;omega
      refine .inl ⟨l.set (nth T.arcs k Arc.zero).frm.toNat (nth l (nth T.arcs k Arc.zero).frm.toNat []++[(nth T.arcs k Arc.zero)]),?_,?_⟩
      · show C4_ (T,e) most l k=_
        unfold C4_ Fe_
        show iteO (decide (((k:Nat):Int)<((T.arcs.length:Nat):Int))) _ _=_
        rw [iteO_dt (by omega),grd_mk ⟨hx.1,by show (nth T.arcs k Arc.zero).frm<_;omega⟩,grd_mk (by show ((nth l (nth T.arcs k Arc.zero).frm.toNat []).length+1) * 72≤_;omega),grd_mk ⟨hx.1,by show (nth T.arcs k Arc.zero).frm<_;omega⟩];rfl
      rw [take_snoc _ hk Arc.zero]
      exact hI.snoc hx.1 (by omega))
    (fun l hI=>by
      rw [List.take_length]at hI
      refine ⟨_,?_,rfl⟩
      show C4_ (T,e) most l T.arcs.length=_
      unfold C4_
      rw [iteO_df (by show ¬ ((T.arcs.length:Nat):Int)<((T.arcs.length:Nat):Int);omega)]
      show fin (iter (fun q:(List (List (List UInt8)))×Nat=>Cb_ (T,e) l most q.1 q.2) ((List.replicate T.states.toNat ([]:List (List UInt8))),0))=_
      rw [of_ends hT h1 h2 hf e hI];rfl) (s0:=List.replicate T.states.toNat []) (Grp.nil ..)
  rw [←k2];exact k1
theorem of_eq(t:Fst)(most:Int)(hf:fstB t=true→(trimD t).states.toNat * (trimD t).arcs.length≤1000000):Fb_ t most=some (ofD t most):=by
  unfold Fb_ ofD
  rw [E7_,bnd_mk]
  cases hb:fstB t with
  |false=>rw [iteO_dt (by decide),if_neg (by simp)];rfl
  |true=>
    have ht:=(fstB_iff t).1 hb
    have hT:=trimD_ok ht
    have h0:=hT.st0
    have h9:=hT.st1
    rw [iteO_df (by decide)]
    by_cases c1:most<1
    · rw [iteO_dt c1,if_neg (fun q=>by omega)];rfl
    rw [iteO_df c1]
    by_cases c2:1024<most
    · rw [iteO_dt c2,if_neg (fun q=>by omega)];rfl
    rw [iteO_df c2,if_pos ⟨rfl,by omega,by omega⟩,trim_eq,hb,if_pos rfl,bnd_mk,iteO_df (by simp)]
    show grd (0≤(trimD t).states∧24 * (trimD t).states.toNat≤281474976710656) (grd (0≤(trimD t).states∧24 * (trimD t).states.toNat≤281474976710656) (Ec_ (trimD t,0) most))=_
    rw [grd_mk ⟨h0,by omega⟩,grd_mk ⟨h0,by omega⟩,of_all hT (by omega) (by omega) (hf hb)]
end Go.Proofs.YtchebnpdnfhenaaGreatDoor
end

noncomputable section
namespace Go.Proofs.YtchebnpdnfhenaaGreatDoor
open Go Go.E
def aFrm(back:Bool)(x:Arc):Int:=if back=true then x.to else x.frm
def aTo(back:Bool)(x:Arc):Int:=if back=true then x.frm else x.to
def aE(t:Fst)(back:Bool)(a b:Int):Prop:= ∃x∈t.arcs,aFrm back x=a∧aTo back x=b
structure GI (t:Fst) (tips:List Tip) (back:Bool) (l:List Bool):Prop where
  len:l.length=t.states.toNat
  sound: ∀v:Nat,nth l v false=true→Rch (fun c=> ∃x∈tips,x.state=c) (aE t back) v
  tip: ∀x∈tips,nth l x.state.toNat false=true
end Go.Proofs.YtchebnpdnfhenaaGreatDoor
end

noncomputable section
namespace Go.Proofs.YtchebnpdnfhenaaGreatDoor
open Go Go.E
end Go.Proofs.YtchebnpdnfhenaaGreatDoor
end

noncomputable section
namespace Go.Proofs.YtchebnpdnfhenaaGreatDoor
open Go Go.E
theorem all_range{n:Nat}{p:Nat→Bool}:(List.range n).all p=true↔ ∀j,j<n→p j=true:=by
  simp [List.all_eq_true,List.mem_range]
theorem iter_chk{R:Type}{step:Nat→Option (Nat⊕R)}{good bad:R}(n:Nat)(p:Nat→Bool)(hy: ∀k,k<n→p k=true→step k=some (.inl (k+1)))(hn: ∀k,k<n→p k=false→step k=some (.inr bad))(hd:step n=some (.inr good)):
    iter step 0=some (if (List.range n).all p=true then good else bad):=by
  have h:=iter_any0 (step:=step) (y:=bad) (no:=good) (fun k=>k) (fun k=> !p k) n (fun k hk h=>hy k hk (by simpa using h)) (fun k hk h=>hn k hk (by simpa using h)) hd
  rw [h,←List.not_all_eq_any_not]
  cases (List.range n).all p<;>rfl
def cellQ(nx:List Int)(os:List (List UInt8))(n b:Nat):Bool:=decide (-1≤nth nx b 0) && decide (nth nx b 0<(n:Int)) && decide ((nth os b []).length≤4096) && (decide (nth nx b 0≠ -1) || decide (nth os b []=[]))
def rowQ(nx:List Int)(os:List (List UInt8))(n:Nat):Bool:=decide (nx.length=256) && decide (os.length=256) && (List.range 256).all (cellQ nx os n)
theorem Gd_ (nx : List Int) (os : List (List UInt8)) (n : Nat) : Fn_ nx os ((n : Nat) : Int) = some (rowQ nx os n) := by
  unfold Fn_ rowQ
  by_cases h1:nx.length=256
  · rw [iteO_df (by omega)]
    by_cases h2:os.length=256
    · rw [iteO_df (by omega),decide_eq_true h1,decide_eq_true h2,Bool.true_and,Bool.true_and]
      have:=iter_chk (step:=fun q:Nat=>C3_ nx ((n:Nat):Int) os q) (good:=true) (bad:=false) 256 (cellQ nx os n) ?_ ?_ ?_
      · rw [this];cases (List.range 256).all (cellQ nx os n)<;>rfl
      · intro k hk hp
        simp only [cellQ,Bool.and_eq_true,Bool.or_eq_true,decide_eq_true_eq]at hp
        obtain ⟨⟨⟨p1,p2⟩,p3⟩,p4⟩:=hp
        simp only [C3_,D6_]
        rw [iteO_dt (by omega),iteO_df (by omega),iteO_df (by omega),grd_mk (by omega),iteO_df (by omega)]
        by_cases c:nth nx k (0:Int)= -1
        · rw [iteO_dt c,grd_mk (by omega),iteO_df (by rcases p4 with p4|p4<;>simp_all)];rfl
        rw [iteO_df c];rfl
      · intro k hk hp
        simp only [C3_,D6_]
        rw [iteO_dt (by omega)]
        by_cases c1:nth nx k (0:Int)< -1
        · rw [iteO_dt c1];rfl
        rw [iteO_df c1]
        by_cases c2:((n:Nat):Int)≤nth nx k (0:Int)
        · rw [iteO_dt c2];rfl
        rw [iteO_df c2,grd_mk (by omega)]
        by_cases c3:4096<(nth os k ([]:List UInt8)).length
        · rw [iteO_dt (by omega)];rfl
        rw [iteO_df (by omega)]
        by_cases c4:nth nx k (0:Int)= -1
        · rw [iteO_dt c4,grd_mk (by omega)]
          by_cases c5:nth os k ([]:List UInt8)=[]
          · exfalso
            simp only [cellQ,c5]at hp
            rw [decide_eq_true (by omega),decide_eq_true (by omega)]at hp
            simp at hp
          rw [iteO_dt c5];rfl
        exfalso
        simp only [cellQ]at hp
        rw [decide_eq_true (by omega),decide_eq_true (by omega),decide_eq_true (by omega),decide_eq_true c4]at hp
        simp at hp
      simp only [C3_]
      rw [iteO_df (by omega)];rfl
    rw [iteO_dt (by omega),decide_eq_false h2];simp
  rw [iteO_dt (by omega),decide_eq_false h1];simp
def stateQ(q:Seq)(s:Nat):Bool:=decide ((nth q.tail s []).length≤4096) && (nth q.fin s false || decide (nth q.tail s []=[])) && rowQ (nth q.next s []) (nth q.outs s []) q.next.length
def shapeQ(q:Seq):Bool:=decide (q.next.length≤1024) && decide (q.outs.length=q.next.length) && decide (q.fin.length=q.next.length) && decide (q.tail.length=q.next.length) && decide (q.front.length≤4096) && (decide (q.next.length≠0) || decide (q.front=[]))
def rightQ(q:Seq):Bool:=shapeQ q && (List.range q.next.length).all (stateQ q)
theorem Gs_ (q : Seq) : Ey_ q = some (if rightQ q = true then 0 else 1) := by
  unfold Ey_
  by_cases h1:q.next.length≤1024
  rotate_left
  · rw [iteO_dt (by omega),if_neg (by simp [rightQ,shapeQ,h1])]
  rw [iteO_df (by omega)]
  by_cases h2:q.outs.length=q.next.length
  rotate_left
  · rw [iteO_dt (by omega),if_neg (by simp [rightQ,shapeQ,h2])]
  rw [iteO_df (by omega)]
  by_cases h3:q.fin.length=q.next.length
  rotate_left
  · rw [iteO_dt (by omega),if_neg (by simp [rightQ,shapeQ,h3])]
  rw [iteO_df (by omega)]
  by_cases h4:q.tail.length=q.next.length
  rotate_left
  · rw [iteO_dt (by omega),if_neg (by simp [rightQ,shapeQ,h4])]
  rw [iteO_df (by omega)]
  by_cases h5:q.front.length≤4096
  rotate_left
  · rw [iteO_dt (by omega),if_neg (by simp [rightQ,shapeQ,h5])]
  rw [iteO_df (by omega)]
  have key:(decide (q.next.length≠0) || decide (q.front=[]))=true→Di_ q=some (if rightQ q=true then 0 else 1):=by
    intro h6
    have hs:shapeQ q=true:=by simp only [shapeQ,h6,Bool.and_true,Bool.and_eq_true,decide_eq_true_eq];exact ⟨⟨⟨⟨h1,h2⟩,h3⟩,h4⟩,h5⟩
    unfold Di_ rightQ
    rw [hs,Bool.true_and]
    refine iter_chk (step:=fun k:Nat=>B7_ q k) q.next.length (stateQ q) ?_ ?_ ?_
    · intro k hk hp
      simp only [stateQ,Bool.and_eq_true,decide_eq_true_eq]at hp
      obtain ⟨⟨p1,p2⟩,p3⟩:=hp
      have hj:B9_ k q=some (.inl (k+1)):=by
        unfold B9_
        rw [grd_mk (by omega),Gd_,bnd_mk,p3];rfl
      simp only [B7_]
      rw [iteO_dt (by omega),grd_mk (by omega),iteO_df (by omega),grd_mk (by omega)]
      cases hf:nth q.fin k false with
      |true=>rw [iteO_nt];exact hj
      |false=>
        rw [hf,Bool.false_or,decide_eq_true_eq]at p2
        rw [iteO_nf,grd_mk (by omega),iteO_df (by simp [p2])];exact hj
    · intro k hk hp
      simp only [B7_]
      rw [iteO_dt (by omega),grd_mk (by omega)]
      by_cases c1:4096<(nth q.tail k ([]:List UInt8)).length
      · rw [iteO_dt (by omega)];rfl
      rw [iteO_df (by omega),grd_mk (by omega)]
      have hj:(nth q.fin k false || decide (nth q.tail k []=[]))=true→B9_ k q=some (.inr 1):=by
        intro hh
        simp only [stateQ,hh,Bool.and_true]at hp
        rw [decide_eq_true (by omega),Bool.true_and]at hp
        unfold B9_
        rw [grd_mk (by omega),Gd_,bnd_mk,hp];rfl
      cases hf:nth q.fin k false with
      |true=>rw [iteO_nt];exact hj (by rw [hf];rfl)
      |false=>
        rw [iteO_nf,grd_mk (by omega)]
        by_cases c2:nth q.tail k ([]:List UInt8)=[]
        · rw [iteO_df (by simp [c2])];exact hj (by rw [c2];simp)
        rw [iteO_dt c2];rfl
    simp only [B7_]
    rw [iteO_df (by omega)];rfl
  by_cases h6:q.next.length=0
  · rw [iteO_dt (by omega)]
    by_cases h7:q.front=[]
    · rw [iteO_df (by simp [h7])];exact key (by simp [h7])
    rw [iteO_dt h7,if_neg (by simp [rightQ,shapeQ,h6,h7])]
  rw [iteO_df (by omega)];exact key (by simp [h6])
theorem writeS_eq(l m:List UInt8)(h:l.length+m.length≤140737488355328):writeS ⟨l⟩ m=some (((m.length:Nat):Int),(),⟨l++m⟩):=by
  unfold writeS
  rw [grd_mk (by omega),show copyCheck (⟨l⟩:SB)=some ⟨l⟩from rfl,bnd_mk,grd_mk h]
def runQ(q:Seq):List UInt8→Nat→Int→List UInt8→List UInt8×Nat×Bool
  |[],i,s,acc=>if nth q.fin s.toNat false=true then (acc++nth q.tail s.toNat [],i,true) else ([],i,false)
  |b::w,i,s,acc=>if nth (nth q.next s.toNat []) b.toNat 0<0 then ([],i,false) else runQ q w (i+1) (nth (nth q.next s.toNat []) b.toNat 0) (acc++nth (nth q.outs s.toNat []) b.toNat [])
def applyQ(q:Seq)(w:List UInt8):List UInt8×Int×Bool×Int:=
  if rightQ q=true then (if q.next.length=0 then ([],0,false,0) else ((runQ q w 0 0 q.front).1,(((runQ q w 0 0 q.front).2.1:Nat):Int),(runQ q w 0 0 q.front).2.2,0)) else ([],0,false,1)
structure CellOk (q:Seq) (s:Int) (b:UInt8):Prop where
  n:b.toNat<(nth q.next s.toNat []).length
  o:b.toNat<(nth q.outs s.toNat []).length
  lo: -1≤nth (nth q.next s.toNat []) b.toNat 0
  hi:nth (nth q.next s.toNat []) b.toNat 0<(q.next.length:Int)
  le:(nth (nth q.outs s.toNat []) b.toNat []).length≤4096
theorem rightQ_shape{q:Seq}(h:rightQ q=true):q.next.length≤1024∧q.outs.length=q.next.length∧q.fin.length=q.next.length∧q.tail.length=q.next.length∧q.front.length≤4096:=by
  simp only [rightQ,shapeQ,Bool.and_eq_true,decide_eq_true_eq]at h
  exact ⟨h.1.1.1.1.1.1,h.1.1.1.1.1.2,h.1.1.1.1.2,h.1.1.1.2,h.1.1.2⟩
theorem rightQ_state{q:Seq}(h:rightQ q=true){s:Int}(h0:0≤s)(h1:s<(q.next.length:Int)):stateQ q s.toNat=true:=by
  simp only [rightQ,Bool.and_eq_true]at h
  exact all_range.1 h.2 _ (by omega)
theorem rightQ_tail{q:Seq}(h:rightQ q=true){s:Int}(h0:0≤s)(h1:s<(q.next.length:Int)):(nth q.tail s.toNat []).length≤4096:=by
  have:=rightQ_state h h0 h1
  simp only [stateQ,Bool.and_eq_true,decide_eq_true_eq]at this
  exact this.1.1
theorem rightQ_cell{q:Seq}(h:rightQ q=true){s:Int}(h0:0≤s)(h1:s<(q.next.length:Int))(b:UInt8):CellOk q s b:=by
  have hs:=rightQ_state h h0 h1
  simp only [stateQ,rowQ,Bool.and_eq_true,decide_eq_true_eq]at hs
  obtain ⟨_,⟨h2,h3⟩,h4⟩:=hs
  have hb:=UInt8.toNat_lt b
  have hc:=all_range.1 h4 b.toNat (by omega)
  simp only [cellQ,Bool.and_eq_true,decide_eq_true_eq]at hc
  exact ⟨by omega,by omega,hc.1.1.1,hc.1.1.2,hc.1.2⟩
theorem drop_nth'{α:Type}(l:List α){k:Nat}(h:k<l.length)(d:α):l.drop k=nth l k d::l.drop (k+1):=by
  rw [List.drop_eq_getElem_cons h]
  congr 1
  have h2:=getD_some l h d
  rw [List.getElem?_eq_getElem h]at h2;exact Option.some.inj h2
theorem apply_loop{q:Seq}(h:rightQ q=true)(w:List UInt8)(hw:w.length≤1000000): ∀(m k:Nat) (s:Int) (acc:List UInt8),w.length - k=m→k≤w.length→0≤s→s<(q.next.length:Int)→acc.length≤4096 * (k+1)→
    iter (fun z:(List UInt8)×Int×Nat=>Ca_ w q z.1 z.2.1 z.2.2) (acc,s,k)=some ((runQ q (w.drop k) k s acc).1,(((runQ q (w.drop k) k s acc).2.1:Nat):Int),(runQ q (w.drop k) k s acc).2.2,0)
  |0,k,s,acc,hm,hk,h0,h1,ha=>by
    obtain ⟨q1,q2,q3,q4,q5⟩:=rightQ_shape h
    have ht:=rightQ_tail h h0 h1
    have e:k=w.length:=by omega
    subst e
    refine iter_done ?_
    simp only [Ca_]
    rw [List.drop_length,runQ,iteO_df (by omega),grd_mk (by omega)]
    cases hf:nth q.fin s.toNat false with
    |false=>rw [iteO_nf];rfl
    |true=>
      rw [iteO_nt,grd_mk (by omega),writeS_eq _ _ (by omega),bnd_mk];rfl
  | m + 1, k, s, acc, hm, hk, h0, h1, ha => by
    obtain ⟨q1,q2,q3,q4,q5⟩:=rightQ_shape h
    obtain ⟨c1,c2,c3,c4,c5⟩:=rightQ_cell h h0 h1 (nth w k (0:UInt8))
    rw [drop_nth' w (show k<w.length by omega) (0:UInt8),runQ]
    by_cases cz:nth (nth q.next s.toNat ([]:List Int)) (nth w k (0:UInt8)).toNat (0:Int)<0
    · refine iter_done ?_
      simp only [Ca_]
      rw [if_pos cz,iteO_dt (by omega),grd_mk (by omega),grd_mk c1,iteO_dt cz];rfl
    rw [if_neg cz]
    refine iter_next (s':=(acc++nth (nth q.outs s.toNat ([]:List (List UInt8))) (nth w k (0:UInt8)).toNat ([]:List UInt8),nth (nth q.next s.toNat ([]:List Int)) (nth w k (0:UInt8)).toNat (0:Int),k+1)) ?_ (apply_loop h w hw m (k+1) _ _ (by omega) (by omega) (by omega) c4 (by rw [List.length_append];omega))
    simp only [Ca_]
    rw [iteO_dt (by omega),grd_mk (by omega),grd_mk c1,iteO_df cz,grd_mk (by omega),grd_mk c2,writeS_eq _ _ (by omega),bnd_mk];rfl
theorem apply_eq(q:Seq)(w:List UInt8)(hw:w.length≤1000000):Eb_ q w=some (applyQ q w):=by
  unfold Eb_ applyQ
  rw [grd_mk (by omega),Gs_,bnd_mk]
  by_cases h:rightQ q=true
  · rw [if_pos h,iteO_df (by omega),if_pos h]
    by_cases h2:q.next.length=0
    · rw [iteO_dt (by omega),if_pos h2]
    rw [iteO_df (by omega),if_neg h2,writeS_eq _ _ (by have:=(rightQ_shape h).2.2.2.2;simp only [List.length_nil];omega),bnd_mk]
    simp only [List.nil_append]
    have:=apply_loop h w hw _ 0 0 q.front rfl (Nat.zero_le _) (by omega) (by omega) (by have:=(rightQ_shape h).2.2.2.2;omega)
    rw [List.drop_zero]at this
    exact this
  rw [if_neg h,iteO_dt (by omega),if_neg h]
end Go.Proofs.YtchebnpdnfhenaaGreatDoor
end

noncomputable section
namespace Go.Proofs.YtchebnpdnfhenaaGreatDoor
open Go Go.E
end Go.Proofs.YtchebnpdnfhenaaGreatDoor
end

noncomputable section
namespace Go.Proofs.YtchebnpdnfhenaaGreatDoor
open Go Go.E
end Go.Proofs.YtchebnpdnfhenaaGreatDoor
end

noncomputable section
namespace Go.Proofs.YtchebnpdnfhenaaGreatDoor
open Go Go.E
end Go.Proofs.YtchebnpdnfhenaaGreatDoor
end

noncomputable section
namespace Go.Proofs.YtchebnpdnfhenaaGreatDoor
open Go Go.E
theorem Wy.coreach{t:Fst}{s q:Int}{w o:List UInt8}(h:Wy t s w o q)(hq:Rch (enS t) (arB t) q):Rch (enS t) (arB t) s:=by
  induction h with
  |nil=>exact hq
  |cons a b ha hb _ ih=>exact .step (ih hq) ⟨a,ha,rfl,rfl⟩
theorem use_at{t:Fst}{a:Int}(h0:0≤a)(h:Use t a):useB t a.toNat=true:=useB_iff.2 (by rw [show ((a.toNat:Nat):Int)=a by omega];exact h)
theorem keep_way{t:Fst}(ht:Rng t){s q:Int}{w o:List UInt8}(h:Wy t s w o q)(hs:Rch (onS t) (arE t) s)(hq:Rch (enS t) (arB t) q):Wy (keepF (useB t) t) (numB (useB t) s) w o (numB (useB t) q):=by
  induction h with
  |nil s=>exact .nil _
  | @cons w o q a b ha hb hw ih=>
    have h1:Rch (onS t) (arE t) a.to:= .step hs ⟨a,ha,rfl,rfl⟩
    have h2:=hw.coreach hq
    have h3:Rch (enS t) (arB t) a.frm:= .step h2 ⟨a,ha,rfl,rfl⟩
    have hr:=ht.arcs a ha
    exact Wy.cons (t:=keepF (useB t) t) (⟨numB (useB t) a.frm,numB (useB t) a.to,a.set,a.out,a.copy⟩:Arc) b (mem_keepA.2 ⟨a,ha,use_at hr.1.1 ⟨hs,h3⟩,use_at hr.2.1 ⟨h1,h2⟩,rfl⟩) hb (ih h1 hq)
theorem keep_back{t:Fst}(ht:Rng t){p:Nat→Bool}{s' q':Int}{w o:List UInt8}(h:Wy (keepF p t) s' w o q'): ∀s:Int,0≤s→p s.toNat=true→s'=numB p s→ ∃q:Int,0≤q∧p q.toNat=true∧q'=numB p q∧Wy t s w o q:=by
  induction h with
  |nil s'=>exact fun s h0 h1 h2=>⟨s,h0,h1,h2,.nil s⟩
  | @cons w o q' a b ha hb hw ih=>
    intro s h0 h1 h2
    obtain ⟨x,hx,h3,h4,rfl⟩:=mem_keepA.1 ha
    dsimp only at h2 ih hb
    have hr:=ht.arcs x hx
    obtain rfl:=numB_inj hr.1.1 h0 h3 h1 h2
    obtain ⟨q,k0,k1,k2,k3⟩:=ih x.to hr.2.1 h4 rfl
    exact ⟨q,k0,k1,k2,Wy.cons x b hx hb k3⟩
end Go.Proofs.YtchebnpdnfhenaaGreatDoor
end

noncomputable section
namespace Go.Proofs.YtchebnpdnfhenaaGreatDoor
open Go Go.E
def RelL(T:Fst)(l:List Tip)(w y:List UInt8):Prop:= ∃x∈l, ∃e∈T.ends, ∃m,Wy T x.state w m e.state∧y=x.out++(m++e.out)
theorem relL_starts{T:Fst}{w y:List UInt8}:RelL T T.starts w y↔Rel T w y:=Iff.rfl
theorem relL_nil{T:Fst}{l:List Tip}{y:List UInt8}:RelL T l [] y↔y∈tailL T.ends l:=by
  rw [mem_tailL]
  constructor
  · rintro ⟨x,hx,e,he,m,hw,rfl⟩
    obtain ⟨rfl,h⟩:=hw.nil_inv
    exact ⟨x,hx,e,he,h,by simp⟩
  rintro ⟨x,hx,e,he,h,rfl⟩
  exact ⟨x,hx,e,he,[],by rw [h];exact .nil _,by simp⟩
theorem relL_cons{T:Fst}{l:List Tip}{b:UInt8}{w y:List UInt8}:RelL T l (b::w) y↔RelL T (behD T.arcs l b) w y:=by
  constructor
  · rintro ⟨x,hx,e,he,m,hw,rfl⟩
    obtain ⟨a,ha,h1,h2,o,h3,rfl⟩:=hw.cons_inv
    exact ⟨⟨a.to,x.out++em a b⟩,mem_behD.2 ⟨x,hx,a,ha,h1,h2,rfl⟩,e,he,o,h3,by simp [List.append_assoc]⟩
  rintro ⟨z,hz,e,he,m,hw,rfl⟩
  obtain ⟨x,hx,a,ha,h1,h2,rfl⟩:=mem_behD.1 hz
  refine ⟨x,hx,e,he,em a b++m,?_,by simp [List.append_assoc]⟩
  rw [←h1];exact .cons a b ha h2 hw
theorem relL_none{T:Fst}{w y:List UInt8}: ¬ RelL T [] w y:=by
  rintro ⟨x,hx,_⟩;cases hx
theorem relL_strip{n:Int}(hn:0≤n∧n≤1024){T:Fst}{l:List Tip}(hs: ∀x∈l,0≤x.state∧x.state<n){f:List UInt8}{r:List Tip}(h:stripD l= .inr (f,r)){w y:List UInt8}:
    RelL T l w y↔ ∃u,y=f++u∧RelL T r w u:=by
  have hm:=(strip_row hn hs h).2.2.1
  have hf:=(strip_row hn hs h).2.2.2
  constructor
  · rintro ⟨x,hx,e,he,m,hw,rfl⟩
    obtain ⟨u,hu⟩:=lcpL_pre (List.mem_map.2 ⟨x,hx,rfl⟩:x.out∈l.map Tip.out)
    rw [←hf]at hu
    refine ⟨u++(m++e.out),by rw [←hu,List.append_assoc],⟨x.state,u⟩,(hm _).2 ⟨x,hx,rfl,hu.symm⟩,e,he,m,hw,rfl⟩
  rintro ⟨u,rfl,x,hx,e,he,m,hw,rfl⟩
  obtain ⟨z,hz,h1,h2⟩:=(hm x).1 hx
  exact ⟨z,hz,e,he,m,by rw [h1];exact hw,by rw [h2,List.append_assoc]⟩
def CellR(A:List Arc)(R:List (List Tip))(l:List Tip)(b:UInt8)(z:Int)(o:List UInt8):Prop:=
  (behD A l b=[]∧z= -1∧o=[])∨(behD A l b≠[]∧0≤z∧z<(R.length:Int)∧stripD (behD A l b)= .inr (o,nth R z.toNat []))
theorem CellR.more{A:List Arc}{R:List (List Tip)}{l:List Tip}{b:UInt8}{z:Int}{o:List UInt8}(h:CellR A R l b z o)(X:List (List Tip)):CellR A (R++X) l b z o:=by
  rcases h with h|⟨h1,h2,h3,h4⟩
  · exact .inl h
  exact .inr ⟨h1,h2,by rw [List.length_append];omega,by rw [nth_app_l (by omega)];exact h4⟩
theorem byte_cell{A:List Arc}{most:Int}{l:List Tip}{b:UInt8}{R R':List (List Tip)}{z:Int}{o:List UInt8}(h:byteD A most l b R= .inr (R',z,o))(hR:(R.length:Int)≤most):CellR A R' l b z o:=by
  unfold byteD at h
  by_cases c:behD A l b=[]
  · rw [if_pos c]at h;cases h
    exact .inl ⟨c,rfl,rfl⟩
  rw [if_neg c]at h
  split at h
  · cases h
  rename_i f r q1
  split at h
  · cases h
  rename_i i R1 q;cases h
  obtain ⟨h1,_,h3,h4⟩:=state_len q hR
  refine .inr ⟨c,by omega,by omega,?_⟩
  rw [Int.toNat_natCast,h4];exact q1
theorem nth_snoc_lt{α:Type}(l:List α)(x d:α){k:Nat}(h:k<l.length):nth (l++[x]) k d=nth l k d:=nth_app_l h d
theorem bytes_cell{A:List Arc}{most:Int}{l:List Tip}{R:List (List Tip)}(hR:(R.length:Int)≤most): ∀{k:Nat} {R':List (List Tip)} {N:List Int} {O:List (List UInt8)},bytesD A most l R k= .inr (R',N,O)→ ∀j,j<k→CellR A R' l (toU8 ((j:Nat):Int)) (nth N j 0) (nth O j [])
  |0,R',N,O,h,j,hj=>by omega
  | k + 1, R', N, O, h, j, hj => by
    rw [bytesD]at h
    split at h
    · cases h
    rename_i R1 N1 O1 q
    obtain ⟨h1,_,h3,h4⟩:=bytes_len hR q
    split at h
    · cases h
    rename_i R2 z o q2
    cases h
    obtain ⟨h5,Y,h6⟩:=byte_len q2 h1
    by_cases c:j<k
    · rw [nth_snoc_lt _ _ _ (by omega),nth_snoc_lt _ _ _ (by omega),h6]
      exact (bytes_cell hR q j c).more Y
    have e:j=k:=by omega
    subst e
    have e1:=nth_app_at N1 z 0
    have e2:=nth_app_at O1 o []
    rw [h3]at e1
    rw [h4]at e2
    rw [e1,e2]
    exact byte_cell q2 h1
structure RowR (A:List Arc) (E:List Tip) (R:List (List Tip)) (l:List Tip) (N:List Int) (O:List (List UInt8)) (b:Bool) (t:List UInt8):Prop where
  tl:tailD E l= .inr (b,t)
  n:N.length=256
  o:O.length=256
  cell: ∀j,j<256→CellR A R l (toU8 ((j:Nat):Int)) (nth N j 0) (nth O j [])
theorem RowR.more{A:List Arc}{E:List Tip}{R:List (List Tip)}{l:List Tip}{N:List Int}{O:List (List UInt8)}{b:Bool}{t:List UInt8}(h:RowR A E R l N O b t)(X:List (List Tip)):RowR A E (R++X) l N O b t:=
  ⟨h.tl,h.n,h.o,fun j hj=>(h.cell j hj).more X⟩
structure Made (A:List Arc) (E:List Tip) (R:List (List Tip)) (q:Seq) (k:Nat):Prop where
  ok:QOk q k
  le:k≤R.length
  row: ∀i,i<k→RowR A E R (nth R i []) (nth q.next i []) (nth q.outs i []) (nth q.fin i false) (nth q.tail i [])
theorem do_made{A:List Arc}{E:List Tip}{most:Int}{R R':List (List Tip)}{q q':Seq}{c:Nat}(h:doD A E most (nth R c []) R q= .inr (R',q'))(hR:(R.length:Int)≤most)(hc:c<R.length)(hq:Made A E R q c):
    Made A E R' q' (c+1):=by
  obtain ⟨_,⟨X,hX⟩,hq',_⟩:=do_len h hR hq.ok
  refine ⟨hq',by rw [hX,List.length_append];omega,fun i hi=> ?_⟩
  unfold doD at h
  split at h
  · cases h
  rename_i b t ht
  split at h
  · cases h
  rename_i R1 N O hb
  cases h
  obtain ⟨_,_,hN,hO⟩:=bytes_len hR hb
  have k1:=hq.ok.n
  have k2:=hq.ok.o
  have k3:=hq.ok.e
  have k4:=hq.ok.t
  unfold pushQ
  by_cases d:i<c
  · rw [nth_snoc_lt _ _ _ (by omega),nth_snoc_lt _ _ _ (by omega),nth_snoc_lt _ _ _ (by omega),nth_snoc_lt _ _ _ (by omega),hX,nth_app_l (by omega)]
    exact (hq.row i d).more X
  have e:i=c:=by omega
  subst e
  have e1:=nth_app_at q.next N []
  have e2:=nth_app_at q.outs O []
  have e3:=nth_app_at q.fin b false
  have e4:=nth_app_at q.tail t []
  rw [k1]at e1
  rw [k2]at e2
  rw [k3]at e3
  rw [k4]at e4
  rw [e1,e2,e3,e4]
  have hcell:=bytes_cell hR hb
  rw [hX,nth_app_l hc]
  rw [hX]at hcell
  exact ⟨ht,hN,hO,hcell⟩
theorem all_made{A:List Arc}{E:List Tip}{most:Int}(hm:most≤1024): ∀(g s:Nat) (R:List (List Tip)) (q:Seq) {R':List (List Tip)} {q':Seq},1025 - s≤g→(R.length:Int)≤most→Made A E R q s→allD A E most g s R q= .inr (R',q')→
    Made A E R' q' R'.length∧(∃X,R'=R++X)∧q'.front=q.front∧(R'.length:Int)≤most
  |0,s,R,q,R',q',hg,hR,hM,h=>by have:=hM.le;omega
  | g + 1, s, R, q, R', q', hg, hR, hM, h => by
    have hle:=hM.le
    rw [allD]at h
    by_cases c:s<R.length
    · rw [if_pos c]at h
      split at h
      · cases h
      rename_i R1 q1 hd
      obtain ⟨h1,⟨X,h2⟩,h3,h4⟩:=do_len hd hR hM.ok
      obtain ⟨k1,⟨Y,k2⟩,k3,k4⟩:=all_made hm g (s+1) R1 q1 (by omega) h1 (do_made hd hR c hM) h
      exact ⟨k1,⟨X++Y,by rw [k2,h2,List.append_assoc]⟩,k3.trans h4,k4⟩
    rw [if_neg c]at h
    cases h
    have e:R.length=s:=by omega
    rw [e]
    exact ⟨hM,⟨[],(List.append_nil _).symm⟩,rfl,by omega⟩
structure IsMade (T:Fst) (R:List (List Tip)) (q:Seq):Prop where
  made:Made T.arcs T.ends R q R.length
  len:R.length≤1024
  pos:0<R.length
  fst:stripD T.starts= .inr (q.front,nth R 0 [])
theorem of_made{T:Fst}{most:Int}(h1:1≤most)(hm:most≤1024){R:List (List Tip)}{q:Seq}(h:ofT T most= .inr (R,q)):(T.starts=[]∧q=Seq.zero)∨(T.starts≠[]∧IsMade T R q∧(R.length:Int)≤most):=by
  unfold ofT at h
  by_cases c:T.starts=[]
  · rw [if_pos c]at h;cases h
    exact .inl ⟨c,rfl⟩
  rw [if_neg c]at h
  split at h
  · cases h
  rename_i f l hs
  obtain ⟨k1,⟨X,k2⟩,k3,k4⟩:=all_made hm 1025 0 [l] ⟨f,[],[],[],[]⟩ (by omega) (by simp;omega) ⟨⟨rfl,rfl,rfl,rfl⟩,by omega,fun i hi=>by omega⟩ h
  refine .inr ⟨c,⟨k1,by omega,by rw [k2];simp,?_⟩,k4⟩
  rw [k3,k2];exact hs
theorem tailD_inr{E l:List Tip}{b:Bool}{t:List UInt8}(h:tailD E l= .inr (b,t)):t.length≤4096∧(b=true∨t=[])∧(b=true→ ∀y,y∈tailL E l↔y=t)∧(b=false→tailL E l=[]):=by
  unfold tailD at h
  by_cases c:Eqs (tailL E l)
  · rw [if_neg (fun q=>q c)]at h
    by_cases d:4096<(lastD (tailL E l)).length
    · rw [if_pos d]at h;cases h
    rw [if_neg d]at h;cases h
    refine ⟨by omega,?_,fun hg y=>⟨fun hy=>c.last hy,fun hy=> ?_⟩,fun hg=> ?_⟩
    · cases hl:tailL E l with
      |nil=>exact .inr rfl
      |cons x m=>exact .inl rfl
    · rw [hy];exact lastD_mem (goesB_iff.1 hg)
    cases hl:tailL E l with
    |nil=>rfl
    |cons x m=>rw [hl]at hg;cases hg
  rw [if_pos c]at h;cases h
theorem toU8_u8(b:UInt8):toU8 ((b.toNat:Nat):Int)=b:=by
  have hb:=UInt8.toNat_lt b
  have:=toU8_nat (k:=b.toNat) (by omega)
  exact UInt8.toNat_inj.1 this
structure Has (n:Nat) (T:Fst):Prop where
  hn:n≤1024
  ss: ∀x∈T.starts,0≤x.state∧x.state<(n:Int)
  to: ∀a∈T.arcs,0≤a.to∧a.to<(n:Int)
theorem has_of{T:Fst}(hT:FstOk T):Has T.states.toNat T:=by
  have h0:=hT.st0
  have h1:=hT.st1
  refine ⟨by omega,fun x hx=> ?_,fun a ha=> ?_⟩
  · have:=(hT.starts x hx).1;omega
  have:=(hT.arcs a ha).2.1;omega
theorem IsMade.right{n:Nat}{T:Fst}(hT:Has n T){R:List (List Tip)}{q:Seq}(h:IsMade T R q):rightQ q=true:=by
  have hn:=hT.hn
  have k1:=h.made.ok.n
  have k2:=h.made.ok.o
  have k3:=h.made.ok.e
  have k4:=h.made.ok.t
  have hl:=h.len
  have hp:=h.pos
  have hf:=(strip_row (n:=n) (by omega) hT.ss h.fst).2.1
  unfold rightQ shapeQ
  rw [decide_eq_true (by omega),decide_eq_true (by omega),decide_eq_true (by omega),decide_eq_true (by omega),decide_eq_true hf,decide_eq_true (show q.next.length≠0 by omega),Bool.true_or]
  rw [Bool.and_true,Bool.and_true,Bool.and_true,Bool.and_true,Bool.and_true,Bool.true_and,all_range]
  intro i hi
  obtain ⟨r1,r2,r3,r4⟩:=h.made.row i (by omega)
  obtain ⟨t1,t2,_,_⟩:=tailD_inr r1
  unfold stateQ rowQ
  rw [decide_eq_true t1,decide_eq_true r2,decide_eq_true r3,Bool.true_and,Bool.and_eq_true]
  constructor
  · rcases t2 with t2|t2
    · rw [t2,Bool.true_or]
    rw [t2];simp
  rw [Bool.true_and,Bool.true_and,all_range]
  intro j hj
  unfold cellQ
  rcases r4 j hj with ⟨c1,c2,c3⟩|⟨c1,c2,c3,c4⟩
  · rw [c2,c3,decide_eq_true (by omega),decide_eq_true (by omega),decide_eq_true (by simp)]
    simp
  have ho:=(strip_row (n:=n) (by omega) (beh_st hT.to _ _) c4).2.1
  rw [decide_eq_true (by omega),decide_eq_true (by omega),decide_eq_true ho,decide_eq_true (show nth (nth q.next i []) j 0≠ -1 by omega)]
  rfl
def RunR(T:Fst)(l:List Tip)(w:List UInt8)(i:Nat)(acc:List UInt8)(r:List UInt8×Nat×Bool):Prop:=
  (r.2.2=true∧r.2.1=i+w.length∧ ∃u,r.1=acc++u∧ ∀y,RelL T l w y↔y=u)∨(r.2.2=false∧r.1=[]∧r.2.1≤i+w.length∧ ∀y, ¬ RelL T l w y)
theorem IsMade.run{n:Nat}{T:Fst}(hT:Has n T){R:List (List Tip)}{q:Seq}(h:IsMade T R q): ∀(w:List UInt8) (i:Nat) (s:Int) (acc:List UInt8),0≤s→s<(R.length:Int)→RunR T (nth R s.toNat []) w i acc (runQ q w i s acc)
  |[],i,s,acc,h0,h1=>by
    obtain ⟨r1,r2,r3,r4⟩:=h.made.row s.toNat (by omega)
    obtain ⟨t1,t2,t3,t4⟩:=tailD_inr r1
    rw [runQ]
    cases c:nth q.fin s.toNat false with
    |true=>
      rw [if_pos rfl]
      exact .inl ⟨rfl,rfl,_,rfl,fun y=>by rw [relL_nil];exact t3 c y⟩
    |false=>
      rw [if_neg (by decide)]
      exact .inr ⟨rfl,rfl,Nat.le_refl _,fun y=>by rw [relL_nil,t4 c];simp⟩
  | b :: w, i, s, acc, h0, h1 => by
    have hn:=hT.hn
    obtain ⟨r1,r2,r3,r4⟩:=h.made.row s.toNat (by omega)
    have hb:=UInt8.toNat_lt b
    have hc:=r4 b.toNat (by omega)
    rw [toU8_u8]at hc
    rw [runQ]
    rcases hc with ⟨c1,c2,c3⟩|⟨c1,c2,c3,c4⟩
    · rw [if_pos (by omega)]
      refine .inr ⟨rfl,rfl,by simp,fun y=> ?_⟩
      rw [relL_cons,c1];exact relL_none
    rw [if_neg (by omega)]
    have hs:=fun y=>relL_strip (n:=n) (T:=T) (w:=w) (y:=y) (by omega) (beh_st hT.to _ _) c4
    rcases IsMade.run hT h w (i+1) (nth (nth q.next s.toNat []) b.toNat 0) (acc++nth (nth q.outs s.toNat []) b.toNat []) c2 c3 with ⟨e1,e2,u,e3,e4⟩|⟨e1,e2,e3,e4⟩
    · refine .inl ⟨e1,by rw [e2,List.length_cons];omega,nth (nth q.outs s.toNat []) b.toNat []++u,by rw [e3,List.append_assoc],fun y=> ?_⟩
      rw [relL_cons,hs]
      constructor
      · rintro ⟨v,rfl,hv⟩;rw [(e4 v).1 hv]
      rintro rfl;exact ⟨u,rfl,(e4 u).2 rfl⟩
    refine .inr ⟨e1,e2,by rw [List.length_cons];omega,fun y=> ?_⟩
    rw [relL_cons,hs]
    rintro ⟨v,rfl,hv⟩;exact e4 v hv
def ApR(P:List UInt8→Prop)(w:List UInt8)(r:List UInt8×Int×Bool×Int):Prop:=
  r.2.2.2=0∧((r.2.2.1=true∧r.2.1=((w.length:Nat):Int)∧ ∀y,P y↔y=r.1)∨(r.2.2.1=false∧r.1=[]∧0≤r.2.1∧r.2.1≤((w.length:Nat):Int)∧ ∀y, ¬ P y))
theorem IsMade.apply{n:Nat}{T:Fst}(hT:Has n T){R:List (List Tip)}{q:Seq}(h:IsMade T R q)(w:List UInt8):ApR (Rel T w) w (applyQ q w):=by
  have hn:=hT.hn
  have k1:=h.made.ok.n
  have hp:=h.pos
  unfold applyQ
  rw [if_pos (h.right hT),if_neg (by omega)]
  have hs:=fun y=>relL_strip (n:=n) (T:=T) (w:=w) (y:=y) (by omega) hT.ss h.fst
  refine ⟨rfl,?_⟩
  rcases h.run hT w 0 0 q.front (by omega) (by omega)with ⟨e1,e2,u,e3,e4⟩|⟨e1,e2,e3,e4⟩
  · refine .inl ⟨e1,by simp only [e2,Nat.zero_add],fun y=> ?_⟩
    show Rel T w y↔y=_
    rw [←relL_starts,hs]
    show _↔y=(runQ q w 0 0 q.front).1
    rw [e3]
    constructor
    · rintro ⟨v,rfl,hv⟩;rw [(e4 v).1 hv]
    rintro rfl;exact ⟨u,rfl,(e4 u).2 rfl⟩
  refine .inr ⟨e1,e2,by simp,by simp only;omega,fun y=> ?_⟩
  rw [←relL_starts,hs]
  rintro ⟨v,rfl,hv⟩;exact e4 v hv
theorem zeroQ_right:rightQ Seq.zero=true:=rfl
theorem zeroQ_apply(w:List UInt8):applyQ Seq.zero w=([],0,false,0):=by
  unfold applyQ
  rw [if_pos zeroQ_right,if_pos (show Seq.zero.next.length=0 from rfl)]
theorem none_rel{T:Fst}(h:T.starts=[])(w y:List UInt8): ¬ Rel T w y:=by
  rintro ⟨x,hx,_⟩
  rw [h]at hx;cases hx
theorem of_apply{T:Fst}{n:Nat}(hT:Has n T){most:Int}(h1:1≤most)(hm:most≤1024){R:List (List Tip)}{q:Seq}(h:ofT T most= .inr (R,q))(w:List UInt8):rightQ q=true∧ApR (Rel T w) w (applyQ q w):=by
  rcases of_made h1 hm h with ⟨h2,rfl⟩|⟨_,h2,_⟩
  · refine ⟨zeroQ_right,?_⟩
    rw [zeroQ_apply]
    exact ⟨rfl,.inr ⟨rfl,rfl,Int.le_refl _,by simp,fun y=>none_rel h2 w y⟩⟩
  exact ⟨h2.right hT,h2.apply hT w⟩
end Go.Proofs.YtchebnpdnfhenaaGreatDoor
end

noncomputable section
namespace Go.Proofs.YtchebnpdnfhenaaGreatDoor
open Go Go.E
section
variable {α:Type} (cf:α→α→Int)
def insG(x:α):List α→List α
  |[]=>[x]
  |y::l=>if cf y x<0 then y::insG x l else x::y::l
def isortG:List α→List α
  |[]=>[]
  |x::l=>insG cf x (isortG l)
theorem insG_perm(x:α): ∀l,(insG cf x l).Perm (x::l)
  |[]=>List.Perm.refl _
  |y::l=>by
    unfold insG
    split
    · exact ((insG_perm x l).cons y).trans (List.Perm.swap x y l)
    exact List.Perm.refl _
theorem isortG_perm: ∀l,(isortG cf l).Perm l
  |[]=>List.Perm.refl _
  |x::l=>(insG_perm cf x _).trans ((isortG_perm l).cons x)
variable {cf} [DecidableEq α] (hc:GoodCmp cf)
include hc
theorem insG_sorted (x : α) : ∀ l : List α, l.Pairwise (fun x y => ¬ cf y x < 0) → (insG cf x l).Pairwise fun x y => ¬ cf y x < 0
  |[],_=>List.pairwise_singleton _ _
  | y :: l, h => by
    obtain ⟨h1,h2⟩:=List.pairwise_cons.1 h
    unfold insG
    split
    · rename_i h3
      refine List.pairwise_cons.2 ⟨fun z hz=> ?_,insG_sorted x l h2⟩
      rcases List.mem_cons.1 ((insG_perm cf x l).mem_iff.1 hz)with rfl|hz
      · have:=hc.anti y z
        omega
      exact h1 z hz
    rename_i h3
    refine List.pairwise_cons.2 ⟨fun z hz=> ?_,h⟩
    rcases List.mem_cons.1 hz with rfl|hz
    · exact h3
    exact hc.le_trans h3 (h1 z hz)
theorem isortG_sorted: ∀l:List α,(isortG cf l).Pairwise fun x y=> ¬ cf y x<0
  |[]=>List.Pairwise.nil
  |x::l=>insG_sorted hc x _ (isortG_sorted l)
theorem isortG_eq(l:List α):isortG cf l=sortL cf l:=by
  refine List.Perm.eq_of_pairwise (le:=fun x y=> ¬ cf y x<0) (fun x y _ _ h k=> ?_) (isortG_sorted hc l) (F1_ hc l) ((isortG_perm cf l).trans (List.mergeSort_perm l _).symm)
  have e:=hc.eq x y
  have a:=hc.anti y x
  exact e.1 (by omega)
end
theorem isortT_eq(l:List Tip):isortG cmpTip l=sortL cmpTip l:=isortG_eq cmpTip_good l
end Go.Proofs.YtchebnpdnfhenaaGreatDoor
end

noncomputable section
namespace Go.Proofs.YtchebnpdnfhenaaGreatDoor
open Go Go.E Go.E.OpVal Go.E.OpOk Go.Proofs.Tryz
theorem pf14:plainF Tryz.prog 14=true:=by kernel_rfl
theorem pf19:plainF Tryz.prog 19=true:=by kernel_rfl
theorem pf51:plainF Tryz.prog 51=true:=by kernel_rfl
def Aa_:Option (Bool):=
 grd ([(97:UInt8)].length≤1000000000000) (grd ([(98:UInt8)].length≤1000000000000) (grd ([(99:UInt8)].length≤1000000000000) (bnd (Fb_ (⟨4,[(⟨0,([]:List UInt8)⟩:Tip)],[(⟨3,([]:List UInt8)⟩:Tip)],[(⟨0,1,(BSet.ofL [(97:UInt8)]),([120]:List UInt8),false⟩:Arc),(⟨0,2,(BSet.ofL [(97:UInt8)]),([121]:List UInt8),false⟩:Arc),(⟨1,3,(BSet.ofL [(98:UInt8)]),([]:List UInt8),false⟩:Arc),(⟨2,3,(BSet.ofL [(99:UInt8)]),([]:List UInt8),true⟩:Arc)]⟩:Fst) 9) (fun v25=>bnd (Eb_ v25.1 ([97,99]:List UInt8)) (fun v33=>iteO (decide (v25.2=0)) (iteO (decide (((v25.1.next.length:Nat):Int)=3)) (iteO (decide (v33.1=([121,99]:List UInt8))) (iteO (decide (v33.2.1=2)) (iteO v33.2.2.1 (some (decide (v33.2.2.2=v25.2))) (some false)) (some false)) (some false)) (some false)) (some false))))))
theorem Db_(hgl:GT2 σ 1 2){r:Bool}(hh:Aa_=some r):
  Con Tryz.prog 16 #[] σ [] (PureP (.bool r) σ):=by
 dsimp only [Aa_]at hh
 refine Con.mk (n:=63) Tryz.func16 z z z (fun w0=> ?_)
 refine TC.a (TL.j z z (TL.en (TC.a (TL.op z (OpOk.lit (enc:=encU8) [(97:UInt8)] z underlying60 sz5 ze5 z z z encU8_len (by decide) (by decide) (0:UInt8) z (by decide) z (by decide) encU8_one (fun a101 c102=> ?_))))))
 have u3:=grd_c hh
 replace hh:=grd_t hh
 refine TL.op z (callT (of_con _ _ _ [(97:UInt8)] u3) z z pf51 z z z z ?_)
 refine TL.op z (OpOk.alloc z ze64 z z (fun b104=> ?_))
 refine TL.op z (storeAll z sz64 z z z z z z ?_)
 refine TL.en (TC.seq ?_)
 have u15:=grd_c hh
 replace hh:=grd_t hh
 have u18:=grd_c hh
 replace hh:=grd_t hh
 refine TC.draw [17] (by kernel_rfl) (TA.par (f:=1) (E:=fun e γ=>upd (upd (upd (upd (upd (upd (upd (upd (upd (upd (upd (upd (upd (upd (upd (upd (upd (e) 11 (.agg #[.int .i64 0,.string (bs ([]:List UInt8))])) 12 (.slice (γ 1).1 ([(⟨0,([]:List UInt8)⟩:Tip)].length) (γ 1).2)) 13 (.agg #[.int .i64 3,.string (bs ([]:List UInt8))])) 14 (.slice (γ 3).1 ([(⟨3,([]:List UInt8)⟩:Tip)].length) (γ 3).2)) 15 (setV (BSet.ofL [(97:UInt8)]))) 16 (.agg #[.int .i64 0,.int .i64 1,.int .u64 (((BSet.ofL [(97:UInt8)]).a:Nat):Int),.int .u64 (((BSet.ofL [(97:UInt8)]).b:Nat):Int),.int .u64 (((BSet.ofL [(97:UInt8)]).c:Nat):Int),.int .u64 (((BSet.ofL [(97:UInt8)]).d:Nat):Int),.string (bs ([120]:List UInt8)),.bool false])) 17 (setV (BSet.ofL [(97:UInt8)]))) 18 (.agg #[.int .i64 0,.int .i64 2,.int .u64 (((BSet.ofL [(97:UInt8)]).a:Nat):Int),.int .u64 (((BSet.ofL [(97:UInt8)]).b:Nat):Int),.int .u64 (((BSet.ofL [(97:UInt8)]).c:Nat):Int),.int .u64 (((BSet.ofL [(97:UInt8)]).d:Nat):Int),.string (bs ([121]:List UInt8)),.bool false])) 19 (.slice (γ 8).1 ([(98:UInt8)].length) (γ 8).2)) 20 (setV (BSet.ofL [(98:UInt8)]))) 21 (.agg #[.int .i64 1,.int .i64 3,.int .u64 (((BSet.ofL [(98:UInt8)]).a:Nat):Int),.int .u64 (((BSet.ofL [(98:UInt8)]).b:Nat):Int),.int .u64 (((BSet.ofL [(98:UInt8)]).c:Nat):Int),.int .u64 (((BSet.ofL [(98:UInt8)]).d:Nat):Int),.string (bs ([]:List UInt8)),.bool false])) 22 (.slice (γ 11).1 ([(99:UInt8)].length) (γ 11).2)) 23 (setV (BSet.ofL [(99:UInt8)]))) 24 (.agg #[.int .i64 2,.int .i64 3,.int .u64 (((BSet.ofL [(99:UInt8)]).a:Nat):Int),.int .u64 (((BSet.ofL [(99:UInt8)]).b:Nat):Int),.int .u64 (((BSet.ofL [(99:UInt8)]).c:Nat):Int),.int .u64 (((BSet.ofL [(99:UInt8)]).d:Nat):Int),.string (bs ([]:List UInt8)),.bool true])) 25 (.slice (γ 14).1 ([(⟨0,1,(BSet.ofL [(97:UInt8)]),([120]:List UInt8),false⟩:Arc),(⟨0,2,(BSet.ofL [(97:UInt8)]),([121]:List UInt8),false⟩:Arc),(⟨1,3,(BSet.ofL [(98:UInt8)]),([]:List UInt8),false⟩:Arc),(⟨2,3,(BSet.ofL [(99:UInt8)]),([]:List UInt8),true⟩:Arc)].length) (γ 14).2)) 26 (.agg #[.int .i64 4,.slice (γ 1).1 ([(⟨0,([]:List UInt8)⟩:Tip)].length) (γ 1).2,.slice (γ 3).1 ([(⟨3,([]:List UInt8)⟩:Tip)].length) (γ 3).2,.slice (γ 14).1 ([(⟨0,1,(BSet.ofL [(97:UInt8)]),([120]:List UInt8),false⟩:Arc),(⟨0,2,(BSet.ofL [(97:UInt8)]),([121]:List UInt8),false⟩:Arc),(⟨1,3,(BSet.ofL [(98:UInt8)]),([]:List UInt8),false⟩:Arc),(⟨2,3,(BSet.ofL [(99:UInt8)]),([]:List UInt8),true⟩:Arc)].length) (γ 14).2])) 2 (loc (γ 16).2 0)) (Hn:=fun γ=>[Res.cells b104 (setA (BSet.ofL [(97:UInt8)])) 64,Res.rowS 76 2 encTip (.slice (γ 1).1 [(⟨0,([]:List UInt8)⟩:Tip)].length (γ 1).2) [(⟨0,([]:List UInt8)⟩:Tip)],Res.rowS 76 2 encTip (.slice (γ 3).1 [(⟨3,([]:List UInt8)⟩:Tip)].length (γ 3).2) [(⟨3,([]:List UInt8)⟩:Tip)],Res.rowS 66 8 encArc (.slice (γ 14).1 [(⟨0,1,(BSet.ofL [(97:UInt8)]),([120]:List UInt8),false⟩:Arc),(⟨0,2,(BSet.ofL [(97:UInt8)]),([121]:List UInt8),false⟩:Arc),(⟨1,3,(BSet.ofL [(98:UInt8)]),([]:List UInt8),false⟩:Arc),(⟨2,3,(BSet.ofL [(99:UInt8)]),([]:List UInt8),true⟩:Arc)].length (γ 14).2) [(⟨0,1,(BSet.ofL [(97:UInt8)]),([120]:List UInt8),false⟩:Arc),(⟨0,2,(BSet.ofL [(97:UInt8)]),([121]:List UInt8),false⟩:Arc),(⟨1,3,(BSet.ofL [(98:UInt8)]),([]:List UInt8),false⟩:Arc),(⟨2,3,(BSet.ofL [(99:UInt8)]),([]:List UInt8),true⟩:Arc)],Res.cells (γ 16).2 #[.int .i64 0,.slice none 0 0,.slice none 0 0,.slice none 0 0] 25]) [⟨11,[],fun _=> .agg #[.int .i64 0,.string (bs ([]:List UInt8))],fun _=>[],[]⟩,⟨12,[1],fun l=>match l with|[(a123,c124)]=> .slice a123 ([(⟨0,([]:List UInt8)⟩:Tip)].length) c124|_=>undef,fun l=>match l with|[(a123,c124)]=>[Res.rowS 76 2 encTip (.slice a123 [(⟨0,([]:List UInt8)⟩:Tip)].length c124) [(⟨0,([]:List UInt8)⟩:Tip)]]|_=>[],[]⟩,⟨13,[],fun _=> .agg #[.int .i64 3,.string (bs ([]:List UInt8))],fun _=>[],[]⟩,⟨14,[3],fun l=>match l with|[(a126,c127)]=> .slice a126 ([(⟨3,([]:List UInt8)⟩:Tip)].length) c127|_=>undef,fun l=>match l with|[(a126,c127)]=>[Res.rowS 76 2 encTip (.slice a126 [(⟨3,([]:List UInt8)⟩:Tip)].length c127) [(⟨3,([]:List UInt8)⟩:Tip)]]|_=>[],[]⟩,⟨15,[],fun _=>setV (BSet.ofL [(97:UInt8)]),fun _=>[],[]⟩,⟨16,[],fun _=> .agg #[.int .i64 0,.int .i64 1,.int .u64 (((BSet.ofL [(97:UInt8)]).a:Nat):Int),.int .u64 (((BSet.ofL [(97:UInt8)]).b:Nat):Int),.int .u64 (((BSet.ofL [(97:UInt8)]).c:Nat):Int),.int .u64 (((BSet.ofL [(97:UInt8)]).d:Nat):Int),.string (bs ([120]:List UInt8)),.bool false],fun _=>[],[]⟩,⟨17,[],fun _=>setV (BSet.ofL [(97:UInt8)]),fun _=>[],[]⟩,⟨18,[],fun _=> .agg #[.int .i64 0,.int .i64 2,.int .u64 (((BSet.ofL [(97:UInt8)]).a:Nat):Int),.int .u64 (((BSet.ofL [(97:UInt8)]).b:Nat):Int),.int .u64 (((BSet.ofL [(97:UInt8)]).c:Nat):Int),.int .u64 (((BSet.ofL [(97:UInt8)]).d:Nat):Int),.string (bs ([121]:List UInt8)),.bool false],fun _=>[],[]⟩,⟨19,[8],fun l=>match l with|[(a129,c130)]=> .slice a129 ([(98:UInt8)].length) c130|_=>undef,fun l=>match l with|[(a129,c130)]=>[Res.rowS 5 1 encU8 (.slice a129 [(98:UInt8)].length c130) [(98:UInt8)]]|_=>[],[]⟩,⟨20,[],fun _=>setV (BSet.ofL [(98:UInt8)]),fun _=>[],[8]⟩,⟨21,[],fun _=> .agg #[.int .i64 1,.int .i64 3,.int .u64 (((BSet.ofL [(98:UInt8)]).a:Nat):Int),.int .u64 (((BSet.ofL [(98:UInt8)]).b:Nat):Int),.int .u64 (((BSet.ofL [(98:UInt8)]).c:Nat):Int),.int .u64 (((BSet.ofL [(98:UInt8)]).d:Nat):Int),.string (bs ([]:List UInt8)),.bool false],fun _=>[],[]⟩,⟨22,[11],fun l=>match l with|[(a132,c133)]=> .slice a132 ([(99:UInt8)].length) c133|_=>undef,fun l=>match l with|[(a132,c133)]=>[Res.rowS 5 1 encU8 (.slice a132 [(99:UInt8)].length c133) [(99:UInt8)]]|_=>[],[]⟩,⟨23,[],fun _=>setV (BSet.ofL [(99:UInt8)]),fun _=>[],[11]⟩,⟨24,[],fun _=> .agg #[.int .i64 2,.int .i64 3,.int .u64 (((BSet.ofL [(99:UInt8)]).a:Nat):Int),.int .u64 (((BSet.ofL [(99:UInt8)]).b:Nat):Int),.int .u64 (((BSet.ofL [(99:UInt8)]).c:Nat):Int),.int .u64 (((BSet.ofL [(99:UInt8)]).d:Nat):Int),.string (bs ([]:List UInt8)),.bool true],fun _=>[],[]⟩,⟨25,[14],fun l=>match l with|[(a135,c136)]=> .slice a135 ([(⟨0,1,(BSet.ofL [(97:UInt8)]),([120]:List UInt8),false⟩:Arc),(⟨0,2,(BSet.ofL [(97:UInt8)]),([121]:List UInt8),false⟩:Arc),(⟨1,3,(BSet.ofL [(98:UInt8)]),([]:List UInt8),false⟩:Arc),(⟨2,3,(BSet.ofL [(99:UInt8)]),([]:List UInt8),true⟩:Arc)].length) c136|_=>undef,fun l=>match l with|[(a135,c136)]=>[Res.rowS 66 8 encArc (.slice a135 [(⟨0,1,(BSet.ofL [(97:UInt8)]),([120]:List UInt8),false⟩:Arc),(⟨0,2,(BSet.ofL [(97:UInt8)]),([121]:List UInt8),false⟩:Arc),(⟨1,3,(BSet.ofL [(98:UInt8)]),([]:List UInt8),false⟩:Arc),(⟨2,3,(BSet.ofL [(99:UInt8)]),([]:List UInt8),true⟩:Arc)].length c136) [(⟨0,1,(BSet.ofL [(97:UInt8)]),([120]:List UInt8),false⟩:Arc),(⟨0,2,(BSet.ofL [(97:UInt8)]),([121]:List UInt8),false⟩:Arc),(⟨1,3,(BSet.ofL [(98:UInt8)]),([]:List UInt8),false⟩:Arc),(⟨2,3,(BSet.ofL [(99:UInt8)]),([]:List UInt8),true⟩:Arc)]]|_=>[],[]⟩,⟨26,[1,3,14],fun l=>match l with|[(a123,c124),(a126,c127),(a135,c136)]=> .agg #[.int .i64 4,.slice a123 ([(⟨0,([]:List UInt8)⟩:Tip)].length) c124,.slice a126 ([(⟨3,([]:List UInt8)⟩:Tip)].length) c127,.slice a135 ([(⟨0,1,(BSet.ofL [(97:UInt8)]),([120]:List UInt8),false⟩:Arc),(⟨0,2,(BSet.ofL [(97:UInt8)]),([121]:List UInt8),false⟩:Arc),(⟨1,3,(BSet.ofL [(98:UInt8)]),([]:List UInt8),false⟩:Arc),(⟨2,3,(BSet.ofL [(99:UInt8)]),([]:List UInt8),true⟩:Arc)].length) c136]|_=>undef,fun _=>[],[]⟩,⟨2,[16],fun l=>match l with|[(_,b138)]=>loc b138 0|_=>undef,fun l=>match l with|[(_,b138)]=>[Res.cells b138 #[.int .i64 0,.slice none 0 0,.slice none 0 0,.slice none 0 0] 25]|_=>[],[]⟩] (And.intro (And.intro (And.intro (And.intro (And.intro (And.intro (And.intro (And.intro (And.intro (And.intro (And.intro (And.intro (And.intro (And.intro (And.intro (And.intro (And.intro (True.intro) ?_) ?_) ?_) ?_) ?_) ?_) ?_) ?_) ?_) ?_) ?_) ?_) ?_) ?_) ?_) ?_) ?_) (fun γ=> ?_))
 ·refine ⟨_,z,z,fun e γ F hd ho=> ?_⟩
  show OpOk _ _ _ _ ((Res.cells b104 (setA (BSet.ofL [(97:UInt8)])) 64)::F) _
  exact OpVal.ok (buildL z pl76 ze76 z) z z ⟨z,(none,0),z,List.Perm.refl _⟩
 ·refine ⟨_,z,z,fun e γ F hd ho=> ?_⟩
  rw [←upds_of_has (e:=e) (l:=[(11,.agg #[.int .i64 0,.string (bs ([]:List UInt8))])]) ⟨hd 0 (by kernel_rfl) rfl,trivial⟩]
  show OpOk _ _ _ _ ((Res.cells b104 (setA (BSet.ofL [(97:UInt8)])) 64)::F) _
  exact OpOk.lit (enc:=encTip) [(⟨0,([]:List UInt8)⟩:Tip)] z underlying22 sz76 ze76 z z z encTip_len (by decide) (by decide) Tip.zero z (by decide) z (by decide) encTip_one (fun a140 c141=>⟨z,(a140,c141),z,List.Perm.refl _⟩)
 ·refine ⟨_,z,z,fun e γ F hd ho=> ?_⟩
  show OpOk _ _ _ _ ((Res.cells b104 (setA (BSet.ofL [(97:UInt8)])) 64)::F) _
  exact OpVal.ok (buildL z pl76 ze76 z) z z ⟨z,(none,0),z,List.Perm.refl _⟩
 ·refine ⟨_,z,z,fun e γ F hd ho=> ?_⟩
  rw [←upds_of_has (e:=e) (l:=[(13,.agg #[.int .i64 3,.string (bs ([]:List UInt8))])]) ⟨hd 2 (by kernel_rfl) rfl,trivial⟩]
  show OpOk _ _ _ _ ((Res.cells b104 (setA (BSet.ofL [(97:UInt8)])) 64)::F) _
  exact OpOk.lit (enc:=encTip) [(⟨3,([]:List UInt8)⟩:Tip)] z underlying22 sz76 ze76 z z z encTip_len (by decide) (by decide) Tip.zero z (by decide) z (by decide) encTip_one (fun a143 c144=>⟨z,(a143,c144),z,List.Perm.refl _⟩)
 ·refine ⟨_,z,z,fun e γ F hd ho=> ?_⟩
  rw [←upds_of_has (e:=e) (l:=[(1,loc b104 0)]) ⟨ho 1 rfl,trivial⟩]
  show OpOk _ _ _ _ ((Res.cells b104 (setA (BSet.ofL [(97:UInt8)])) 64)::F) _
  exact OpVal.ok (loadAll z ag64 sz64 z (i:=0) z z) z z ⟨z,(none,0),z,List.Perm.refl _⟩
 ·refine ⟨_,z,z,fun e γ F hd ho=> ?_⟩
  rw [←upds_of_has (e:=e) (l:=[(15,setV (BSet.ofL [(97:UInt8)]))]) ⟨hd 4 (by kernel_rfl) rfl,trivial⟩]
  show OpOk _ _ _ _ ((Res.cells b104 (setA (BSet.ofL [(97:UInt8)])) 64)::F) _
  exact OpVal.ok (buildL z pl66 ze66 z) z z ⟨z,(none,0),z,List.Perm.refl _⟩
 ·refine ⟨_,z,z,fun e γ F hd ho=> ?_⟩
  rw [←upds_of_has (e:=e) (l:=[(1,loc b104 0)]) ⟨ho 1 rfl,trivial⟩]
  show OpOk _ _ _ _ ((Res.cells b104 (setA (BSet.ofL [(97:UInt8)])) 64)::F) _
  exact OpVal.ok (loadAll z ag64 sz64 z (i:=0) z z) z z ⟨z,(none,0),z,List.Perm.refl _⟩
 ·refine ⟨_,z,z,fun e γ F hd ho=> ?_⟩
  rw [←upds_of_has (e:=e) (l:=[(17,setV (BSet.ofL [(97:UInt8)]))]) ⟨hd 6 (by kernel_rfl) rfl,trivial⟩]
  show OpOk _ _ _ _ ((Res.cells b104 (setA (BSet.ofL [(97:UInt8)])) 64)::F) _
  exact OpVal.ok (buildL z pl66 ze66 z) z z ⟨z,(none,0),z,List.Perm.refl _⟩
 ·refine ⟨_,z,z,fun e γ F hd ho=> ?_⟩
  show OpOk _ _ _ _ ((Res.cells b104 (setA (BSet.ofL [(97:UInt8)])) 64)::F) _
  exact OpOk.lit (enc:=encU8) [(98:UInt8)] z underlying60 sz5 ze5 z z z encU8_len (by decide) (by decide) (0:UInt8) z (by decide) z (by decide) encU8_one (fun a146 c147=>⟨z,(a146,c147),z,List.Perm.refl _⟩)
 ·refine ⟨_,z,z,fun e γ F hd ho=> ?_⟩
  rw [←upds_of_has (e:=e) (l:=[(19,.slice (γ 8).1 ([(98:UInt8)].length) (γ 8).2)]) ⟨hd 8 (by kernel_rfl) rfl,trivial⟩]
  show OpOk _ _ _ _ ((Res.rowS 5 1 encU8 (.slice (γ 8).1 [(98:UInt8)].length (γ 8).2) [(98:UInt8)])::(Res.cells b104 (setA (BSet.ofL [(97:UInt8)])) 64)::F) _
  exact callT (of_con _ _ _ [(98:UInt8)] u15) z z pf51 z z z z ⟨z,(none,0),z,List.Perm.refl _⟩
 ·refine ⟨_,z,z,fun e γ F hd ho=> ?_⟩
  rw [←upds_of_has (e:=e) (l:=[(20,setV (BSet.ofL [(98:UInt8)]))]) ⟨hd 9 (by kernel_rfl) rfl,trivial⟩]
  show OpOk _ _ _ _ ((Res.cells b104 (setA (BSet.ofL [(97:UInt8)])) 64)::F) _
  exact OpVal.ok (buildL z pl66 ze66 z) z z ⟨z,(none,0),z,List.Perm.refl _⟩
 ·refine ⟨_,z,z,fun e γ F hd ho=> ?_⟩
  show OpOk _ _ _ _ ((Res.cells b104 (setA (BSet.ofL [(97:UInt8)])) 64)::F) _
  exact OpOk.lit (enc:=encU8) [(99:UInt8)] z underlying60 sz5 ze5 z z z encU8_len (by decide) (by decide) (0:UInt8) z (by decide) z (by decide) encU8_one (fun a149 c150=>⟨z,(a149,c150),z,List.Perm.refl _⟩)
 ·refine ⟨_,z,z,fun e γ F hd ho=> ?_⟩
  rw [←upds_of_has (e:=e) (l:=[(22,.slice (γ 11).1 ([(99:UInt8)].length) (γ 11).2)]) ⟨hd 11 (by kernel_rfl) rfl,trivial⟩]
  show OpOk _ _ _ _ ((Res.rowS 5 1 encU8 (.slice (γ 11).1 [(99:UInt8)].length (γ 11).2) [(99:UInt8)])::(Res.cells b104 (setA (BSet.ofL [(97:UInt8)])) 64)::F) _
  exact callT (of_con _ _ _ [(99:UInt8)] u18) z z pf51 z z z z ⟨z,(none,0),z,List.Perm.refl _⟩
 ·refine ⟨_,z,z,fun e γ F hd ho=> ?_⟩
  rw [←upds_of_has (e:=e) (l:=[(23,setV (BSet.ofL [(99:UInt8)]))]) ⟨hd 12 (by kernel_rfl) rfl,trivial⟩]
  show OpOk _ _ _ _ ((Res.cells b104 (setA (BSet.ofL [(97:UInt8)])) 64)::F) _
  exact OpVal.ok (buildL z pl66 ze66 z) z z ⟨z,(none,0),z,List.Perm.refl _⟩
 ·refine ⟨_,z,z,fun e γ F hd ho=> ?_⟩
  rw [←upds_of_has (e:=e) (l:=[(16,.agg #[.int .i64 0,.int .i64 1,.int .u64 (((BSet.ofL [(97:UInt8)]).a:Nat):Int),.int .u64 (((BSet.ofL [(97:UInt8)]).b:Nat):Int),.int .u64 (((BSet.ofL [(97:UInt8)]).c:Nat):Int),.int .u64 (((BSet.ofL [(97:UInt8)]).d:Nat):Int),.string (bs ([120]:List UInt8)),.bool false]),(18,.agg #[.int .i64 0,.int .i64 2,.int .u64 (((BSet.ofL [(97:UInt8)]).a:Nat):Int),.int .u64 (((BSet.ofL [(97:UInt8)]).b:Nat):Int),.int .u64 (((BSet.ofL [(97:UInt8)]).c:Nat):Int),.int .u64 (((BSet.ofL [(97:UInt8)]).d:Nat):Int),.string (bs ([121]:List UInt8)),.bool false]),(21,.agg #[.int .i64 1,.int .i64 3,.int .u64 (((BSet.ofL [(98:UInt8)]).a:Nat):Int),.int .u64 (((BSet.ofL [(98:UInt8)]).b:Nat):Int),.int .u64 (((BSet.ofL [(98:UInt8)]).c:Nat):Int),.int .u64 (((BSet.ofL [(98:UInt8)]).d:Nat):Int),.string (bs ([]:List UInt8)),.bool false]),(24,.agg #[.int .i64 2,.int .i64 3,.int .u64 (((BSet.ofL [(99:UInt8)]).a:Nat):Int),.int .u64 (((BSet.ofL [(99:UInt8)]).b:Nat):Int),.int .u64 (((BSet.ofL [(99:UInt8)]).c:Nat):Int),.int .u64 (((BSet.ofL [(99:UInt8)]).d:Nat):Int),.string (bs ([]:List UInt8)),.bool true])]) ⟨hd 5 (by kernel_rfl) rfl,hd 7 (by kernel_rfl) rfl,hd 10 (by kernel_rfl) rfl,hd 13 (by kernel_rfl) rfl,trivial⟩]
  show OpOk _ _ _ _ ((Res.cells b104 (setA (BSet.ofL [(97:UInt8)])) 64)::F) _
  exact OpOk.lit (enc:=encArc) [(⟨0,1,(BSet.ofL [(97:UInt8)]),([120]:List UInt8),false⟩:Arc),(⟨0,2,(BSet.ofL [(97:UInt8)]),([121]:List UInt8),false⟩:Arc),(⟨1,3,(BSet.ofL [(98:UInt8)]),([]:List UInt8),false⟩:Arc),(⟨2,3,(BSet.ofL [(99:UInt8)]),([]:List UInt8),true⟩:Arc)] z underlying23 sz66 ze66 z z z encArc_len (by decide) (by decide) Arc.zero z (by decide) z (by decide) encArc_one (fun a152 c153=>⟨z,(a152,c153),z,List.Perm.refl _⟩)
 ·refine ⟨_,z,z,fun e γ F hd ho=> ?_⟩
  rw [←upds_of_has (e:=e) (l:=[(12,.slice (γ 1).1 ([(⟨0,([]:List UInt8)⟩:Tip)].length) (γ 1).2),(14,.slice (γ 3).1 ([(⟨3,([]:List UInt8)⟩:Tip)].length) (γ 3).2),(25,.slice (γ 14).1 ([(⟨0,1,(BSet.ofL [(97:UInt8)]),([120]:List UInt8),false⟩:Arc),(⟨0,2,(BSet.ofL [(97:UInt8)]),([121]:List UInt8),false⟩:Arc),(⟨1,3,(BSet.ofL [(98:UInt8)]),([]:List UInt8),false⟩:Arc),(⟨2,3,(BSet.ofL [(99:UInt8)]),([]:List UInt8),true⟩:Arc)].length) (γ 14).2)]) ⟨hd 1 (by kernel_rfl) rfl,hd 3 (by kernel_rfl) rfl,hd 14 (by kernel_rfl) rfl,trivial⟩]
  show OpOk _ _ _ _ ((Res.cells b104 (setA (BSet.ofL [(97:UInt8)])) 64)::F) _
  exact OpVal.ok (buildL z pl25 ze25 z) z z ⟨z,(none,0),z,List.Perm.refl _⟩
 ·refine ⟨_,z,z,fun e γ F hd ho=> ?_⟩
  show OpOk _ _ _ _ ((Res.cells b104 (setA (BSet.ofL [(97:UInt8)])) 64)::F) _
  exact OpOk.alloc z ze25 z z (fun b155=>⟨z,(none,b155),z,List.Perm.refl _⟩)
 skip
 refine TA.front 4 z z (TA.last 17 (by kernel_rfl) z z z (storeAll z sz25 z z z z z z ?_))
 refine TZ.done (by kernel_rfl) (S.n (TC.a (TL.w z (loadAll z ag25 sz25 z (i:=0) z z) (TL.front 2 z z (TL.sealS encTip_len (fun τ159 hle158 hr157=> ?_))))))
 replace hgl:=hgl.mono hle158
 have hr157b:=hr157.rv.big
 refine TL.front 2 z z (TL.sealS encTip_len (fun τ162 hle161 hr160=> ?_))
 replace hgl:=hgl.mono hle161
 replace hr157:=hr157.mono hle161
 have hr160b:=hr160.rv.big
 refine TL.front 2 z z (TL.sealS encArc_len (fun τ165 hle164 hr163=> ?_))
 replace hgl:=hgl.mono hle164
 replace hr157:=hr157.mono hle164
 replace hr160:=hr160.mono hle164
 have hr163b:=hr163.rv.big
 obtain ⟨v25,u25,hh⟩:=bnd_e hh
 refine TL.op z (OpOk.call (Gh_ (x0:=(⟨4,[(⟨0,([]:List UInt8)⟩:Tip)],[(⟨3,([]:List UInt8)⟩:Tip)],[(⟨0,1,(BSet.ofL [(97:UInt8)]),([120]:List UInt8),false⟩:Arc),(⟨0,2,(BSet.ofL [(97:UInt8)]),([121]:List UInt8),false⟩:Arc),(⟨1,3,(BSet.ofL [(98:UInt8)]),([]:List UInt8),false⟩:Arc),(⟨2,3,(BSet.ofL [(99:UInt8)]),([]:List UInt8),true⟩:Arc)]⟩:Fst)) hgl hr157 hr160 hr163 u25) z z pf14 z z z z ?_)
 rintro _ τ166 _ hle166 ⟨a166_1,c166_1,a166_2,c166_2,a166_3,c166_3,a166_4,c166_4,rfl,hr166_0,hr166_1,hr166_2,hr166_3,rfl⟩
 have hr166_0b:=hr166_0.big
 have hr166_1b:=hr166_1.big
 have hr166_2b:=hr166_2.rv.big
 have hr166_3b:=hr166_3.rv.big
 refine TL.w z (moveT (.inl z) z) (TL.w z (OpVal.extract z z z) (TL.w z (OpVal.extract z z z) (TL.op z (OpOk.alloc z ze32 z z (fun b167=> ?_)))))
 refine TL.op z (storeAll z sz32 z z z z z z ?_)
 refine TL.i z z (TL.en (TC.a (TL.w z (loadAll z ag32 sz32 z (i:=0) z z) ?_)))
 obtain ⟨v33,u33,hh⟩:=bnd_e hh
 refine TL.op z (callP (Gm_ (x0:=v25.1) hr166_0 hr166_1 hr166_2 hr166_3 u33) z z pf19 z z z ?_)
 refine TL.w z (moveT (.inl z) z) (TL.w z (OpVal.extract z z z) (TL.w z (OpVal.extract z z z) (TL.w z (OpVal.extract z z z) (TL.w z (OpVal.extract z z z) (TL.w z (moveStr (.inr z) z) (TL.i z z (TL.j z z (TL.i z z (TL.en (TC.a (TL.i z z (TL.w z (OpVal.eql z z z) (TL.j z z (TL.split 41 z (fun h169=> ?_) (fun h169=> ?_)))))))))))))))
 ·replace hh:=iteO_t h169 hh
  replace h169:=of_decide_eq_true h169
  refine TL.g z (fieldLoc z fo32_1 z) (TL.g z (loadLoc z ag27 z (i:=0) z z) (TL.g z (lenC z underlying27 z) (TL.g z (OpVal.eql z z z) (TL.w z (pickTB z z z) (TL.j z z (TL.split 47 z (fun h170=> ?_) (fun h170=> ?_)))))))
  ·replace hh:=iteO_t h170 hh
   replace h170:=of_decide_eq_true h170
   refine TL.g z (moveStr (.inl z) z) (TL.g z (eqlBs z z z) (TL.w z (pickTB z z z) (TL.j z z (TL.split 51 z (fun h171=> ?_) (fun h171=> ?_)))))
   ·replace hh:=iteO_t h171 hh
    replace h171:=of_decide_eq_true h171
    refine TL.g z (moveI (.inl z) z) (TL.g z (OpVal.eql z z z) (TL.w z (pickTB z z z) (TL.j z z (TL.split 55 z (fun h172=> ?_) (fun h172=> ?_)))))
    ·replace hh:=iteO_t h172 hh
     replace h172:=of_decide_eq_true h172
     refine TL.g z (moveB (.inl z) z) (TL.w z (pickTB z z z) (TL.j z z (TL.split 58 z (fun h173=> ?_) (fun h173=> ?_))))
     ·replace hh:=iteO_t h173 hh
      refine TL.g z (moveI (.inl z) z) (TL.g z (moveI (.inl z) z) (TL.g z (OpVal.eql z z z) (TL.w z (pickTB z z z) (TL.j z z (TL.en (TC.ofSub (Sub.pre 0 z) (TC.back (TC.ret ?_))))))))
      obtain rfl:=so hh
      exact rq [0] ⟨z,z,z⟩
     replace hh:=iteO_f h173 hh
     refine TL.f z (TL.f z (TL.f z (TL.w z (pickFB z z z) (TL.j z z (TL.en (TC.ofSub (Sub.pre 0 z) (TC.back (TC.ret ?_))))))))
     obtain rfl:=so hh
     exact rq [0] ⟨z,z,z⟩
    replace hh:=iteO_f h172 hh
    replace h172:=of_decide_eq_false h172
    refine TL.f z (TL.w z (pickFB z z z) (TL.j z z (TL.f z (TL.f z (TL.f z (TL.w z (pickFB z z z) (TL.j z z (TL.en (TC.ofSub (Sub.pre 0 z) (TC.back (TC.ret ?_)))))))))))
    obtain rfl:=so hh
    exact rq [0] ⟨z,z,z⟩
   replace hh:=iteO_f h171 hh
   replace h171:=of_decide_eq_false h171
   refine TL.f z (TL.f z (TL.w z (pickFB z z z) (TL.j z z (TL.f z (TL.w z (pickFB z z z) (TL.j z z (TL.f z (TL.f z (TL.f z (TL.w z (pickFB z z z) (TL.j z z (TL.en (TC.ofSub (Sub.pre 0 z) (TC.back (TC.ret ?_)))))))))))))))
   obtain rfl:=so hh
   exact rq [0] ⟨z,z,z⟩
  replace hh:=iteO_f h170 hh
  replace h170:=of_decide_eq_false h170
  refine TL.f z (TL.f z (TL.w z (pickFB z z z) (TL.j z z (TL.f z (TL.f z (TL.w z (pickFB z z z) (TL.j z z (TL.f z (TL.w z (pickFB z z z) (TL.j z z (TL.f z (TL.f z (TL.f z (TL.w z (pickFB z z z) (TL.j z z ?_)))))))))))))))
  refine TL.en (TC.ofSub (Sub.pre 0 z) (TC.back (TC.ret ?_)))
  obtain rfl:=so hh
  exact rq [0] ⟨z,z,z⟩
 replace hh:=iteO_f h169 hh
 replace h169:=of_decide_eq_false h169
 refine TL.f z (TL.f z (TL.f z (TL.f z (TL.w z (pickFB z z z) (TL.j z z (TL.f z (TL.f z (TL.w z (pickFB z z z) (TL.j z z (TL.f z (TL.f z (TL.w z (pickFB z z z) (TL.j z z (TL.f z (TL.w z (pickFB z z z) ?_)))))))))))))))
 refine TL.j z z (TL.f z (TL.f z (TL.f z (TL.w z (pickFB z z z) (TL.j z z (TL.en (TC.ofSub (Sub.pre 0 z) (TC.back (TC.ret ?_)))))))))
 obtain rfl:=so hh
 exact rq [0] ⟨z,z,z⟩
end Go.Proofs.YtchebnpdnfhenaaGreatDoor
end

noncomputable section
namespace Go.Proofs.YtchebnpdnfhenaaGreatDoor
open Go Go.E
theorem trim_self{t:Fst}(ht:FstOk t)(hu: ∀s,s<t.states.toNat→useB t s=true)(h1:t.starts.Pairwise fun x y=>cmpTip x y<0)(h2:t.ends.Pairwise fun x y=>cmpTip x y<0)(h3:t.arcs.Pairwise fun x y=>cmpArc x y<0):trimD t=t:=by
  have hs:=ht.st0
  have e:keepF (useB t) t=t:=by
    show (⟨((cntB (useB t) t.states.toNat:Nat):Int),keepT (useB t) t.starts,keepT (useB t) t.ends,keepA (useB t) t.arcs⟩:Fst)=t
    rw [cntB_all _ hu,keepT_all hu (fun x hx=>by have:=(ht.starts x hx).1;omega),keepT_all hu (fun x hx=>by have:=(ht.ends x hx).1;omega),keepA_all hu (fun x hx=>by have:=ht.arcs x hx;omega),show ((t.states.toNat:Nat):Int)=t.states by omega]
  unfold trimD
  rw [e]
  unfold srt
  rw [Gb_ cmpTip_good h1,Gb_ cmpTip_good h2,Gb_ cmpArc_good h3]
def onceK(l:List Tip):List Tip:=ddN Tip.zero (isortG cmpTip l) (isortG cmpTip l).length
theorem Ha_(l:List Tip):onceK l=onceL Tip.zero cmpTip l:=by unfold onceK onceL;rw [isortT_eq,C6_]
def stripK(l:List Tip):Int⊕(List UInt8×List Tip):=
  let m:=onceK l
  if dupB m=true then .inl 12 else
  let f:=lcpL (m.map Tip.out)
  if 4096<f.length then .inl 2 else
  if ∃x∈m,4096<(x.out.drop f.length).length then .inl 2 else .inr (f,m.map (cutT f.length))
theorem stripK_eq(l:List Tip):stripK l=stripD l:=by unfold stripK stripD;rw [Ha_]
def byteK (A : List Arc) (most : Int) (l : List Tip) (b : UInt8) (R : List (List Tip)) : Int ⊕ (List (List Tip) × Int × List UInt8) :=
  if behD A l b=[] then .inr (R, -1,[]) else
  match stripK (behD A l b)with
  | .inl k=> .inl k
  | .inr (f,r)=>match stateD most R r with
    | .inl k=> .inl k
    | .inr (i,R')=> .inr (R',((i:Nat):Int),f)
theorem byteK_eq(A:List Arc)(most:Int)(l:List Tip)(b:UInt8)(R:List (List Tip)):byteK A most l b R=byteD A most l b R:=by unfold byteK byteD;rw [stripK_eq]<;>rfl
def bytesK (A : List Arc) (most : Int) (l : List Tip) (R : List (List Tip)) : Nat → Int ⊕ (List (List Tip) × List Int × List (List UInt8))
  |0=> .inr (R,[],[])
  | k + 1 => match bytesK A most l R k with
    | .inl e=> .inl e
    | .inr (R1,N,O)=>match byteK A most l (toU8 ((k:Nat):Int)) R1 with
      | .inl e=> .inl e
      | .inr (R2,z,o)=> .inr (R2,N++[z],O++[o])
theorem bytesK_eq(A:List Arc)(most:Int)(l:List Tip)(R:List (List Tip)): ∀k,bytesK A most l R k=bytesD A most l R k
  |0=>rfl
  |k+1=>by
    rw [bytesK,bytesD,bytesK_eq A most l R k]
    cases bytesD A most l R k with
    |inl e=>rfl
    |inr x=>simp only [byteK_eq]<;>rfl
def doK (A : List Arc) (E : List Tip) (most : Int) (l : List Tip) (R : List (List Tip)) (q : Seq) : Int ⊕ (List (List Tip) × Seq) :=
  match tailD E l with
  | .inl e=> .inl e
  | .inr (b,t)=>match bytesK A most l R 256 with
    | .inl e=> .inl e
    | .inr (R',N,O)=> .inr (R',pushQ q N O b t)
theorem doK_eq(A:List Arc)(E:List Tip)(most:Int)(l:List Tip)(R:List (List Tip))(q:Seq):doK A E most l R q=doD A E most l R q:=by unfold doK doD;rw [bytesK_eq]<;>rfl
def allK (A : List Arc) (E : List Tip) (most : Int) : Nat → Nat → List (List Tip) → Seq → Int ⊕ (List (List Tip) × Seq)
  |0,_,R,q=> .inr (R,q)
  | g + 1, s, R, q => if s < R.length then
      match doK A E most (nth R s []) R q with
      | .inl e=> .inl e
      | .inr (R',q')=>allK A E most g (s+1) R' q'
    else .inr (R,q)
theorem allK_eq(A:List Arc)(E:List Tip)(most:Int): ∀(g s:Nat) (R:List (List Tip)) (q:Seq),allK A E most g s R q=allD A E most g s R q
  |0,_,_,_=>rfl
  | g + 1, s, R, q => by
    rw [allK,allD,doK_eq]
    by_cases c:s<R.length
    · rw [if_pos c,if_pos c]
      cases doD A E most (nth R s []) R q with
      |inl e=>rfl
      |inr x=>exact allK_eq A E most g (s+1) _ _
    rw [if_neg c,if_neg c]
def ofK(t:Fst)(most:Int):Int⊕(List (List Tip)×Seq):=
  if t.starts=[] then .inr ([],Seq.zero) else
  match stripK t.starts with
  | .inl e=> .inl e
  | .inr (f,l)=>allK t.arcs t.ends most 1025 0 [l] ⟨f,[],[],[],[]⟩
theorem ofK_eq(t:Fst)(most:Int):ofK t most=ofT t most:=by
  unfold ofK ofT
  rw [stripK_eq]
  by_cases c:t.starts=[]
  · rw [if_pos c,if_pos c]
  rw [if_neg c,if_neg c]
  cases stripD t.starts with
  |inl e=>rfl
  |inr x=>exact allK_eq ..
def tQ:Fst:=⟨4,[⟨0,[]⟩],[⟨3,[]⟩],[⟨0,1,BSet.ofL [97],[120],false⟩,⟨0,2,BSet.ofL [97],[121],false⟩,⟨1,3,BSet.ofL [98],[],false⟩,⟨2,3,BSet.ofL [99],[],true⟩]⟩
theorem tQ_b:fstB tQ=true:=by kernel_rfl
theorem tQ_on(s:Nat)(h:s<4):Rch (onS tQ) (arE tQ) (s:Int):=by
  have h0:Rch (onS tQ) (arE tQ) 0:= .base ⟨⟨0,[]⟩,by simp [tQ],rfl⟩
  have h1:Rch (onS tQ) (arE tQ) 1:= .step h0 ⟨⟨0,1,BSet.ofL [97],[120],false⟩,by simp [tQ],rfl,rfl⟩
  have h2:Rch (onS tQ) (arE tQ) 2:= .step h0 ⟨⟨0,2,BSet.ofL [97],[121],false⟩,by simp [tQ],rfl,rfl⟩
  have h3:Rch (onS tQ) (arE tQ) 3:= .step h1 ⟨⟨1,3,BSet.ofL [98],[],false⟩,by simp [tQ],rfl,rfl⟩
  match s,h with
  |0,_=>exact h0
  |1,_=>exact h1
  |2,_=>exact h2
  |3,_=>exact h3
theorem tQ_back(s:Nat)(h:s<4):Rch (enS tQ) (arB tQ) (s:Int):=by
  have h3:Rch (enS tQ) (arB tQ) 3:= .base ⟨⟨3,[]⟩,by simp [tQ],rfl⟩
  have h2:Rch (enS tQ) (arB tQ) 2:= .step h3 ⟨⟨2,3,BSet.ofL [99],[],true⟩,by simp [tQ],rfl,rfl⟩
  have h1:Rch (enS tQ) (arB tQ) 1:= .step h3 ⟨⟨1,3,BSet.ofL [98],[],false⟩,by simp [tQ],rfl,rfl⟩
  have h0:Rch (enS tQ) (arB tQ) 0:= .step h1 ⟨⟨0,1,BSet.ofL [97],[120],false⟩,by simp [tQ],rfl,rfl⟩
  match s,h with
  |0,_=>exact h0
  |1,_=>exact h1
  |2,_=>exact h2
  |3,_=>exact h3
theorem tQ_trim:trimD tQ=tQ:=trim_self ((fstB_iff tQ).1 tQ_b) (fun s h=>useB_iff.2 ⟨tQ_on s h,tQ_back s h⟩) (by decide+kernel) (by decide+kernel) (by decide+kernel)
def okQ:Bool:=match ofK tQ 9 with
  | .inl _=>false
  | .inr (_,q)=>decide (q.next.length=3) && decide (applyQ q [97,99]=([121,99],2,true,0))
theorem okQ_t:okQ=true:=by kernel_rfl
theorem awake21:Aa_=some true:=by
  unfold Aa_
  rw [grd_mk (by decide),grd_mk (by decide),grd_mk (by decide)]
  show bnd (Fb_ tQ 9) _=_
  rw [of_eq tQ 9 (fun _=>by rw [tQ_trim];decide),bnd_mk]
  unfold ofD
  rw [if_pos ⟨tQ_b,by decide,by decide⟩,tQ_trim,←ofK_eq]
  have h:=okQ_t
  unfold okQ at h
  cases hk:ofK tQ 9 with
  |inl e=>rw [hk]at h;cases h
  |inr x=>
    obtain ⟨R,q⟩:=x
    rw [hk]at h
    simp only [Bool.and_eq_true,decide_eq_true_eq]at h
    show bnd (Eb_ q [97,99]) _=_
    rw [apply_eq q [97,99] (by decide),bnd_mk,h.2,show (ofR (Sum.inr (R,q))).1=q from rfl,show (ofR (Sum.inr (R,q))).2=0 from rfl,h.1]
    rfl
end Go.Proofs.YtchebnpdnfhenaaGreatDoor
end

noncomputable section
namespace Go.Proofs.YtchebnpdnfhenaaGreatDoor
open Go Go.E
theorem ex_ite{α:Type}{b:Bool}{x y:Option α}(h1:b=true→ ∃r,x=some r)(h2:b=false→ ∃r,y=some r): ∃r,iteO b x y=some r:=by
  cases b with
  |true=>exact h1 rfl
  |false=>exact h2 rfl
theorem ex_some{α:Type}(x:α): ∃r,some x=some r:=⟨x,rfl⟩
theorem few15_j3(t:Fst)(i:Int): ∃r,Bk_ t i=some r:=by
  unfold Bk_
  exact ex_ite (fun _=>ex_ite (fun _=>ex_some _) (fun _=>ex_some _)) (fun _=>ex_some _)
theorem few15_j2(t:Fst)(i:Int): ∃r,Bj_ t i=some r:=by
  unfold Bj_
  obtain ⟨r,h, -⟩:=iter_up (step:=fun q:Int×Nat=>Ag_ t q.1 q.2) (fun (s:Int) k=>(s,k)) t.arcs.length (fun _ _=>True) (fun _=>True)
    (fun k s hk _=>by
      show (∃s',Ag_ t s k=_∧_)∨ ∃r,Ag_ t s k=_∧_
      unfold Ag_
      rw [iteO_dt (by omega)]
      by_cases h:s≤60
      · rw [iteO_dt h];exact .inl ⟨_,rfl,trivial⟩
      rw [iteO_df h];obtain ⟨r,hr⟩:=few15_j3 t s;exact .inr ⟨r,by rw [hr];rfl,trivial⟩)
    (fun s _=>by
      show ∃r,Ag_ t s _=_∧_
      unfold Ag_
      rw [iteO_df (by omega)]
      obtain ⟨r,hr⟩:=few15_j3 t s;exact ⟨r,by rw [hr];rfl,trivial⟩) (s0:=i) trivial
  exact ⟨r,h⟩
theorem few15_j1(t:Fst)(i:Int): ∃r,Bg_ t i=some r:=by
  unfold Bg_
  obtain ⟨r,h, -⟩:=iter_up (step:=fun q:Int×Nat=>Af_ t q.1 q.2) (fun (s:Int) k=>(s,k)) t.ends.length (fun _ _=>True) (fun _=>True)
    (fun k s hk _=>by
      show (∃s',Af_ t s k=_∧_)∨ ∃r,Af_ t s k=_∧_
      unfold Af_
      rw [iteO_dt (by omega)]
      by_cases h:s≤60
      · rw [iteO_dt h];exact .inl ⟨_,rfl,trivial⟩
      rw [iteO_df h];obtain ⟨r,hr⟩:=few15_j2 t s;exact .inr ⟨r,by rw [hr];rfl,trivial⟩)
    (fun s _=>by
      show ∃r,Af_ t s _=_∧_
      unfold Af_
      rw [iteO_df (by omega)]
      obtain ⟨r,hr⟩:=few15_j2 t s;exact ⟨r,by rw [hr];rfl,trivial⟩) (s0:=i) trivial
  exact ⟨r,h⟩
theorem few15_total(t:Fst): ∃r,Cr_ t=some r:=by
  unfold Cr_
  obtain ⟨r,h, -⟩:=iter_up (step:=fun q:Int×Nat=>Ae_ t q.1 q.2) (fun (s:Int) k=>(s,k)) t.starts.length (fun _ _=>True) (fun _=>True)
    (fun k s hk _=>by
      show (∃s',Ae_ t s k=_∧_)∨ ∃r,Ae_ t s k=_∧_
      unfold Ae_
      rw [iteO_dt (by omega)]
      by_cases h:s≤60
      · rw [iteO_dt h];exact .inl ⟨_,rfl,trivial⟩
      rw [iteO_df h];obtain ⟨r,hr⟩:=few15_j1 t s;exact .inr ⟨r,by rw [hr];rfl,trivial⟩)
    (fun s _=>by
      show ∃r,Ae_ t s _=_∧_
      unfold Ae_
      rw [iteO_df (by omega)]
      obtain ⟨r,hr⟩:=few15_j1 t s;exact ⟨r,by rw [hr];rfl,trivial⟩) trivial
  exact ⟨r,h⟩
end Go.Proofs.YtchebnpdnfhenaaGreatDoor
end

noncomputable section
namespace Go.Proofs.YtchebnpdnfhenaaGreatDoor
open Go Go.E
theorem bytes_total(s:BSet): ∃r,B8_ s=some r:=by
  unfold B8_
  obtain ⟨r,h, -⟩:=iter_up (step:=fun q:List UInt8×Nat=>Ad_ s q.1 q.2) (fun (l:List UInt8) k=>(l,k)) 256 (fun k l=>l.length≤k) (fun _=>True)
    (fun k l hk hI=>by
      refine .inl ?_
      show ∃s',Ad_ s l k=_∧_
      unfold Ad_ Bs_
      rw [iteO_dt (by omega),grd_mk hk]
      cases s.has k with
      |true=>exact ⟨_,by rw [iteO_true,grd_mk (by simp only [List.length_singleton];omega)];rfl,by simp only [List.length_append,List.length_singleton];omega⟩
      |false=>exact ⟨l,rfl,by omega⟩)
    (fun l hI=>⟨l,by
      show Ad_ s l 256=_
      unfold Ad_
      rw [iteO_df (by omega)];rfl,trivial⟩) (s0:=[]) (Nat.le_refl _)
  exact ⟨r,h⟩
end Go.Proofs.YtchebnpdnfhenaaGreatDoor
end

noncomputable section
namespace Go.Proofs.YtchebnpdnfhenaaGreatDoor
open Go Go.E
theorem few21_j1(t:Fst)(i:Int): ∃r,Bi_ t i=some r∧(r=true→t.arcs.length≤14∧(t.states≤5∨1024<t.states)):=by
  unfold Bi_
  obtain ⟨b,hb⟩:=few15_total t
  rw [bnd_some hb]
  cases b with
  |false=>exact ⟨false,rfl,fun q=>by cases q⟩
  |true=>
    rw [iteO_true]
    by_cases h:((t.arcs.length:Nat):Int)≤14
    · rw [iteO_dt h]
      by_cases h2:t.states≤5
      · rw [iteO_dt h2];exact ⟨_,rfl,fun _=>⟨by omega,.inl h2⟩⟩
      rw [iteO_df h2]
      by_cases h3:1024<t.states
      · rw [iteO_dt h3];exact ⟨_,rfl,fun _=>⟨by omega,.inr h3⟩⟩
      rw [iteO_df h3];exact ⟨_,rfl,fun q=>by cases q⟩
    rw [iteO_df h]
    exact ⟨false,rfl,fun q=>by cases q⟩
theorem few21(t:Fst): ∃r,Cm_ t=some r∧(r=true→t.arcs.length≤14∧(t.states≤5∨1024<t.states)):=by
  unfold Cm_
  refine iter_up (step:=fun q:Int×Nat=>Ai_ t q.1 q.2) (fun (s:Int) k=>(s,k)) t.arcs.length (fun _ _=>True) _
    (fun k s hk _=> ?_) (fun s _=> ?_) (s0:=0) trivial
  · show (∃s',Ai_ t s k=_∧_)∨ ∃r,Ai_ t s k=_∧_
    unfold Ai_
    rw [iteO_dt (by omega)]
    by_cases h:s≤40
    · obtain ⟨b,hb⟩:=bytes_total (nth t.arcs k Arc.zero).set
      rw [iteO_dt h,bnd_some hb];exact .inl ⟨_,rfl,trivial⟩
    rw [iteO_df h]
    obtain ⟨r,hr,ha⟩:=few21_j1 t s
    exact .inr ⟨r,by rw [hr];rfl,ha⟩
  show ∃r,Ai_ t s t.arcs.length=_∧_
  unfold Ai_
  rw [iteO_df (by omega)]
  obtain ⟨r,hr,ha⟩:=few21_j1 t s
  exact ⟨r,by rw [hr];rfl,ha⟩
theorem trim_less(t:Fst)(h0:0≤t.states):(trimD t).states≤t.states∧(trimD t).arcs.length≤t.arcs.length:=by
  have l1:=Ez_ (d:=Arc.zero) (cf:=cmpArc) (keepA (useB t) t.arcs)
  have l2:=keepA_len (useB t) t.arcs
  have l3:=cntB_self (useB t) t.states.toNat
  have e:(trimD t).states=((cntB (useB t) t.states.toNat:Nat):Int):=rfl
  refine ⟨by omega,?_⟩
  show (onceL Arc.zero cmpArc (keepA (useB t) t.arcs)).length≤_
  omega
theorem few_of{t:Fst}(h:t.arcs.length≤14∧(t.states≤5∨1024<t.states))(hb:fstB t=true):(trimD t).states.toNat * (trimD t).arcs.length≤1000000:=by
  have ht:=(fstB_iff t).1 hb
  have h1:=ht.st0
  have h2:=ht.st1
  obtain ⟨h3,h4⟩:=trim_less t h1
  have h5:(trimD t).states.toNat * (trimD t).arcs.length≤5 * 14:=Nat.mul_le_mul (by omega) (by omega)
  omega
end Go.Proofs.YtchebnpdnfhenaaGreatDoor
end

noncomputable section
namespace Go.Proofs.YtchebnpdnfhenaaGreatDoor
open Go Go.E
end Go.Proofs.YtchebnpdnfhenaaGreatDoor
end

noncomputable section
namespace Go.Proofs.YtchebnpdnfhenaaGreatDoor
open Go Go.E
def Apart(a b:List UInt8):Prop:= ∀x l y m,a=x::l→b=y::m→x≠y
theorem lagS_app: ∀c a b:List UInt8,lagS (c++a) (c++b)=lagS a b
 |[],_,_=>rfl
 |x::c,a,b=>by
  have ih:=lagS_app c a b
  unfold lagS at *
  simp only [List.cons_append,lcpN,if_true,List.drop_succ_cons]
  exact ih
theorem lagS_c: ∀a b:List UInt8, ∃c,a=c++(lagS a b).1∧b=c++(lagS a b).2
 |[],b=>⟨[],rfl,rfl⟩
 |_::_,[]=>⟨[],rfl,rfl⟩
 |x::a,y::b=>by
  by_cases h:x=y
  ·subst h
   obtain ⟨c,h1,h2⟩:=lagS_c a b
   have e:lagS (x::a) (x::b)=lagS a b:=lagS_app [x] a b
   exact ⟨x::c,by rw [e,List.cons_append,←h1],by rw [e,List.cons_append,←h2]⟩
  have e:lagS (x::a) (y::b)=(x::a,y::b):=by unfold lagS;simp only [lcpN,if_neg h,List.drop_zero]
  exact ⟨[],by rw [e];rfl,by rw [e];rfl⟩
theorem lagS_apart: ∀a b:List UInt8,Apart (lagS a b).1 (lagS a b).2
 |[],b=>fun x l y m h=>by
  have:(lagS [] b).1=[]:=rfl
  rw [this]at h;cases h
 |u::v,[]=>fun x l y m _ h=>by
  have:(lagS (u::v) []).2=[]:=rfl
  rw [this]at h;cases h
 |x::a,y::b=>by
  by_cases h:x=y
  ·subst h
   have e:lagS (x::a) (x::b)=lagS a b:=lagS_app [x] a b
   rw [e];exact lagS_apart a b
  have e:lagS (x::a) (y::b)=(x::a,y::b):=by unfold lagS;simp only [lcpN,if_neg h,List.drop_zero]
  rw [e]
  intro u l v m h1 h2
  cases h1;cases h2;exact h
theorem Apart.ne{a b u v:List UInt8}(h:Apart a b)(ha:a≠[])(hb:b≠[]):a++u≠b++v:=by
 cases a with
 |nil=>exact absurd rfl ha
 |cons x a=>
  cases b with
  |nil=>exact absurd rfl hb
  |cons y b=>
   intro e
   rw [List.cons_append,List.cons_append,List.cons.injEq]at e
   exact h x a y b rfl rfl e.1
def lagT(p q:Int)(a b:List UInt8):TLag:=⟨p,q,(lagS a b).1,(lagS a b).2⟩
inductive RLw (T:Fst):List UInt8→TLag→Prop
 |base {x y:Tip}:x∈T.starts→y∈T.starts→RLw T [] (lagT x.state y.state x.out y.out)
 |step {w:List UInt8} {l:TLag} {x y:Arc} {b:UInt8}:RLw T w l→x∈T.arcs→y∈T.arcs→x.frm=l.p→y.frm=l.q→x.set.has b.toNat=true→y.set.has b.toNat=true→RLw T (w++[b]) (lagT x.to y.to (l.a++em x b) (l.b++em y b))
def Jt(T:Fst)(p q:Int):Prop:= ∃w m1 m2, ∃e∈T.ends, ∃f∈T.ends,Wy T p w m1 e.state∧Wy T q w m2 f.state
theorem RLw.apart{T:Fst}{w:List UInt8}{l:TLag}(h:RLw T w l):Apart l.a l.b:=by
 cases h with
 |base _ _=>exact lagS_apart _ _
 |step _ _ _ _ _ _ _=>exact lagS_apart _ _
theorem RLw.ways{T:Fst}{w:List UInt8}{l:TLag}(h:RLw T w l): ∃x∈T.starts, ∃y∈T.starts, ∃m1 m2 c,Wy T x.state w m1 l.p∧Wy T y.state w m2 l.q∧x.out++m1=c++l.a∧y.out++m2=c++l.b:=by
 induction h with
 | @base x y hx hy=>
  obtain ⟨c,h1,h2⟩:=lagS_c x.out y.out
  exact ⟨x,hx,y,hy,[],[],c,.nil _,.nil _,by rw [List.append_nil];exact h1,by rw [List.append_nil];exact h2⟩
 | @step w l x y b h hx hy e1 e2 b1 b2 ih=>
  obtain ⟨s,hs,t,ht,m1,m2,c,h1,h2,h3,h4⟩:=ih
  obtain ⟨d,h5,h6⟩:=lagS_c (l.a++em x b) (l.b++em y b)
  rw [←e1]at h1
  rw [←e2]at h2
  refine ⟨s,hs,t,ht,m1++em x b,m2++em y b,c++d,h1.append (Wy.one hx b1),h2.append (Wy.one hy b2),?_,?_⟩
  ·show s.out++(m1++em x b)=(c++d)++(lagS (l.a++em x b) (l.b++em y b)).1
   rw [List.append_assoc,←h5,←List.append_assoc,h3,List.append_assoc]
  show t.out++(m2++em y b)=(c++d)++(lagS (l.a++em x b) (l.b++em y b)).2
  rw [List.append_assoc,←h6,←List.append_assoc,h4,List.append_assoc]
theorem RLw.of{T:Fst}{x y:Tip}(hx:x∈T.starts)(hy:y∈T.starts)(w:List UInt8): ∀{m1 m2:List UInt8} {p q:Int},Wy T x.state w m1 p→Wy T y.state w m2 q→RLw T w (lagT p q (x.out++m1) (y.out++m2)):=by
 induction w using rev_ind with
 |h0=>
  intro m1 m2 p q h1 h2
  obtain ⟨rfl,rfl⟩:=h1.nil_inv
  obtain ⟨rfl,rfl⟩:=h2.nil_inv
  rw [List.append_nil,List.append_nil];exact .base hx hy
 |h1 w b ih=>
  intro m1 m2 p q h1 h2
  obtain ⟨u,o1,o2,h3,h4,rfl⟩:=h1.split
  obtain ⟨v,o3,o4,h5,h6,rfl⟩:=h2.split
  obtain ⟨s,hs,e1,b1,z1,h7,rfl⟩:=h4.cons_inv
  obtain ⟨t,ht,e2,b2,z2,h8,rfl⟩:=h6.cons_inv
  obtain ⟨rfl,rfl⟩:=h7.nil_inv
  obtain ⟨rfl,rfl⟩:=h8.nil_inv
  have k:=RLw.step (ih h3 h5) hs ht e1 e2 b1 b2
  obtain ⟨c,h9,h10⟩:=lagS_c (x.out++o1) (y.out++o3)
  have e:lagT s.to t.to ((lagT u v (x.out++o1) (y.out++o3)).a++em s b) ((lagT u v (x.out++o1) (y.out++o3)).b++em t b)=lagT s.to t.to (x.out++(o1++(em s b++[]))) (y.out++(o3++(em t b++[]))):=by
   have e3:x.out++(o1++(em s b++[]))=c++((lagS (x.out++o1) (y.out++o3)).1++em s b):=by
    rw [List.append_nil,←List.append_assoc,←List.append_assoc,←h9]
   have e4:y.out++(o3++(em t b++[]))=c++((lagS (x.out++o1) (y.out++o3)).2++em t b):=by
    rw [List.append_nil,←List.append_assoc,←List.append_assoc,←h10]
   rw [e3,e4]
   unfold lagT
   rw [lagS_app]
  rw [←e];exact k
theorem em_len{T:Fst}(hT:FstOk T){x:Arc}(hx:x∈T.arcs)(b:UInt8):(em x b).length≤1025:=by
 have:=(hT.arcs x hx).2.2.2
 unfold em;split
 ·rw [List.length_append,List.length_singleton];omega
 omega
theorem RLw.len{T:Fst}(hT:FstOk T){w:List UInt8}{l:TLag}(h:RLw T w l):l.a.length≤1024+1025 * w.length∧l.b.length≤1024+1025 * w.length:=by
 induction h with
 | @base x y hx hy=>
  have h1:=(hT.starts x hx).2
  have h2:=(hT.starts y hy).2
  have h3:=lagS_l x.out y.out
  have h4:=lagS_r x.out y.out
  exact ⟨by show (lagS _ _).1.length≤_;omega,by show (lagS _ _).2.length≤_;omega⟩
 | @step w l x y b h hx hy e1 e2 b1 b2 ih=>
  have h1:=em_len hT hx b
  have h2:=em_len hT hy b
  have h3:=lagS_l (l.a++em x b) (l.b++em y b)
  have h4:=lagS_r (l.a++em x b) (l.b++em y b)
  rw [List.length_append]at h3 h4
  rw [List.length_append,List.length_singleton]
  exact ⟨by show (lagS _ _).1.length≤_;omega,by show (lagS _ _).2.length≤_;omega⟩
theorem RLw.rng{T:Fst}(hT:FstOk T){w:List UInt8}{l:TLag}(h:RLw T w l):(0≤l.p∧l.p<T.states)∧0≤l.q∧l.q<T.states:=by
 cases h with
 |base hx hy=>exact ⟨(hT.starts _ hx).1,(hT.starts _ hy).1⟩
 |step _ hx hy _ _ _ _=>exact ⟨(hT.arcs _ hx).2.1,(hT.arcs _ hy).2.1⟩
structure Good (T:Fst):Prop where
 side: ∀w l,RLw T w l→Jt T l.p l.q→l.a=[]∨l.b=[]
 one: ∀w l w' l',RLw T w l→RLw T w' l'→Jt T l.p l.q→l.p=l'.p→l.q=l'.q→l=l'
 ends: ∀w l,RLw T w l→ ∀e∈T.ends, ∀f∈T.ends,e.state=l.p→f.state=l.q→l.a++e.out=l.b++f.out
def Gives(T:Fst)(w:List UInt8):Prop:= ∃o1 o2,o1≠o2∧Rel T w o1∧Rel T w o2
theorem Good.none{T:Fst}(h:Good T)(w:List UInt8): ¬ Gives T w:=by
 rintro ⟨o1,o2,hne,⟨x,hx,e,he,m1,h1,rfl⟩,⟨y,hy,f,hf,m2,h2,rfl⟩⟩
 have k:=RLw.of hx hy w h1 h2
 obtain ⟨c,h3,h4⟩:=lagS_c (x.out++m1) (y.out++m2)
 have h5:=h.ends w _ k e he f hf rfl rfl
 refine hne ?_
 have e1:x.out++(m1++e.out)=c++((lagS (x.out++m1) (y.out++m2)).1++e.out):=by
  rw [←List.append_assoc,←List.append_assoc c,←h3]
 have e2:y.out++(m2++f.out)=c++((lagS (x.out++m1) (y.out++m2)).2++f.out):=by
  rw [←List.append_assoc,←List.append_assoc c,←h4]
 rw [e1,e2]
 exact congrArg _ h5
theorem gives_of{T:Fst}{w:List UInt8}{l:TLag}(h:RLw T w l){v m1 m2:List UInt8}{e f:Tip}(he:e∈T.ends)(hf:f∈T.ends)(h1:Wy T l.p v m1 e.state)(h2:Wy T l.q v m2 f.state)(hne:l.a++(m1++e.out)≠l.b++(m2++f.out)):Gives T (w++v):=by
 obtain ⟨x,hx,y,hy,n1,n2,c,h3,h4,h5,h6⟩:=h.ways
 refine ⟨x.out++((n1++m1)++e.out),y.out++((n2++m2)++f.out),fun hq=>hne ?_,⟨x,hx,e,he,_,h3.append h1,rfl⟩,⟨y,hy,f,hf,_,h4.append h2,rfl⟩⟩
 have e1:x.out++((n1++m1)++e.out)=c++(l.a++(m1++e.out)):=by
  rw [List.append_assoc,←List.append_assoc,h5,List.append_assoc]
 have e2:y.out++((n2++m2)++f.out)=c++(l.b++(m2++f.out)):=by
  rw [List.append_assoc,←List.append_assoc,h6,List.append_assoc]
 rw [e1,e2]at hq
 exact List.append_cancel_left hq
theorem lag_two{a b a' b' o1 o2:List UInt8}(h1:a=[]∨b=[])(h2:Apart a' b')(e1:a++o1=b++o2)(e2:a'++o1=b'++o2):a=a'∧b=b':=by
 rcases h1 with rfl|rfl
 ·rw [List.nil_append]at e1
  subst e1
  rw [←List.append_assoc]at e2
  have e3:=List.append_cancel_right e2
  cases a' with
  |nil=>exact ⟨rfl,by simpa using e3⟩
  |cons x l=>
   rw [List.cons_append]at e3
   exact absurd rfl (h2 x l x _ rfl e3.symm)
 rw [List.nil_append]at e1
 subst e1
 rw [←List.append_assoc]at e2
 have e3:=List.append_cancel_right e2
 cases b' with
 |nil=>exact ⟨by simpa using e3.symm,rfl⟩
 |cons x l=>
  rw [List.cons_append]at e3
  exact absurd rfl (h2 x _ x l e3 rfl)
theorem Good.of{T:Fst}(R:TLag→Prop)(hb: ∀x∈T.starts, ∀y∈T.starts,Jt T x.state y.state→R (lagT x.state y.state x.out y.out))
  (hs: ∀l,R l→ ∀x∈T.arcs, ∀y∈T.arcs, ∀b:UInt8,x.frm=l.p→y.frm=l.q→x.set.has b.toNat=true→y.set.has b.toNat=true→Jt T x.to y.to→R (lagT x.to y.to (l.a++em x b) (l.b++em y b)))
  (side: ∀l,R l→l.a=[]∨l.b=[]) (one: ∀l l',R l→R l'→l.p=l'.p→l.q=l'.q→l=l') (ends: ∀l,R l→ ∀e∈T.ends, ∀f∈T.ends,e.state=l.p→f.state=l.q→l.a++e.out=l.b++f.out):Good T:=by
 have key: ∀w l,RLw T w l→Jt T l.p l.q→R l:=fun w l h=>by
  induction h with
  |base hx hy=>exact hb _ hx _ hy
  | @step w l x y b h hx hy e1 e2 b1 b2 ih=>
   intro hj
   refine hs l (ih ?_) x hx y hy b e1 e2 b1 b2 hj
   obtain ⟨v,m1,m2,e,he,f,hf,h1,h2⟩:=hj
   exact ⟨b::v,em x b++m1,em y b++m2,e,he,f,hf,by rw [←e1];exact .cons x b hx b1 h1,by rw [←e2];exact .cons y b hy b2 h2⟩
 refine ⟨fun w l h hj=>side l (key w l h hj),fun w l w' l' h h' hj e1 e2=>one l l' (key w l h hj) (key w' l' h' (by rw [←e1,←e2];exact hj)) e1 e2,fun w l h e he f hf e1 e2=>ends l (key w l h ⟨[],[],[],e,he,f,hf,by rw [e1];exact .nil _,by rw [e2];exact .nil _⟩) e he f hf e1 e2⟩
end Go.Proofs.YtchebnpdnfhenaaGreatDoor
end

noncomputable section
namespace Go.Proofs.YtchebnpdnfhenaaGreatDoor
open Go Go.E Go.E.OpVal Go.E.OpOk Go.Proofs.Tryz
theorem pf201:plainF Tryz.prog 201=true:=by kernel_rfl
def Bc_(x0:Nat):Option (Int):=
 iteO (decide (x0=0)) (some 64) (grd ((u64shr (u64mul (u64and x0 (u64of (-((x0:Nat):Int)))) 285870213051353865) 58)<64) (some (((nth deB (u64shr (u64mul (u64and x0 (u64of (-((x0:Nat):Int)))) 285870213051353865) 58) (0:UInt8)).toNat:Nat):Int)))
theorem Ej_{x0:Nat}(hgl:GT2 σ 1 2){r:Int}(hh:Bc_ x0=some r):
  Con Tryz.prog 201 #[.int .u64 ((x0:Nat):Int)] σ [] (PureP (.int .i64 r) σ):=by
 dsimp only [Bc_]at hh
 refine Con.mk (n:=14) Tryz.func201 z z z (fun w0=> ?_)
 refine TC.a (TL.i z z (TL.en (TC.seq (TC.a (TL.i z z (TL.w z (eqlU z z z) (TL.en (TC.cD z hh (fun h101 hh=> ?_) (fun h101 hh=> ?_)))))))))
 ·refine TC.a (TL.i z z (TL.en (TC.ret (S.r ?_))))
  obtain rfl:=so hh
  exact rq [2] ⟨z,z,z⟩
 refine TC.skip (S.n (TC.a (TL.i z z (TL.i z z (TL.w z (negU z z) (TL.w z (andU z z z) (TL.w z (mulU (b:=285870213051353865) z z z) (TL.w z (shrU (b:=58) z z z) ?_))))))))
 have u11:=grd_c hh
 replace hh:=grd_t hh
 refine TL.w z (indexArrN z underlying266 sz5 z z (by omega)) (TL.w z (loadG1 (0:UInt8) z ag5 z hgl.b (by simp only [deB,List.length_cons,List.length_nil];omega) encU8_len z) (TL.w z (convN z underlying5 underlying3 z (by have:=UInt8.toNat_lt (nth deB (u64shr (u64mul (u64and x0 (u64of (-((x0:Nat):Int)))) 285870213051353865) 58) (0:UInt8));simp only [kmax];omega)) (TL.i z z (TL.en (TC.ret ?_)))))
 obtain rfl:=so hh
 exact rq [2] ⟨z,z,z⟩
def A5_(x0:BSet)(k105:Nat):Option ((Nat)⊕(UInt8×Bool)):=
 iteO (decide (((k105:Nat):Int)<4)) (grd (k105<4) (iteO (decide ((BSet.word x0 k105)≠0)) (bnd (Bc_ (BSet.word x0 k105)) (fun v16=>fin (some ((toU8 (IntKind.i64.wrap ((IntKind.i64.wrap (64 * ((k105:Nat):Int)))+v16))),true)))) (nxt (k105+1)))) (fin (some ((0:UInt8),false)))
def C9_(x0:BSet):Option (UInt8×Bool):=
 iter (fun q:Nat=>A5_ x0 q) 0
theorem Fu_{x0:BSet}(hgl:GT2 σ 1 2){r:UInt8×Bool}(hh:C9_ x0=some r):
  Con Tryz.prog 170 #[setV x0] σ [] (PureP (.tuple #[.int .u8 ((r.1.toNat:Nat):Int),.bool r.2]) σ):=by
 dsimp only [C9_]at hh
 refine Con.mk (n:=20) Tryz.func170 z z z (fun w0=> ?_)
 refine TC.a (TL.op z (boxA z z z z (fun b101=> ?_)))
 refine TL.i z z (TL.j z z (TL.en (TC.seq (TC.a (TL.w z (loadAll z ag64 sz64 z (i:=0) z z) (TL.i z z (TL.en (TC.block (TC.loopG (α:=(Nat)×(Unit)) (rgs [(2,4),(7,13)]) (fun g=>[(7,.int .i64 ((g.1:Nat):Int))]) (fun g=>[]) (fun g=>σ) (fun g=>iter (fun q:Nat=>A5_ x0 q) g.1=some r) (fun g=>rounds (fun q:Nat=>A5_ x0 q) g.1) (0,()) (Sub.pre 0 z) z (by repeat (first|exact trivial|refine ⟨z,?_⟩)) hh (fun g1 j1 hg1=> ?_))))))))))
 obtain ⟨k105,_⟩:=g1
 have hh:=hg1;clear hg1
 try dsimp only
 obtain ⟨z1,hh,hR1⟩:=iter_e hh
 dsimp only [A5_]at hh
 refine TC.a (TL.w z (OpVal.lss z z z) (TL.en (TC.seq (TC.cD z hh (fun h106 hh=> ?_) (fun h106 hh=> ?_)))))
 ·refine TC.skip (S.n (TC.seq (TC.block (TC.a (TL.i z z ?_)))))
  have u8:=grd_c hh
  replace hh:=grd_t hh
  refine TL.w z (indexSet z underlying64 sz62 ag62 z z (by omega)) (TL.i z z (TL.i z z (TL.en (TC.a (TL.i z z (TL.w z (neqU z z z) (TL.en (TC.cD z hh (fun h107 hh=> ?_) (fun h107 hh=> ?_)))))))))
  ·refine TC.a (TL.i z z (TL.w z (mulW z z z) (TL.i z z ?_)))
   obtain ⟨v16,u16,hh⟩:=bnd_e hh
   refine TL.op z (callP (Ej_ hgl u16) z z pf201 z z z ?_)
   refine TL.w z (addW z z z) (TL.w z (convU8 z underlying3 underlying5 z) (TL.i z z (TL.j z z (TL.en (TC.ret (B.r (S.r (S.r ?_))))))))
   replace hh:=fin_x hR1 hh
   refine B.r (S.r ?_)
   obtain rfl:=so hh
   exact rq [2,3] ⟨z,z,z⟩
  refine TC.skip (B.n (S.n (TC.region (TL.w z (OpVal.succ z z z (by omega)) (TL.i z z (TL.en ?_))))))
  obtain ⟨hh,hlt108⟩:=nxt_x hR1 hh
  exact lf ((k105+1),()) hlt108 hh (Sub.pre 0 z)
 refine TC.exit (S.x (S.x ?_))
 replace hh:=fin_x hR1 hh
 refine TC.exitHere (S.n (TC.a (TL.i z z (TL.j z z (TL.en (TC.ret ?_))))))
 obtain rfl:=so hh
 exact rq [2,3] ⟨z,z,z⟩
end Go.Proofs.YtchebnpdnfhenaaGreatDoor
end

noncomputable section
namespace Go.E
open Go
theorem EqAt.arr2{P:Program}{n:Nat}{T E:TypeId}{a0 a1 b0 b1:Value}{p q:Bool}(hT:P.underlying T=some (.array 2 E))(hA:aggOf P E=some false)(hz:szOf P E=some 1)(h0:EqAt P n E a0 b0 p)(h1:EqAt P n E a1 b1 q):EqAt P (n+1) T (.agg #[a0,a1]) (.agg #[b0,b1]) (p && q):=fun d w=>by
  have g: ∀(cs:Array Value) (i:Nat) (u:Value),cs[i]? =some u→(part E cs i).run P w= .ok u w:=fun cs i u h=>run_part_one hA h w
  rw [←Nat.add_assoc,Op.equalIn]
  simp only [Sem.run_bind,run_underlying hT,Result.andThen_ok,run_sizeOf hz,Std.Legacy.Range.forIn_eq_forIn_range',Std.Legacy.Range.size,Nat.sub_zero,Nat.add_sub_cancel,Nat.div_one,List.range'_succ,List.range'_zero,List.forIn_cons,List.forIn_nil,Nat.mul_one,Nat.zero_add]
  rw [g _ 0 a0 rfl,Result.andThen_ok,g _ 0 b0 rfl,Result.andThen_ok,h0 d w,Result.andThen_ok]
  cases p
  · simp
  simp only [Bool.not_true,Bool.false_eq_true,if_false,Sem.run_pure,Result.andThen_ok,Sem.run_bind]
  rw [g _ 1 a1 rfl,Result.andThen_ok,g _ 1 b1 rfl,Result.andThen_ok,h1 d w,Result.andThen_ok]
  cases q<;>simp
end Go.E
end

noncomputable section
namespace Go.E
open Go
structure FPr where
  p:Int
  q:Int
  deriving DecidableEq
def FPr.zero:FPr:=⟨0,0⟩
structure SPr where
  a:List UInt8
  b:List UInt8
  deriving DecidableEq
def SPr.zero:SPr:=⟨[],[]⟩
def encSPr(x:SPr):List Value:=[.string (bs x.a),.string (bs x.b)]
structure Visit where
  at':FPr
  lag:SPr
  deriving DecidableEq
def Visit.zero:Visit:=⟨FPr.zero,SPr.zero⟩
structure FBox where
  what:Visit
  frm:Int
  by':UInt8
  deriving DecidableEq
def FBox.zero:FBox:=⟨Visit.zero,0,0⟩
def encFBox(x:FBox):List Value:=[.int .i64 x.what.at'.p,.int .i64 x.what.at'.q,.string (bs x.what.lag.a),.string (bs x.what.lag.b),.int .i64 x.frm,.int .u8 ((x.by'.toNat:Nat):Int)]
theorem encFBox_len(x:FBox):(encFBox x).length=6:=rfl
theorem encFBox_one: ∀x, ∀u∈encFBox x,u.oneCell'=true:=fun x u hu=>by
  simp [encFBox]at hu
  rcases hu with rfl|rfl|rfl|rfl|rfl|rfl<;>rfl
structure Hop where
  live:Bool
  last:Bool
  x:Int
  y:Int
  by':UInt8
  deriving DecidableEq
def Hop.zero:Hop:=⟨false,false,0,0,0⟩
def encHop(x:Hop):List Value:=[.bool x.live,.bool x.last,.int .i64 x.x,.int .i64 x.y,.int .u8 ((x.by'.toNat:Nat):Int)]
theorem encHop_len(x:Hop):(encHop x).length=5:=rfl
theorem encHop_one: ∀x, ∀u∈encHop x,u.oneCell'=true:=fun x u hu=>by
  simp [encHop]at hu
  rcases hu with rfl|rfl|rfl|rfl|rfl<;>rfl
structure FBack where
  frm:Int
  x:Int
  y:Int
  deriving DecidableEq
def FBack.zero:FBack:=⟨0,0,0⟩
def encFBack(x:FBack):List Value:=[.int .i64 x.frm,.int .i64 x.x,.int .i64 x.y]
theorem encFBack_len(x:FBack):(encFBack x).length=3:=rfl
theorem encFBack_one: ∀x, ∀u∈encFBack x,u.oneCell'=true:=fun x u hu=>by
  simp [encFBack]at hu
  rcases hu with rfl|rfl|rfl<;>rfl
structure Search where
  t:Fst
  arcs:List (List Int)
  ends:List (List (List UInt8))
  hops:List Hop
  row:List FBox
  place:List Int
  text:List UInt8
  found:Bool
end Go.E
end

noncomputable section
namespace Go.E
open Go
theorem run_append_roomO{P:Program}{w:World}(t ty e:TypeId)(i:TypeInfo)(ht:P.underlying t=some (.slice e))(hi:P.info? e=some i)
    (g o sLen sCap:Nat) (cur:Array Value) (hg:w.heap[g]? =some (.cells cur e (0,0)))
    (a:Addr) (m c:Nat) (news:List Value) (hl:news.length=m * i.size) (hnews: ∀j u,news[j]? =some u→w.cell? (a.add j)=some u) (h1: ∀u∈news,u.oneCell'=true)
    (hroom:sLen+m≤sCap) (hfit:o+sLen * i.size+news.length≤cur.size):
    (Builtin.append_ #[t,t] ty #[.slice (some ⟨g,o,none⟩) sLen sCap,.slice (some a) m c]).run P w=
      .ok (.slice (some ⟨g,o,none⟩) (sLen+m) sCap) (w.setRow g (cur.toList.take (o+sLen * i.size)++news++cur.toList.drop (o+sLen * i.size+news.length)).toArray):=by
  have hf:=run_firstCells_some (P:=P) w i.size m a m c news hl hnews
  have hst:=run_storeCells_at P g (o+sLen * i.size) e news 0 cur w hg (by simpa using hfit) h1
  simp only [Nat.add_zero]at hst
  simp [Builtin.append_,run_underlying ht,sizeOf,typeInfo,hi,Builtin.lenOf,hroom,hf,Addr.add_lit,hst]
def viewV(size k:Nat):Value→Value
  | .slice a n c=> .slice (a.map fun b=>b.add (k * size)) (n - k) (c - k)
  |v=>v
theorem viewV_zero(size:Nat)(v:Value):viewV size 0 v=v:=by
  cases v<;>simp only [viewV]
  rename_i a n c
  cases a<;>simp [Addr.add]
theorem viewV_block(size k:Nat)(v:Value):(viewV size k v).ownBlock=v.ownBlock:=by
  cases v<;>simp only [viewV]
  rename_i a n c
  cases a with
  |none=>rfl
  |some b=>simp only [Value.ownBlock,Option.map_some,Addr.add];split<;>rfl
def View(size k:Nat)(v0 v:Value)(n:Nat):Prop:=v=viewV size k v0∨n=0∧v.ownBlock=v0.ownBlock∧ ∃a,v= .slice a 0 0
theorem View.block{size k:Nat}{v0 v:Value}{n:Nat}(h:View size k v0 v n):v.ownBlock=v0.ownBlock:=by
  rcases h with rfl|⟨_,h,_⟩
  · exact viewV_block ..
  exact h
def Row0{α:Type}(E size:Nat)(enc:α→List Value)(v:Value)(L:List α)(w:World):Prop:=w.ownsRow 0 E size v L.length (L.flatMap enc)∧ ∀u∈L.flatMap enc,u.oneCell'=true
def Res.queS {α : Type} (E size : Nat) (enc : α → List Value) (v : Value) (l : List α) : Res where
  bl:=v.ownBlock.toList
  holds w:= ∃(L:List α) (v0:Value) (k:Nat),Row0 E size enc v0 L w∧k≤L.length∧l=L.drop k∧View size k v0 v l.length∧l.length≤281474976710656
  lt w b hb h:=by
    obtain ⟨L,v0,k,h,_,_,hv,_⟩:=h
    exact (h.1.lt b (by rw [←hv.block];exact Option.mem_toList.1 hb)).2
  keep w w' hb h:=by
    obtain ⟨L,v0,k,⟨h,ho⟩,h1,h2,hv,h3⟩:=h
    refine ⟨L,v0,k,⟨⟨h.1,?_⟩,ho⟩,h1,h2,hv,h3⟩
    have hbl:=hv.block
    rcases h.2 with hn|⟨g,cap,cur,rfl,h0,hg,rest⟩
    · exact .inl hn
    exact .inr ⟨g,cap,cur,rfl,h0,by rw [hb g (by rw [hbl];exact Option.mem_toList.2 rfl)];exact hg,rest⟩
section
variable {α:Type} {E size:Nat} {enc:α→List Value} {v:Value} {l:List α}
theorem Reach.toQue{w0:World}{C:List Nat}{σ0 σ:Store}{w:World}{F:List Res}(h:Reach w0 C σ0 σ w (Res.rowS E size enc v l::F)):Reach w0 C σ0 σ w (Res.queS E size enc v l::F):=
  h.turn1 v.ownBlock v.ownBlock rfl rfl rfl rfl rfl (Nat.le_refl _) (Nat.le_refl _) (fun _ _ _=>rfl) ⟨l,v,0,⟨(h.holds _ (List.mem_cons_self ..)).1,(h.holds _ (List.mem_cons_self ..)).2.1⟩,Nat.zero_le _,rfl,.inl (viewV_zero size v).symm,(h.holds _ (List.mem_cons_self ..)).2.2⟩ (fun _ hb=> .inl hb)
theorem TC.toQue{X:Ctx}{Q:QP}{c:Code}{e:Env}{F:List Res}(k:TC X Q c e σ (Res.queS E size enc v l::F)):TC X Q c e σ (Res.rowS E size enc v l::F):=fun w a hw ha=>k w a (hw.by fun _ h=>h.toQue) ha
theorem que_sl{w:World}(h:(Res.queS E size enc v l).holds w):IsSl v l.length∧l.length≤281474976710656:=by
  obtain ⟨L,v0,k,h,hk,rfl,hv,hb⟩:=h
  obtain ⟨a,c,rfl,h0,hc⟩:=isSl_row h.1
  rw [List.length_drop]at hv hb ⊢
  rcases hv with rfl|⟨h1, -,a',rfl⟩
  · refine ⟨⟨_,_,rfl,fun hn=> ?_,by omega⟩,by omega⟩
    cases a with
    |none=>obtain ⟨h1,h2⟩:=h0 rfl;omega
    |some b=>cases hn
  rw [h1];exact ⟨⟨a',0,rfl,fun _=>⟨rfl,rfl⟩,Nat.le_refl _⟩,by omega⟩
theorem isSl_que{H:List Res}{q:Nat}(hq:H[q]? =some (Res.queS E size enc v l)): ∀w,Sees σ H w→IsSl v l.length∧l.length≤281474976710656:=fun w hw=>que_sl (hw.2 _ (List.mem_of_getElem? hq))
theorem que_cases{w:World}(h:(Res.queS E size enc v l).holds w):(∃(L:List α) (g k c:Nat) (cur:Array Value),k≤L.length∧l=L.drop k∧v= .slice (some ⟨g,k * size,none⟩) (L.length - k) (c - k)∧w.heap[g]? =some (.cells cur E (0,0))∧L.length≤c∧c≤maxLen∧cur.size=c * size∧cur.toList.take (L.length * size)=L.flatMap enc∧(L.flatMap enc).length=L.length * size∧(∀u∈L.flatMap enc,u.oneCell'=true)∧l.length≤281474976710656)∨l=[]∧ ∃a,v= .slice a 0 0:=by
  obtain ⟨L,v0,k,h,hk,rfl,hv,hbig⟩:=h
  rw [List.length_drop]at hv
  obtain ⟨⟨hl,h1⟩,hone⟩:=h
  rcases hv with rfl|⟨h7, -,a,rfl⟩
  · rcases h1 with ⟨rfl,hn⟩|⟨g,c,cur,rfl, -,hg,h3,h4,h5,h6⟩
    · refine .inr ⟨List.eq_nil_of_length_eq_zero (by rw [List.length_drop];omega),none,?_⟩
      simp [viewV]
    refine .inl ⟨L,g,k,c,cur,hk,rfl,?_,hg,h3,h4,h5,h6,hl,hone,hbig⟩
    unfold viewV
    simp only [Option.map_some,loc_add,Nat.zero_add]
  exact .inr ⟨List.eq_nil_of_length_eq_zero (by rw [List.length_drop];exact h7),a,rfl⟩
theorem que_some{w:World}(h:(Res.queS E size enc v l).holds w)(h0:0<l.length): ∃(L:List α) (g k c:Nat) (cur:Array Value),k<L.length∧l=L.drop k∧v= .slice (some ⟨g,k * size,none⟩) (L.length - k) (c - k)∧w.heap[g]? =some (.cells cur E (0,0))∧L.length≤c∧c≤maxLen∧cur.size=c * size∧cur.toList.take (L.length * size)=L.flatMap enc∧(L.flatMap enc).length=L.length * size∧(∀u∈L.flatMap enc,u.oneCell'=true)∧l.length≤281474976710656:=by
  rcases que_cases h with ⟨L,g,k,c,cur,hk,rfl,h⟩|⟨rfl, -⟩
  · rw [List.length_drop]at h0;exact ⟨L,g,k,c,cur,by omega,rfl,h⟩
  cases h0
theorem flat_drop{size:Nat}(hl: ∀x,(enc x).length=size): ∀(L:List α) (k:Nat),(L.drop k).flatMap enc=(L.flatMap enc).drop (k * size)
  |L,0=>by simp
  |[],k+1=>by simp
  |x::L,k+1=>by
    rw [List.drop_succ_cons,flat_drop hl L k,List.flatMap_cons,Nat.add_mul,Nat.one_mul,Nat.add_comm,←hl x,List.drop_length_add_append]
theorem OpVal.loadQ1{P:Program}{n:Nat}{e:Env}{H:List Res}{o:Oper}{x:Operand}{T q i:Nat}{u:Value}(d:α)(ho:o.op= .load T x)(hA:aggOf P T=some false)(hx:ev e x=elem v (i * 1))(hq:H[q]? =some (Res.queS E 1 enc v l))(hl: ∀x,(enc x).length=1)(hi:i<l.length)
    (hu:(enc (nth l i d))[0]? =some u):OpVal P n o e σ H u:=fun w hw=>by
  have hQ:=hw.2 _ (List.mem_of_getElem? hq)
  obtain ⟨L,g,k,c,cur,hk,rfl,rfl,hg,h3,h4,h5,h6,h7,h8,h9⟩:=que_some hQ (by omega)
  rw [List.length_drop]at hi
  have hn:nth (L.drop k) i d=nth L (k+i) d:=by unfold nth;simp [List.getD_eq_getElem?_getD,List.getElem?_drop]
  rw [hn]at hu
  have hx':ev e x=loc g (k+i):=by
    rw [hx];unfold elem loc;simp only [loc_add,Nat.mul_one]
  have hc:cur.toList[k+i]? =some u:=by
    have h10:(L.flatMap enc)[(k+i) * 1+0]? =some u:=by rw [flatMap_get hl L (k+i) 0 _ (getD_some L (by omega) d) (by omega)];exact hu
    rw [←h6,List.getElem?_take]at h10
    split at h10
    · simpa using h10
    cases h10
  exact OpVal.loadLoc (n:=n) (H:=[Res.cells g cur E]) (i:=0) ho hA hx' rfl (by simpa using hc) w ⟨hw.1,fun r hr=>by rw [List.mem_singleton.1 hr];exact hg⟩
end
section
variable {X:Ctx} {e:Env} {σ:Store} {F:List Res} {o:Oper} {x y:Operand} {K:Env→Store→List Res→Prop} {α:Type} {E size d:Nat} {enc:α→List Value} {v:Value} {l:List α}
theorem OpOk.popQ {T i : Nat} {k : IntKind} (ho : o.op = .slice T x (some y) none none) (ht : X.P.underlying T = some (.slice E)) (hs : szOf X.P E = some size) (hd : o.dst = some d) (hn : Nat.blt d X.n = true) (hx : ev e x = v) (hy : ev e y = .int k (i : Nat)) (hi : i ≤ l.length) (h0 : 0 < l.length)
    (kk: ∀a c,K (upd e d (.slice a (l.drop i).length c)) σ (Res.queS E size enc (.slice a (l.drop i).length c) (l.drop i)::F)):OpOk X o e σ (Res.queS E size enc v l::F) K:=by
  intro u0 C0 τ0 w a hw ha K' Q hK
  have hQ:=hw.holds _ (List.mem_cons_self ..)
  obtain ⟨L,g,q,c,cur,hk,rfl,rfl,hg,h3,h4,h5,h6,h7,h8,h9⟩:=que_some hQ h0
  rw [List.length_drop]at hi
  have hlen:((L.drop q).drop i).length=L.length - q - i:=by rw [List.length_drop,List.length_drop]
  have hrow:Row0 E size enc (.slice (some ⟨g,0,none⟩) L.length c) L w:=⟨⟨h7,.inr ⟨g,c,cur,rfl,Nat.zero_le _,hg,h3,h4,h5,h6⟩⟩,h8⟩
  obtain ⟨a',hrun,hV⟩: ∃a',(execOp (ev e) o).run X.P w= .ok (.value (.slice a' (L.length - q - i) (c - q - i))) w∧(Value.slice a' (L.length - q - i) (c - q - i)).ownBlock=(Value.slice (some ⟨g,0,none⟩) L.length c).ownBlock∧View size (q+i) (.slice (some ⟨g,0,none⟩) L.length c) (.slice a' (L.length - q - i) (c - q - i)) (L.length - q - i):=by
    by_cases hc:c - q=i
    · refine ⟨some ⟨g,q * size,none⟩,?_,rfl,.inr ⟨by omega,rfl,?_⟩⟩
      · have h1:(i:Int)≤((c - q:Nat):Int):=by omega
        have h2:(i:Int)≤((L.length - q:Nat):Int):=by omega
        simp [execOp,ho,hx,hy,Instr.sliceAt,Instr.slice,Instr.sliceBounds,Instr.sliceBound,asIntOf,run_underlying ht,run_sizeOf hs]
        rw [if_pos hi,if_pos hc]
      rw [show L.length - q - i=0 by omega,show c - q - i=0 by omega];exact ⟨_,rfl⟩
    refine ⟨some ⟨g,(q+i) * size,none⟩,?_,rfl,.inl ?_⟩
    · simp [execOp,ho,hx,hy,Instr.sliceAt,Instr.slice,Instr.sliceBounds,Instr.sliceBound,asIntOf,run_underlying ht,run_sizeOf hs]
      rw [if_pos hi,if_neg hc,loc_add,←Nat.add_mul]
    unfold viewV
    simp only [Option.map_some,loc_add,Nat.zero_add,Nat.sub_sub]
  have hR:Reach u0 C0 τ0 σ w (Res.queS E size enc (.slice a' (L.length - q - i) (c - q - i)) ((L.drop q).drop i)::F):=
    hw.turn1 (some g) (some g) rfl (by show (Value.slice a' (L.length - q - i) (c - q - i)).ownBlock.toList=_;rw [hV.1];rfl) rfl rfl rfl (Nat.le_refl _) (Nat.le_refl _) (fun _ _ _=>rfl) ⟨L,_,q+i,hrow,by omega,by rw [List.drop_drop],by rw [hlen];exact hV.2,by rw [List.length_drop]at h9;omega⟩ (fun _ hb=> .inl hb)
  have hk2:=kk a' (c - q - i)
  rw [hlen]at hk2
  refine Oper.wp_of_run (w':=w) (v:= .slice a' (L.length - q - i) (c - q - i)) ?_ (hK _ _ _ _ _ hk2 hR (put_dst ha hd hn _))
  rw [ha.eval'];exact hrun
theorem OpOk.appendQ {T by_ : Nat} {z u : Value} {l2 : List α} {ty : TypeId} (ho : o.op = .call { callee := .builtin .append, args := #[x, y], argTypes := #[T, ty] }) (hty : ty = T) (ht : X.P.underlying T = some (.slice E)) (hs : szOf X.P E = some size) (hby : byOf X.P E = some by_) (hz : zeroOf X.P E = some z)
    (hd:o.dst=some d) (hn:Nat.blt d X.n=true) (hsz:0<size) (hzs:z.cells.size=size) (hl: ∀x,(enc x).length=size) (hx:ev e x=v) (hy:ev e y=u) (hsrc:SourceS σ F size enc u l2) (hb0:(l.length+l2.length) * by_≤140737488355328) (hby0:0<by_) (h2:0<l2.length)
    (k: ∀a c,K (upd e d (.slice a (l++l2).length c)) σ (Res.queS E size enc (.slice a (l++l2).length c) (l++l2)::F)):OpOk X o e σ (Res.queS E size enc v l::F) K:=by
  subst hty
  obtain ⟨i,hi,hsi⟩:=szOf_info hs
  have hiz:i.zero=some z:=by simpa [zeroOf,hi]using hz
  have hib:i.bytes=by_:=by simpa [byOf,hi]using hby
  have hm0:l.length+l2.length≤140737488355328:=Nat.le_trans (Nat.le_mul_of_pos_right _ hby0) hb0
  have hm:l.length+l2.length≤maxLen:=by unfold maxLen;omega
  intro u0 C0 τ0 w a hw ha K' Q hK
  have hQ:=hw.holds _ (List.mem_cons_self ..)
  have hF:Sees σ F w:=⟨hw.fit,fun r hr=>hw.holds r (List.mem_cons_of_mem _ hr)⟩
  have hsrc':Source σ F size u l2.length (l2.flatMap enc):=by
    rcases hsrc with h|⟨E',q,h⟩
    · exact .inl h.rv
    exact .inr ⟨E',q,h⟩
  have hyl:(l2.flatMap enc).length=l2.length * size:=flatMap_len hl l2
  rcases hsrc'.spec hF with ⟨_,h0,_⟩|⟨ad,c2,rfl,hl2,hc2,h1⟩
  · omega
  have hone2: ∀q∈(l++l2).flatMap enc,(∀u∈l.flatMap enc,u.oneCell'=true)→q.oneCell'=true:=fun q hq h0=>by
    rw [List.flatMap_append]at hq
    rcases List.mem_append.1 hq with hq|hq
    · exact h0 q hq
    exact h1 q hq
  have hfl:(l.flatMap enc).length=l.length * size:=flatMap_len hl l
  -- the end: a new row with all of it
  have fin: ∀(vb:Value) (cap:Nat),v=vb→(∀u∈l.flatMap enc,u.oneCell'=true)→cap<l.length+l2.length→
      (Builtin.append_ #[ty,ty] o.type #[vb,.slice (some ad) l2.length c2]).run X.P w=
        .ok (.slice (some ⟨w.heap.size,0,none⟩) (l.length+l2.length) (grownCap w (l.length+l2.length) cap E)) (w.drew.alloc (.cells ((l.flatMap enc).toArray++(l2.flatMap enc).toArray++Builtin.zeroCells z.cells (grownCap w (l.length+l2.length) cap E - (l.length+l2.length))) E))→
      o.wpIn (fence X.rnd) 0 X.P a w K' Q:=fun vb cap hvb hone hcap hrun=>by
    subst hvb
    have hge:=grownCap_ge w (l.length+l2.length) cap E
    have hcm:grownCap w (l.length+l2.length) cap E≤maxLen:=grownCap_le_maxLen w (l.length+l2.length) cap E hm
    have hrow:Row0 E size enc (.slice (some ⟨w.heap.size,0,none⟩) (l.length+l2.length) (grownCap w (l.length+l2.length) cap E)) (l++l2) (w.drew.alloc (.cells ((l.flatMap enc).toArray++(l2.flatMap enc).toArray++Builtin.zeroCells z.cells (grownCap w (l.length+l2.length) cap E - (l.length+l2.length))) E)):=by
      refine ⟨⟨by rw [flatMap_len hl],.inr ⟨w.heap.size,_,_,by rw [List.length_append],Nat.zero_le _,heap_alloc_new w.drew _,by rw [List.length_append];exact hge,hcm,?_,?_⟩⟩,fun q hq=>hone2 q hq hone⟩
      · simp only [Array.size_append,List.size_toArray,size_zeroCells,hzs,hfl,hyl,←Nat.add_mul]
        congr 1
        omega
      simp only [Array.toList_append,List.append_assoc,List.flatMap_append]
      rw [←List.append_assoc,List.length_append,Nat.add_mul,←hfl,←hyl,←List.length_append]
      exact List.take_left
    have hR:Reach u0 C0 τ0 σ (w.drew.alloc (.cells ((l.flatMap enc).toArray++(l2.flatMap enc).toArray++Builtin.zeroCells z.cells (grownCap w (l.length+l2.length) cap E - (l.length+l2.length))) E)) (Res.queS E size enc (.slice (some ⟨w.heap.size,0,none⟩) (l.length+l2.length) (grownCap w (l.length+l2.length) cap E)) (l++l2)::F):=
      hw.turn1 (Value.ownBlock v) (some w.heap.size) rfl rfl rfl rfl rfl (by simp) (Nat.le_succ _) (fun k hk _=>alloc_old w.drew _ k hk) ⟨l++l2,_,0,hrow,Nat.zero_le _,rfl,.inl (viewV_zero size _).symm,by rw [List.length_append];omega⟩ (fun b hb=> .inr (by cases hb;exact Nat.le_refl _))
    have hk2:=k (some ⟨w.heap.size,0,none⟩) (grownCap w (l.length+l2.length) cap E)
    rw [List.length_append]at hk2
    refine Oper.wp_of_run (w':=_) (v:= .slice (some ⟨w.heap.size,0,none⟩) (l.length+l2.length) (grownCap w (l.length+l2.length) cap E)) ?_ (hK _ _ _ _ _ hk2 hR (put_dst ha hd hn _))
    rw [ha.eval']
    simp [execOp,ho,resolve,invoke,builtin,hx,hy,hrun]
  subst hsi hib
  rcases que_cases hQ with ⟨L,g,q,c,cur,hk,rfl,rfl,hg,h3,h4,h5,h6,h7,h8,h9⟩|⟨rfl,b,rfl⟩
  · rw [List.length_drop]at *
    have holds: ∀j u,((L.drop q).flatMap enc)[j]? =some u→w.cell? ((⟨g,q * i.size,none⟩:Addr).add j)=some u:=fun j u hj=>by
      rw [flat_drop hl,List.getElem?_drop,←h6,List.getElem?_take]at hj
      split at hj
      · rw [loc_add]
        simp only [World.cell?,hg,Option.isSome_none,Bool.false_eq_true,if_false]
        rw [←Array.getElem?_toList];exact hj
      cases hj
    have hone: ∀u∈(L.drop q).flatMap enc,u.oneCell'=true:=fun u hu=>h8 u (by rw [flat_drop hl]at hu;exact List.mem_of_mem_drop hu)
    by_cases hroom:L.length - q+l2.length≤c - q
    · have e1:q * i.size+(L.length - q) * i.size=L.length * i.size:=by rw [←Nat.add_mul];congr 1;omega
      have hfit:q * i.size+(L.length - q) * i.size+(l2.flatMap enc).length≤cur.size:=by
        rw [e1,hyl,h5,←Nat.add_mul];exact Nat.mul_le_mul_right _ (by omega)
      have hr:=run_append_roomO (P:=X.P) ty o.type E i ht hi g (q * i.size) (L.length - q) (c - q) cur hg ad l2.length c2 (l2.flatMap enc) hl2 hc2 h1 hroom hfit
      rw [e1]at hr
      have hrow:Row0 E i.size enc (.slice (some ⟨g,0,none⟩) (L.length+l2.length) c) (L++l2) (w.setRow g (cur.toList.take (L.length * i.size)++l2.flatMap enc++cur.toList.drop (L.length * i.size+(l2.flatMap enc).length)).toArray):=by
        refine ⟨⟨by rw [flatMap_len hl],.inr ⟨g,c,_,by rw [List.length_append],Nat.zero_le _,setRow_heap w g cur _ E _ hg,by rw [List.length_append];omega,h4,?_,?_⟩⟩,fun u hu=> ?_⟩
        · simp only [List.size_toArray,List.length_append,List.length_take,List.length_drop,Array.length_toList]
          omega
        · rw [h6,List.flatMap_append,List.length_append,Nat.add_mul,←h7,←hyl,←List.length_append]
          exact List.take_left
        rw [List.flatMap_append]at hu
        rcases List.mem_append.1 hu with hu|hu
        · exact h8 u hu
        exact h1 u hu
      have hR:Reach u0 C0 τ0 σ (w.setRow g (cur.toList.take (L.length * i.size)++l2.flatMap enc++cur.toList.drop (L.length * i.size+(l2.flatMap enc).length)).toArray) (Res.queS E i.size enc (.slice (some ⟨g,q * i.size,none⟩) (L.length - q+l2.length) (c - q)) (L.drop q++l2)::F):=
        hw.turn1 (some g) (some g) rfl rfl rfl rfl rfl (by simp) (Nat.le_refl _) (fun k hk hn=>setRow_other w g k _ (fun e=>hn (by rw [e]))) ⟨L++l2,_,q,hrow,by rw [List.length_append];omega,by rw [List.drop_append_of_le_length (by omega)],.inl (by
          unfold viewV
          simp only [Option.map_some,loc_add,Nat.zero_add]
          congr 1;omega),by rw [List.length_append,List.length_drop];omega⟩ (fun b hb=> .inl hb)
      have hk2:=k (some ⟨g,q * i.size,none⟩) (c - q)
      rw [List.length_append,List.length_drop]at hk2
      refine Oper.wp_of_run (w':=_) (v:= .slice (some ⟨g,q * i.size,none⟩) (L.length - q+l2.length) (c - q)) ?_ (hK _ _ _ _ _ hk2 hR (put_dst ha hd hn _))
      rw [ha.eval']
      simp [execOp,ho,resolve,invoke,builtin,hx,hy,hr]
    have hr:=run_append_grow (P:=X.P) (w:=w) ty o.type E i z ht hi hiz ⟨g,q * i.size,none⟩ (L.length - q) (c - q) ((L.drop q).flatMap enc) hfl holds ad l2.length c2 (l2.flatMap enc) hl2 hc2 (by omega) (by omega) (growslice_fits (by omega) hb0)
    exact fin _ (c - q) rfl hone (by omega) hr
  simp only [List.length_nil,Nat.zero_add,List.flatMap_nil]at *
  cases b with
  |some b=>
    have hr:=run_append_grow (P:=X.P) (w:=w) ty o.type E i z ht hi hiz b 0 0 [] (by simp) (by simp) ad l2.length c2 (l2.flatMap enc) hl2 hc2 (by omega) (by omega) (growslice_fits (by omega) (by simpa using hb0))
    simp only [Nat.zero_add]at hr
    exact fin _ 0 rfl (by simp) h2 hr
  |none=>
    have hr:=run_append_nil (P:=X.P) w ty o.type E i z ht hi hiz ad l2.length c2 (l2.flatMap enc) hl2 hc2 (by omega) (by omega) (by omega)
    exact fin _ 0 rfl (by simp) h2 (by simpa using hr)
end
end Go.E
end
