/- Contracts of the reference of nfa, part one: text, set, star. -/
import Derived.Test.YtcidppnlhhkhhaaNfa5
set_option linter.unusedVariables false
set_option linter.unusedSimpArgs false
namespace Go.E
open Go
theorem OpOk.callN {X : Ctx} {e : Env} {σ : Store} {H : List Res} {o : Oper} {x : Operand} {K : Env → Store → List Res → Prop} {f d : Nat} {ps : Array Operand} {ts : Array TypeId} {first cap : Array Value} {args : List Value} {m : Nfa} {v : Int} (hc : Con X.P f args.toArray σ [] (NfaR m v)) (ho : o.op = .call { callee := .value x, args := ps, argTypes := ts })
    (hx : ev e x = .func (.func f) first cap) (hp : plainF X.P f = true) (hargs : first.toList ++ (ps.toList.map (ev e) ++ cap.toList) = args) (hd : o.dst = some d) (hn : Nat.blt d X.n = true)
    (k : ∀ p σ', σ.le σ' → RNfa σ' m p → K (upd e d (.tuple #[nfaV m p, .int .i64 v])) σ' H) : OpOk X o e σ H K :=
  OpOk.call (H1 := []) hc ho hx hp hargs hd hn rfl fun r σ' H' hle ⟨p, h1, h2, h3⟩ => by subst h1 h3; exact k p σ' hle h2
end Go.E
namespace Go.Proofs.Ytcidppnlhhkhhaa
open Go Go.E
set_option maxRecDepth 100000

def endR (n : Nfa) : Nfa := if fitB n.states n.edges.length = true then n else Nfa.zero
def endX (n : Nfa) : Int := if fitB n.states n.edges.length = true then 0 else 2
theorem end_con (σ : Store) (n : Nfa) (p : NfaP) (hn : RNfa σ n p) : Con Try.prog 71 #[nfaV n p] σ [] (NfaR (endR n) (endX n)) := by
  refine Con.mk (n := 15) Try.func71 rfl rfl rfl (fun w0 => ?_)
  refine TC.seq ?_
  refine TC.region ?_
  refine TL.op rfl (OpOk.boxA rfl rfl rfl rfl (fun b1 => ?_))
  refine TL.op rfl (OpOk.alloc rfl ze25 rfl rfl (fun b3 => ?_))
  refine TL.v rfl (OpVal.moveI (.inr rfl) rfl) rfl rfl ?_
  refine TL.nil ?_
  refine S.n ?_
  refine TC.seq ?_
  refine TC.seq ?_
  refine TC.region ?_
  refine TL.v rfl (OpVal.fieldLoc rfl fo25_0 rfl) rfl rfl ?_
  refine TL.v rfl (OpVal.loadLoc rfl ag3 rfl (i := 1) rfl rfl) rfl rfl ?_
  refine TL.v rfl (OpVal.gtr rfl rfl rfl) rfl rfl ?_
  refine TL.v rfl (OpVal.moveB (.inl rfl) rfl) rfl rfl ?_
  refine TL.split 7 rfl (fun h5 => ?_) (fun h5 => ?_)
  · try simp only [decide_eq_true_eq, decide_eq_false_iff_not, Bool.not_eq_true', Bool.not_eq_false', Bool.not_eq_eq_eq_not, Bool.not_true, Bool.not_false, Int.not_lt, Int.not_le, Decidable.not_not] at h5
    refine TL.goff rfl rfl rfl rfl rfl rfl rfl rfl ?_
    refine TL.goff rfl rfl rfl rfl rfl rfl rfl rfl ?_
    refine TL.goff rfl rfl rfl rfl rfl rfl rfl rfl ?_
    refine TL.goff rfl rfl rfl rfl rfl rfl rfl rfl ?_
    refine TL.v rfl (OpVal.pickTB rfl rfl rfl) rfl rfl ?_
    refine TL.nil ?_
    refine S.n ?_
    refine TC.cond rfl (fun _ => ?_) (fun h => Bool.noConfusion h)
    refine TC.seq ?_
    refine TC.region ?_
    refine TL.v rfl (OpVal.buildL rfl pl25 ze25 rfl) rfl rfl ?_
    refine TL.op rfl (OpOk.storeAll rfl sz25 rfl rfl rfl rfl rfl rfl ?_)
    refine TL.v rfl (OpVal.moveI (.inr rfl) rfl) rfl rfl ?_
    refine TL.nil ?_
    refine S.n ?_
    refine TC.ret ?_
    refine S.r ?_
    -- leaf 1 ret [h5: t7=True] H=['q4', 'q2']
    have hf : ¬ fitB n.states n.edges.length = true := by simp only [fitB, Bool.and_eq_true, decide_eq_true_eq]; omega
    simp only [endR, endX, if_neg hf]
    exact retNfa (p := NfaP.zero) 0 rfl ag25 sz25 rfl rfl rfl rfl (RNfa.zero _)
  · try simp only [decide_eq_true_eq, decide_eq_false_iff_not, Bool.not_eq_true', Bool.not_eq_false', Bool.not_eq_eq_eq_not, Bool.not_true, Bool.not_false, Int.not_lt, Int.not_le, Decidable.not_not] at h5
    refine TL.gv rfl rfl rfl rfl rfl (OpVal.fieldLoc rfl fo25_3 rfl) rfl rfl ?_
    refine TL.gv rfl rfl rfl rfl rfl (OpVal.loadLoc rfl ag23 rfl (i := 1) rfl rfl) rfl rfl ?_
    refine TL.gv rfl rfl rfl rfl rfl (OpVal.lenC rfl Try.underlying23 rfl) rfl rfl ?_
    refine TL.gv rfl rfl rfl rfl rfl (OpVal.gtr rfl rfl rfl) rfl rfl ?_
    refine TL.v rfl (OpVal.pickFB rfl rfl rfl) rfl rfl ?_
    refine TL.nil ?_
    refine S.n ?_
    refine TC.condD rfl (fun h6 => ?_) (fun h6 => ?_)
    · try simp only [decide_eq_true_eq, decide_eq_false_iff_not, Bool.not_eq_true', Bool.not_eq_false', Bool.not_eq_eq_eq_not, Bool.not_true, Bool.not_false, Int.not_lt, Int.not_le, Decidable.not_not] at h6
      refine TC.seq ?_
      refine TC.region ?_
      refine TL.v rfl (OpVal.buildL rfl pl25 ze25 rfl) rfl rfl ?_
      refine TL.op rfl (OpOk.storeAll rfl sz25 rfl rfl rfl rfl rfl rfl ?_)
      refine TL.v rfl (OpVal.moveI (.inr rfl) rfl) rfl rfl ?_
      refine TL.nil ?_
      refine S.n ?_
      refine TC.ret ?_
      refine S.r ?_
      -- leaf 2 ret [h5: t7=False; h6: True] H=['q4', 'q2']
      have hf : ¬ fitB n.states n.edges.length = true := by simp only [fitB, Bool.and_eq_true, decide_eq_true_eq]; omega
      simp only [endR, endX, if_neg hf]
      exact retNfa (p := NfaP.zero) 0 rfl ag25 sz25 rfl rfl rfl rfl (RNfa.zero _)
    · try simp only [decide_eq_true_eq, decide_eq_false_iff_not, Bool.not_eq_true', Bool.not_eq_false', Bool.not_eq_eq_eq_not, Bool.not_true, Bool.not_false, Int.not_lt, Int.not_le, Decidable.not_not] at h6
      refine TC.skip ?_
      refine S.n ?_
      refine TC.seq ?_
      refine TC.region ?_
      refine TL.v rfl (OpVal.loadAll rfl ag25 sz25 rfl (i := 1) rfl rfl) rfl rfl ?_
      refine TL.op rfl (OpOk.storeAll rfl sz25 rfl rfl rfl rfl rfl rfl ?_)
      refine TL.v rfl (OpVal.moveI (.inr rfl) rfl) rfl rfl ?_
      refine TL.nil ?_
      refine S.n ?_
      refine TC.ret ?_
      -- leaf 3 ret [h5: t7=False; h6: False] H=['q4', 'q2']
      have hf : fitB n.states n.edges.length = true := by simp only [fitB, Bool.and_eq_true, decide_eq_true_eq]; omega
      simp only [endR, endX, if_pos hf]
      exact retNfa (p := p) 0 rfl ag25 sz25 rfl rfl rfl rfl hn

theorem rset_con (σ : Store) (s : BSet) (hs : s.ok) : Con Try.prog 22 #[setV s] σ [] (NfaR1 (setN s)) := by
  refine Con.mk (n := 18) Try.func22 rfl rfl rfl (fun w0 => ?_)
  refine TC.seq ?_
  refine TC.region ?_
  refine TL.op rfl (OpOk.boxA rfl rfl rfl rfl (fun b1 => ?_))
  refine TL.op rfl (OpOk.alloc rfl ze25 rfl rfl (fun b3 => ?_))
  refine TL.nil ?_
  refine S.n ?_
  refine TC.seq ?_
  refine TC.region ?_
  refine TL.op rfl (OpOk.lit (enc := encI) [_] rfl Try.underlying22 sz3 ze3 rfl rfl rfl encI_len (by decide) (by decide) (0 : Int) rfl (by decide) rfl (by decide) encI_one (fun a5 c6 => ?_))
  refine TL.op rfl (OpOk.lit (enc := encI) [_] rfl Try.underlying22 sz3 ze3 rfl rfl rfl encI_len (by decide) (by decide) (0 : Int) rfl (by decide) rfl (by decide) encI_one (fun a8 c9 => ?_))
  refine TL.v rfl (OpVal.buildL rfl pl25 ze25 rfl) rfl rfl ?_
  refine TL.op rfl (OpOk.alloc rfl ze25 rfl rfl (fun b11 => ?_))
  refine TL.op rfl (OpOk.storeAll rfl sz25 rfl rfl rfl rfl rfl rfl ?_)
  refine TL.nilS 80 6 encE ?_
  refine TL.nil ?_
  refine S.n ?_
  refine TC.seq ?_
  refine TC.seq ?_
  refine TC.region ?_
  refine TL.v rfl (OpVal.loadAll rfl ag28 sz28 rfl (i := 5) rfl rfl) rfl rfl ?_
  refine TL.v rfl (OpVal.buildArrL rfl Try.underlying28 sz26 ze28 rfl) rfl rfl ?_
  refine TL.v rfl (OpVal.neqArr4 rfl Try.underlying28 Try.underlying26 ag26 sz26 eg28 rfl rfl rfl rfl) rfl rfl ?_
  refine TL.nil ?_
  refine S.n ?_
  refine TC.cond rfl (fun h14 => ?_) (fun h14 => ?_)
  · try simp only [decide_eq_true_eq, decide_eq_false_iff_not, Bool.not_eq_true', Bool.not_eq_false', Bool.not_eq_eq_eq_not, Bool.not_true, Bool.not_false, Int.not_lt, Int.not_le, Decidable.not_not] at h14
    refine TC.region ?_
    refine TL.v rfl (OpVal.fieldLoc rfl fo25_3 rfl) rfl rfl ?_
    refine TL.v rfl (OpVal.loadLoc rfl ag23 rfl (i := 1) rfl rfl) rfl rfl ?_
    refine TL.v rfl (OpVal.loadAll rfl ag28 sz28 rfl (i := 5) rfl rfl) rfl rfl ?_
    refine TL.v rfl (OpVal.buildL rfl pl80 ze80 rfl) rfl rfl ?_
    refine TL.op rfl (OpOk.lit (enc := encE) [⟨0, 1, s⟩] rfl Try.underlying23 sz80 ze80 rfl rfl rfl encE_len (by decide) (by decide) Arrow.zero rfl (by decide) rfl (by decide) encE_one (fun a15 c16 => ?_))
    refine TL.front 1 rfl rfl ?_
    refine TL.op rfl (OpOk.appendS rfl rfl Try.underlying23 sz80 by80 ze80 rfl rfl (by decide) rfl rfl rfl (.inr ⟨_, 0, rfl⟩) (by (try simp only [List.length_cons, List.length_nil, List.length_append]); omega) (by decide) (fun a18 c19 => ?_))
    refine TL.v rfl (OpVal.fieldLoc rfl fo25_3 rfl) rfl rfl ?_
    refine TL.front 2 rfl rfl ?_
    refine TL.op rfl (OpOk.storeSl rfl sz23 rfl rfl rfl rfl rfl ?_)
    refine TL.nil ?_
    refine S.n ?_
    refine TC.seq ?_
    refine TC.region ?_
    refine TL.v rfl (OpVal.loadAll rfl ag25 sz25 rfl (i := 0) rfl rfl) rfl rfl ?_
    refine TL.front 5 rfl rfl ?_
    refine TL.op rfl (OpOk.storeAll rfl sz25 rfl rfl rfl rfl rfl rfl ?_)
    refine TL.nil ?_
    refine S.n ?_
    refine TC.front 2 rfl rfl ?_
    refine TC.sealS encE_len (fun τ22 hle21 hr20 => ?_)
    refine TC.front 2 rfl rfl ?_
    refine TC.sealS encE_len (fun τ25 hle24 hr23 => ?_)
    replace hr20 := hr20.mono hle24
    refine TC.front 2 rfl rfl ?_
    refine TC.sealS encI_len (fun τ28 hle27 hr26 => ?_)
    replace hr20 := hr20.mono hle27
    replace hr23 := hr23.mono hle27
    refine TC.front 2 rfl rfl ?_
    refine TC.sealS encI_len (fun τ31 hle30 hr29 => ?_)
    replace hr20 := hr20.mono hle30
    replace hr23 := hr23.mono hle30
    replace hr26 := hr26.mono hle30
    refine TC.ret ?_
    -- leaf 1 ret [h14: True] H=['q4', 'q12', 'q2']
    have h0 : ¬ s = BSet.zero := fun hx => h14 ((BSet.zero_iff s).2 hx)
    have hE : setE s = [⟨0, 1, s⟩] := if_neg h0
    exact retNfa1 (p := ⟨a5, c6, a8, c9, a18, c19⟩) 0 rfl ag25 sz25 rfl rfl (by unfold nfaA setN; rw [hE]; rfl) ⟨hr29, hr26, by unfold setN; rw [hE]; exact hr20, setE_ok hs⟩
  · try simp only [decide_eq_true_eq, decide_eq_false_iff_not, Bool.not_eq_true', Bool.not_eq_false', Bool.not_eq_eq_eq_not, Bool.not_true, Bool.not_false, Int.not_lt, Int.not_le, Decidable.not_not] at h14
    refine TC.skip ?_
    refine S.n ?_
    refine TC.seq ?_
    refine TC.region ?_
    refine TL.v rfl (OpVal.loadAll rfl ag25 sz25 rfl (i := 1) rfl rfl) rfl rfl ?_
    refine TL.front 4 rfl rfl ?_
    refine TL.op rfl (OpOk.storeAll rfl sz25 rfl rfl rfl rfl rfl rfl ?_)
    refine TL.nil ?_
    refine S.n ?_
    refine TC.front 1 rfl rfl ?_
    refine TC.sealS encE_len (fun τ34 hle33 hr32 => ?_)
    refine TC.front 2 rfl rfl ?_
    refine TC.sealS encI_len (fun τ37 hle36 hr35 => ?_)
    replace hr32 := hr32.mono hle36
    refine TC.front 2 rfl rfl ?_
    refine TC.sealS encI_len (fun τ40 hle39 hr38 => ?_)
    replace hr32 := hr32.mono hle39
    replace hr35 := hr35.mono hle39
    refine TC.ret ?_
    -- leaf 2 ret [h14: False] H=['q4', 'q12', 'q2']
    have h0 : s = BSet.zero := (BSet.zero_iff s).1 h14
    have hE : setE s = [] := if_pos h0
    exact retNfa1 (p := ⟨a5, c6, a8, c9, none, 0⟩) 0 rfl ag25 sz25 rfl rfl (by unfold nfaA setN; rw [hE]; rfl) ⟨hr38, hr35, by unfold setN; rw [hE]; exact hr32, setE_ok hs⟩

theorem starC_tt {a : Nfa} {k : Nat} (h : k < a.edges.length) (h1 : a.starts.contains (nth a.edges k Arrow.zero).frm = true) (h2 : a.ends.contains (nth a.edges k Arrow.zero).to = true) :
    starTo a (k + 1) = starTo a k ++ [⟨a.states, (nth a.edges k Arrow.zero).to, (nth a.edges k Arrow.zero).set⟩] ++ [⟨(nth a.edges k Arrow.zero).frm, a.states, (nth a.edges k Arrow.zero).set⟩] ++ [⟨a.states, a.states, (nth a.edges k Arrow.zero).set⟩] := by
  rw [starTo_succ h, starOf, if_pos h1, if_pos h2, if_pos ⟨h1, h2⟩]; simp only [List.append_assoc]
theorem starC_tf {a : Nfa} {k : Nat} (h : k < a.edges.length) (h1 : a.starts.contains (nth a.edges k Arrow.zero).frm = true) (h2 : a.ends.contains (nth a.edges k Arrow.zero).to = false) :
    starTo a (k + 1) = starTo a k ++ [⟨a.states, (nth a.edges k Arrow.zero).to, (nth a.edges k Arrow.zero).set⟩] := by
  rw [← Bool.not_eq_true] at h2
  rw [starTo_succ h, starOf, if_pos h1, if_neg h2, if_neg (fun x => h2 x.2)]; rfl
theorem starC_ft {a : Nfa} {k : Nat} (h : k < a.edges.length) (h1 : a.starts.contains (nth a.edges k Arrow.zero).frm = false) (h2 : a.ends.contains (nth a.edges k Arrow.zero).to = true) :
    starTo a (k + 1) = starTo a k ++ [⟨(nth a.edges k Arrow.zero).frm, a.states, (nth a.edges k Arrow.zero).set⟩] := by
  rw [← Bool.not_eq_true] at h1
  rw [starTo_succ h, starOf, if_neg h1, if_pos h2, if_neg (fun x => h1 x.1)]; rfl
theorem starC_ff {a : Nfa} {k : Nat} (h : k < a.edges.length) (h1 : a.starts.contains (nth a.edges k Arrow.zero).frm = false) (h2 : a.ends.contains (nth a.edges k Arrow.zero).to = false) :
    starTo a (k + 1) = starTo a k := by
  rw [← Bool.not_eq_true] at h1 h2
  rw [starTo_succ h, starOf, if_neg h1, if_neg h2, if_neg (fun x => h1 x.1), List.append_nil, List.append_nil, List.append_nil]

theorem rstar_con (σ : Store) (n : Nfa) (p : NfaP) (hn : RNfa σ n p) : Con Try.prog 32 #[nfaV n p] σ [] (NfaR (starR n) (starX n)) := by
  have hd := hn.d
  refine Con.mk (n := 93) Try.func32 rfl rfl rfl (fun w0 => ?_)
  refine TC.seq ?_
  refine TC.region ?_
  refine TL.op rfl (OpOk.boxA rfl rfl rfl rfl (fun b1 => ?_))
  refine TL.op rfl (OpOk.alloc rfl ze25 rfl rfl (fun b3 => ?_))
  refine TL.v rfl (OpVal.moveI (.inr rfl) rfl) rfl rfl ?_
  refine TL.nil ?_
  refine S.n ?_
  refine TC.seq ?_
  refine TC.seq ?_
  refine TC.region ?_
  refine TL.v rfl (OpVal.loadAll rfl ag25 sz25 rfl (i := 1) rfl rfl) rfl rfl ?_
  refine TL.op rfl (OpOk.callP (right_con _ _ _ hn) rfl rfl pf57 rfl rfl rfl ?_)
  refine TL.v rfl (OpVal.not rfl rfl) rfl rfl ?_
  refine TL.nil ?_
  refine S.n ?_
  refine TC.cond rfl (fun h5 => ?_) (fun h5 => ?_)
  · try simp only [decide_eq_true_eq, decide_eq_false_iff_not, Bool.not_eq_true', Bool.not_eq_false', Bool.not_eq_eq_eq_not, Bool.not_true, Bool.not_false, Int.not_lt, Int.not_le, Decidable.not_not] at h5
    refine TC.seq ?_
    refine TC.region ?_
    refine TL.v rfl (OpVal.buildL rfl pl25 ze25 rfl) rfl rfl ?_
    refine TL.op rfl (OpOk.storeAll rfl sz25 rfl rfl rfl rfl rfl rfl ?_)
    refine TL.v rfl (OpVal.moveI (.inr rfl) rfl) rfl rfl ?_
    refine TL.nil ?_
    refine S.n ?_
    refine TC.ret ?_
    refine S.r ?_
    -- leaf 1 ret [h5: True] H=['q4', 'q2']
    have hc : ¬ checkB n = true := by rw [h5]; exact Bool.false_ne_true
    simp only [starR, starX, if_neg hc]
    exact retNfa (p := NfaP.zero) 0 rfl ag25 sz25 rfl rfl rfl rfl (RNfa.zero _)
  · try simp only [decide_eq_true_eq, decide_eq_false_iff_not, Bool.not_eq_true', Bool.not_eq_false', Bool.not_eq_eq_eq_not, Bool.not_true, Bool.not_false, Int.not_lt, Int.not_le, Decidable.not_not] at h5
    refine TC.skip ?_
    refine S.n ?_
    refine TC.seq ?_
    obtain ⟨k1, k2, k3, k4, k5, k6⟩ := checkB_spec (by assumption)
    refine TC.region ?_
    refine TL.v rfl (OpVal.fieldLoc rfl fo25_0 rfl) rfl rfl ?_
    refine TL.v rfl (OpVal.loadLoc rfl ag3 rfl (i := 1) rfl rfl) rfl rfl ?_
    refine TL.v rfl (OpVal.moveI (.inr rfl) rfl) rfl rfl ?_
    refine TL.nil ?_
    refine S.n ?_
    refine TC.seq ?_
    refine TC.region ?_
    refine TL.v rfl (OpVal.moveI (.inl rfl) rfl) rfl rfl ?_
    refine TL.v rfl (OpVal.add rfl rfl rfl (by omega) (by omega)) rfl rfl ?_
    refine TL.v rfl (OpVal.moveI (.inl rfl) rfl) rfl rfl ?_
    refine TL.op rfl (OpOk.lit (enc := encI) [_] rfl Try.underlying22 sz3 ze3 rfl rfl rfl encI_len (by decide) (by decide) (0 : Int) rfl (by decide) rfl (by decide) encI_one (fun a6 c7 => ?_))
    refine TL.v rfl (OpVal.moveI (.inl rfl) rfl) rfl rfl ?_
    refine TL.op rfl (OpOk.lit (enc := encI) [_] rfl Try.underlying22 sz3 ze3 rfl rfl rfl encI_len (by decide) (by decide) (0 : Int) rfl (by decide) rfl (by decide) encI_one (fun a9 c10 => ?_))
    refine TL.v rfl (OpVal.buildL rfl pl25 ze25 rfl) rfl rfl ?_
    refine TL.op rfl (OpOk.alloc rfl ze25 rfl rfl (fun b12 => ?_))
    refine TL.op rfl (OpOk.storeAll rfl sz25 rfl rfl rfl rfl rfl rfl ?_)
    refine TL.nilS 80 6 encE ?_
    refine TL.nil ?_
    refine S.n ?_
    refine TC.seq ?_
    refine TC.region ?_
    refine TL.v rfl (OpVal.fieldLoc rfl fo25_3 rfl) rfl rfl ?_
    refine TL.v rfl (OpVal.loadLoc rfl ag23 rfl (i := 1) rfl rfl) rfl rfl ?_
    refine TL.v rfl (OpVal.fieldLoc rfl fo25_3 rfl) rfl rfl ?_
    refine TL.v rfl (OpVal.loadLoc rfl ag23 rfl (i := 5) rfl rfl) rfl rfl ?_
    refine TL.op rfl (OpOk.appendS rfl rfl Try.underlying23 sz80 by80 ze80 rfl rfl (by decide) rfl rfl rfl (.inl (by assumption)) (by (try simp only [List.length_cons, List.length_nil, List.length_append]); omega) (by decide) (fun a15 c16 => ?_))
    refine TL.v rfl (OpVal.fieldLoc rfl fo25_3 rfl) rfl rfl ?_
    refine TL.front 1 rfl rfl ?_
    refine TL.op rfl (OpOk.storeSl rfl sz23 rfl rfl rfl rfl rfl ?_)
    refine TL.nil ?_
    refine S.n ?_
    refine TC.seq ?_
    refine TC.seq ?_
    refine TC.region ?_
    refine TL.v rfl (OpVal.moveI (.inr rfl) rfl) rfl rfl ?_
    refine TL.nil ?_
    refine S.n ?_
    refine TC.block ?_
    refine TC.loopF (α := Nat × Option Addr × Nat) [6, 7, 8, 9, 29, 30, 31, 32, 33, 34, 35, 36, 37, 38, 39, 40, 41, 42, 43, 44, 45, 46, 47, 48, 49, 50, 51, 52, 53, 54, 55, 56, 57, 58, 59, 60, 61, 62, 63, 64, 65, 66, 67, 68, 69, 70, 71, 72, 73, 74, 75, 76, 77, 78, 79, 80, 81, 82, 83, 84, 85, 86, 87, 88] (fun g => [(6, .int .i64 (g.1 : Nat))]) (fun g => [Res.cells b12 #[.int .i64 (n.states + 1), .slice a6 1 c7, .slice a9 1 c10, .slice g.2.1 (starTo n g.1).length g.2.2] 25, Res.rowS 80 6 encE (.slice g.2.1 (starTo n g.1).length g.2.2) (starTo n g.1), Res.rowS 3 1 encI (.slice a9 1 c10) [n.states], Res.rowS 3 1 encI (.slice a6 1 c7) [n.states], Res.cells b3 (nfaA Nfa.zero NfaP.zero) 25, Res.cells b1 (nfaA n p) 25]) (fun _ => _) (fun g => g.1 ≤ n.edges.length) (fun g => n.edges.length - g.1) ((0, a15, c16)) (by first | exact True.intro | omega | (dsimp only; omega) | (simp; done) | (simp; omega)) (by repeat (first | exact trivial | refine ⟨rfl, ?_⟩)) (by simp only [starTo_zero]; rfl) (by rfl) (fun g1 j1 hg1 => ?_)
    obtain ⟨g1, ga, gc⟩ := g1
    dsimp only
    have hg1 : g1 ≤ n.edges.length := hg1
    have hu : g1 < n.edges.length → _ := fun h => k6 _ (nth_mem h Arrow.zero)
    have hl := starTo_len n g1 hg1
    refine TC.seq ?_
    refine TC.seq ?_
    refine TC.region ?_
    refine TL.v rfl (OpVal.moveI (.inl rfl) rfl) rfl rfl ?_
    refine TL.v rfl (OpVal.fieldLoc rfl fo25_3 rfl) rfl rfl ?_
    refine TL.v rfl (OpVal.loadLoc rfl ag23 rfl (i := 5) rfl rfl) rfl rfl ?_
    refine TL.v rfl (OpVal.lenC rfl Try.underlying23 rfl) rfl rfl ?_
    refine TL.v rfl (OpVal.lss rfl rfl rfl) rfl rfl ?_
    refine TL.nil ?_
    refine S.n ?_
    refine TC.condD rfl (fun h17 => ?_) (fun h17 => ?_)
    · try simp only [decide_eq_true_eq, decide_eq_false_iff_not, Bool.not_eq_true', Bool.not_eq_false', Bool.not_eq_eq_eq_not, Bool.not_true, Bool.not_false, Int.not_lt, Int.not_le, Decidable.not_not] at h17
      refine TC.skip ?_
      refine S.n ?_
      refine TC.seq ?_
      refine TC.block ?_
      refine TC.seq ?_
      refine TC.region ?_
      refine TL.v rfl (OpVal.fieldLoc rfl fo25_3 rfl) rfl rfl ?_
      refine TL.v rfl (OpVal.loadLoc rfl ag23 rfl (i := 5) rfl rfl) rfl rfl ?_
      refine TL.v rfl (OpVal.moveI (.inl rfl) rfl) rfl rfl ?_
      refine TL.v rfl (OpVal.indexN rfl Try.underlying23 sz80 rfl rfl (by first | assumption | exact (RS.rv (by assumption)).sl) (by omega)) rfl rfl ?_
      refine TL.v rfl (OpVal.loadSA Arrow.zero rfl ag80 sz80 rfl (by assumption) (by omega) (by omega)) rfl rfl ?_
      refine TL.op rfl (OpOk.alloc rfl ze80 rfl rfl (fun b18 => ?_))
      refine TL.op rfl (OpOk.storeAll rfl sz80 rfl rfl rfl rfl rfl rfl ?_)
      refine TL.nil ?_
      refine S.n ?_
      refine TC.seq ?_
      refine TC.region ?_
      refine TL.v rfl (OpVal.fieldLoc rfl fo80_0 rfl) rfl rfl ?_
      refine TL.v rfl (OpVal.loadLoc rfl ag3 rfl (i := 0) rfl rfl) rfl rfl ?_
      refine TL.v rfl (OpVal.fieldLoc rfl fo25_1 rfl) rfl rfl ?_
      refine TL.v rfl (OpVal.loadLoc rfl ag22 rfl (i := 6) rfl rfl) rfl rfl ?_
      refine TL.op rfl (OpOk.callP (in_con _ _ _ _ _ (by first | exact hn.s | exact hn.e)) rfl rfl pf59 rfl rfl rfl ?_)
      refine TL.v rfl (OpVal.moveB (.inr rfl) rfl) rfl rfl ?_
      refine TL.nil ?_
      refine S.n ?_
      refine TC.seq ?_
      refine TC.region ?_
      refine TL.v rfl (OpVal.fieldLoc rfl fo80_1 rfl) rfl rfl ?_
      refine TL.v rfl (OpVal.loadLoc rfl ag3 rfl (i := 0) rfl rfl) rfl rfl ?_
      refine TL.v rfl (OpVal.fieldLoc rfl fo25_2 rfl) rfl rfl ?_
      refine TL.v rfl (OpVal.loadLoc rfl ag22 rfl (i := 6) rfl rfl) rfl rfl ?_
      refine TL.op rfl (OpOk.callP (in_con _ _ _ _ _ (by first | exact hn.s | exact hn.e)) rfl rfl pf59 rfl rfl rfl ?_)
      refine TL.v rfl (OpVal.moveB (.inr rfl) rfl) rfl rfl ?_
      refine TL.nil ?_
      refine S.n ?_
      refine TC.seq ?_
      refine TC.seq ?_
      refine TC.region ?_
      refine TL.v rfl (OpVal.moveB (.inl rfl) rfl) rfl rfl ?_
      refine TL.nil ?_
      refine S.n ?_
      refine TC.cond rfl (fun h20 => ?_) (fun h20 => ?_)
      · try simp only [decide_eq_true_eq, decide_eq_false_iff_not, Bool.not_eq_true', Bool.not_eq_false', Bool.not_eq_eq_eq_not, Bool.not_true, Bool.not_false, Int.not_lt, Int.not_le, Decidable.not_not] at h20
        refine TC.region ?_
        refine TL.v rfl (OpVal.fieldLoc rfl fo25_3 rfl) rfl rfl ?_
        refine TL.v rfl (OpVal.loadLoc rfl ag23 rfl (i := 1) rfl rfl) rfl rfl ?_
        refine TL.v rfl (OpVal.moveI (.inl rfl) rfl) rfl rfl ?_
        refine TL.v rfl (OpVal.fieldLoc rfl fo80_1 rfl) rfl rfl ?_
        refine TL.v rfl (OpVal.loadLoc rfl ag3 rfl (i := 0) rfl rfl) rfl rfl ?_
        refine TL.v rfl (OpVal.fieldLoc rfl fo80_2 rfl) rfl rfl ?_
        refine TL.v rfl (OpVal.loadLocA rfl ag28 sz28 rfl (i := 0) rfl rfl rfl) rfl rfl ?_
        refine TL.v rfl (OpVal.buildL rfl pl80 ze80 rfl) rfl rfl ?_
        refine TL.op rfl (OpOk.lit (enc := encE) [⟨n.states, (nth n.edges g1 Arrow.zero).to, (nth n.edges g1 Arrow.zero).set⟩] rfl Try.underlying23 sz80 ze80 rfl rfl rfl encE_len (by decide) (by decide) Arrow.zero rfl (by decide) rfl (by decide) encE_one (fun a21 c22 => ?_))
        refine TL.front 3 rfl rfl ?_
        refine TL.op rfl (OpOk.appendS rfl rfl Try.underlying23 sz80 by80 ze80 rfl rfl (by decide) rfl rfl rfl (.inr ⟨_, 0, rfl⟩) (by (try simp only [List.length_cons, List.length_nil, List.length_append]); omega) (by decide) (fun a24 c25 => ?_))
        refine TL.v rfl (OpVal.fieldLoc rfl fo25_3 rfl) rfl rfl ?_
        refine TL.front 3 rfl rfl ?_
        refine TL.op rfl (OpOk.storeSl rfl sz23 rfl rfl rfl rfl rfl ?_)
        refine TL.nil ?_
        refine S.n ?_
        refine TC.seq ?_
        refine TC.seq ?_
        refine TC.region ?_
        refine TL.v rfl (OpVal.moveB (.inl rfl) rfl) rfl rfl ?_
        refine TL.nil ?_
        refine S.n ?_
        refine TC.cond rfl (fun h26 => ?_) (fun h26 => ?_)
        · try simp only [decide_eq_true_eq, decide_eq_false_iff_not, Bool.not_eq_true', Bool.not_eq_false', Bool.not_eq_eq_eq_not, Bool.not_true, Bool.not_false, Int.not_lt, Int.not_le, Decidable.not_not] at h26
          refine TC.region ?_
          refine TL.v rfl (OpVal.fieldLoc rfl fo25_3 rfl) rfl rfl ?_
          refine TL.v rfl (OpVal.loadLoc rfl ag23 rfl (i := 0) rfl rfl) rfl rfl ?_
          refine TL.v rfl (OpVal.fieldLoc rfl fo80_0 rfl) rfl rfl ?_
          refine TL.v rfl (OpVal.loadLoc rfl ag3 rfl (i := 3) rfl rfl) rfl rfl ?_
          refine TL.v rfl (OpVal.moveI (.inl rfl) rfl) rfl rfl ?_
          refine TL.v rfl (OpVal.fieldLoc rfl fo80_2 rfl) rfl rfl ?_
          refine TL.v rfl (OpVal.loadLocA rfl ag28 sz28 rfl (i := 3) rfl rfl rfl) rfl rfl ?_
          refine TL.v rfl (OpVal.buildL rfl pl80 ze80 rfl) rfl rfl ?_
          refine TL.op rfl (OpOk.lit (enc := encE) [⟨(nth n.edges g1 Arrow.zero).frm, n.states, (nth n.edges g1 Arrow.zero).set⟩] rfl Try.underlying23 sz80 ze80 rfl rfl rfl encE_len (by decide) (by decide) Arrow.zero rfl (by decide) rfl (by decide) encE_one (fun a27 c28 => ?_))
          refine TL.front 2 rfl rfl ?_
          refine TL.op rfl (OpOk.appendS rfl rfl Try.underlying23 sz80 by80 ze80 rfl rfl (by decide) rfl rfl rfl (.inr ⟨_, 0, rfl⟩) (by (try simp only [List.length_cons, List.length_nil, List.length_append]); omega) (by decide) (fun a30 c31 => ?_))
          refine TL.v rfl (OpVal.fieldLoc rfl fo25_3 rfl) rfl rfl ?_
          refine TL.front 2 rfl rfl ?_
          refine TL.op rfl (OpOk.storeSl rfl sz23 rfl rfl rfl rfl rfl ?_)
          refine TL.nil ?_
          refine S.n ?_
          refine TC.seq ?_
          refine TC.region ?_
          refine TL.v rfl (OpVal.moveB (.inl rfl) rfl) rfl rfl ?_
          refine TL.v rfl (OpVal.moveB (.inl rfl) rfl) rfl rfl ?_
          refine TL.split 76 rfl (fun h32 => ?_) (fun h32 => ?_)
          · try simp only [decide_eq_true_eq, decide_eq_false_iff_not, Bool.not_eq_true', Bool.not_eq_false', Bool.not_eq_eq_eq_not, Bool.not_true, Bool.not_false, Int.not_lt, Int.not_le, Decidable.not_not] at h32
            refine TL.gv rfl rfl rfl rfl rfl (OpVal.moveB (.inl rfl) rfl) rfl rfl ?_
            refine TL.v rfl (OpVal.pickTB rfl rfl rfl) rfl rfl ?_
            refine TL.nil ?_
            refine S.n ?_
            refine TC.cond rfl (fun h33 => ?_) (fun h33 => ?_)
            · try simp only [decide_eq_true_eq, decide_eq_false_iff_not, Bool.not_eq_true', Bool.not_eq_false', Bool.not_eq_eq_eq_not, Bool.not_true, Bool.not_false, Int.not_lt, Int.not_le, Decidable.not_not] at h33
              refine TC.region ?_
              refine TL.v rfl (OpVal.fieldLoc rfl fo25_3 rfl) rfl rfl ?_
              refine TL.v rfl (OpVal.loadLoc rfl ag23 rfl (i := 0) rfl rfl) rfl rfl ?_
              refine TL.v rfl (OpVal.moveI (.inl rfl) rfl) rfl rfl ?_
              refine TL.v rfl (OpVal.moveI (.inl rfl) rfl) rfl rfl ?_
              refine TL.v rfl (OpVal.fieldLoc rfl fo80_2 rfl) rfl rfl ?_
              refine TL.v rfl (OpVal.loadLocA rfl ag28 sz28 rfl (i := 4) rfl rfl rfl) rfl rfl ?_
              refine TL.v rfl (OpVal.buildL rfl pl80 ze80 rfl) rfl rfl ?_
              refine TL.op rfl (OpOk.lit (enc := encE) [⟨n.states, n.states, (nth n.edges g1 Arrow.zero).set⟩] rfl Try.underlying23 sz80 ze80 rfl rfl rfl encE_len (by decide) (by decide) Arrow.zero rfl (by decide) rfl (by decide) encE_one (fun a34 c35 => ?_))
              refine TL.front 2 rfl rfl ?_
              refine TL.op rfl (OpOk.appendS rfl rfl Try.underlying23 sz80 by80 ze80 rfl rfl (by decide) rfl rfl rfl (.inr ⟨_, 0, rfl⟩) (by (try simp only [List.length_cons, List.length_nil, List.length_append]); omega) (by decide) (fun a37 c38 => ?_))
              refine TL.v rfl (OpVal.fieldLoc rfl fo25_3 rfl) rfl rfl ?_
              refine TL.front 2 rfl rfl ?_
              refine TL.op rfl (OpOk.storeSl rfl sz23 rfl rfl rfl rfl rfl ?_)
              refine TL.nil ?_
              refine B.n ?_
              refine S.n ?_
              refine TC.region ?_
              refine TL.v rfl (OpVal.moveI (.inl rfl) rfl) rfl rfl ?_
              refine TL.v rfl (OpVal.succ rfl rfl rfl (by omega)) rfl rfl ?_
              refine TL.v rfl (OpVal.moveI (.inr rfl) rfl) rfl rfl ?_
              refine TL.front 9 rfl rfl ?_
              refine TL.front 9 rfl rfl ?_
              refine TL.front 9 rfl rfl ?_
              refine TL.front 9 rfl rfl ?_
              refine TL.front 5 rfl rfl ?_
              refine TL.front 5 rfl rfl ?_
              refine TL.takeN 6 rfl ?_
              refine TL.nil ?_
              refine S.n ?_
              -- leaf 2 next [h5: False; h17: True; h20: True; h26: True; h32: t76=True; h33: True] H=['q13', 'q14', 'q11', 'q8', 'q4', 'q2']
              refine ⟨by repeat (first | exact Agr.mask | refine Agr.upd rfl ?_ | refine Agr.maskIn rfl ?_), (g1 + 1, a37, c38), ?_, ?_, ?_, ?_, ?_⟩
              · show n.edges.length - (g1 + 1) < n.edges.length - g1; omega
              · show g1 + 1 ≤ n.edges.length; omega
              · repeat (first | exact trivial | refine ⟨rfl, ?_⟩)
              · show _ = [Res.cells _ #[_, _, _, .slice _ (starTo n (g1 + 1)).length _] _, Res.rowS _ _ _ (.slice _ (starTo n (g1 + 1)).length _) (starTo n (g1 + 1)), _, _, _, _]
                rw [starC_tt (by omega) h20 h26]; rfl
              · rfl
            · try simp only [decide_eq_true_eq, decide_eq_false_iff_not, Bool.not_eq_true', Bool.not_eq_false', Bool.not_eq_eq_eq_not, Bool.not_true, Bool.not_false, Int.not_lt, Int.not_le, Decidable.not_not] at h33
              refine TC.skip ?_
              refine B.n ?_
              refine S.n ?_
              refine TC.region ?_
              refine TL.v rfl (OpVal.moveI (.inl rfl) rfl) rfl rfl ?_
              refine TL.v rfl (OpVal.succ rfl rfl rfl (by omega)) rfl rfl ?_
              refine TL.v rfl (OpVal.moveI (.inr rfl) rfl) rfl rfl ?_
              refine TL.front 8 rfl rfl ?_
              refine TL.front 8 rfl rfl ?_
              refine TL.front 8 rfl rfl ?_
              refine TL.front 8 rfl rfl ?_
              refine TL.front 5 rfl rfl ?_
              refine TL.front 5 rfl rfl ?_
              refine TL.takeN 6 rfl ?_
              refine TL.nil ?_
              refine S.n ?_
              -- leaf 3 next [h5: False; h17: True; h20: True; h26: True; h32: t76=True; h33: False] H=['q13', 'q14', 'q11', 'q8', 'q4', 'q2']
              exact absurd (h33.symm.trans h26) Bool.false_ne_true
          · try simp only [decide_eq_true_eq, decide_eq_false_iff_not, Bool.not_eq_true', Bool.not_eq_false', Bool.not_eq_eq_eq_not, Bool.not_true, Bool.not_false, Int.not_lt, Int.not_le, Decidable.not_not] at h32
            refine TL.goff rfl rfl rfl rfl rfl rfl rfl rfl ?_
            refine TL.v rfl (OpVal.pickFB rfl rfl rfl) rfl rfl ?_
            refine TL.nil ?_
            refine S.n ?_
            refine TC.cond rfl (fun h => Bool.noConfusion h) (fun _ => ?_)
            refine TC.skip ?_
            refine B.n ?_
            refine S.n ?_
            refine TC.region ?_
            refine TL.v rfl (OpVal.moveI (.inl rfl) rfl) rfl rfl ?_
            refine TL.v rfl (OpVal.succ rfl rfl rfl (by omega)) rfl rfl ?_
            refine TL.v rfl (OpVal.moveI (.inr rfl) rfl) rfl rfl ?_
            refine TL.front 8 rfl rfl ?_
            refine TL.front 8 rfl rfl ?_
            refine TL.front 8 rfl rfl ?_
            refine TL.front 8 rfl rfl ?_
            refine TL.front 5 rfl rfl ?_
            refine TL.front 5 rfl rfl ?_
            refine TL.takeN 6 rfl ?_
            refine TL.nil ?_
            refine S.n ?_
            -- leaf 4 next [h5: False; h17: True; h20: True; h26: True; h32: t76=False] H=['q13', 'q14', 'q11', 'q8', 'q4', 'q2']
            exact absurd (h32.symm.trans h20) Bool.false_ne_true
        · try simp only [decide_eq_true_eq, decide_eq_false_iff_not, Bool.not_eq_true', Bool.not_eq_false', Bool.not_eq_eq_eq_not, Bool.not_true, Bool.not_false, Int.not_lt, Int.not_le, Decidable.not_not] at h26
          refine TC.skip ?_
          refine S.n ?_
          refine TC.seq ?_
          refine TC.region ?_
          refine TL.v rfl (OpVal.moveB (.inl rfl) rfl) rfl rfl ?_
          refine TL.v rfl (OpVal.moveB (.inl rfl) rfl) rfl rfl ?_
          refine TL.split 76 rfl (fun h39 => ?_) (fun h39 => ?_)
          · try simp only [decide_eq_true_eq, decide_eq_false_iff_not, Bool.not_eq_true', Bool.not_eq_false', Bool.not_eq_eq_eq_not, Bool.not_true, Bool.not_false, Int.not_lt, Int.not_le, Decidable.not_not] at h39
            refine TL.gv rfl rfl rfl rfl rfl (OpVal.moveB (.inl rfl) rfl) rfl rfl ?_
            refine TL.v rfl (OpVal.pickTB rfl rfl rfl) rfl rfl ?_
            refine TL.nil ?_
            refine S.n ?_
            refine TC.cond rfl (fun h40 => ?_) (fun h40 => ?_)
            · try simp only [decide_eq_true_eq, decide_eq_false_iff_not, Bool.not_eq_true', Bool.not_eq_false', Bool.not_eq_eq_eq_not, Bool.not_true, Bool.not_false, Int.not_lt, Int.not_le, Decidable.not_not] at h40
              refine TC.region ?_
              refine TL.v rfl (OpVal.fieldLoc rfl fo25_3 rfl) rfl rfl ?_
              refine TL.v rfl (OpVal.loadLoc rfl ag23 rfl (i := 0) rfl rfl) rfl rfl ?_
              refine TL.v rfl (OpVal.moveI (.inl rfl) rfl) rfl rfl ?_
              refine TL.v rfl (OpVal.moveI (.inl rfl) rfl) rfl rfl ?_
              refine TL.v rfl (OpVal.fieldLoc rfl fo80_2 rfl) rfl rfl ?_
              refine TL.v rfl (OpVal.loadLocA rfl ag28 sz28 rfl (i := 3) rfl rfl rfl) rfl rfl ?_
              refine TL.v rfl (OpVal.buildL rfl pl80 ze80 rfl) rfl rfl ?_
              refine TL.op rfl (OpOk.lit (enc := encE) [⟨n.states, n.states, (nth n.edges g1 Arrow.zero).set⟩] rfl Try.underlying23 sz80 ze80 rfl rfl rfl encE_len (by decide) (by decide) Arrow.zero rfl (by decide) rfl (by decide) encE_one (fun a41 c42 => ?_))
              refine TL.front 2 rfl rfl ?_
              refine TL.op rfl (OpOk.appendS rfl rfl Try.underlying23 sz80 by80 ze80 rfl rfl (by decide) rfl rfl rfl (.inr ⟨_, 0, rfl⟩) (by (try simp only [List.length_cons, List.length_nil, List.length_append]); omega) (by decide) (fun a44 c45 => ?_))
              refine TL.v rfl (OpVal.fieldLoc rfl fo25_3 rfl) rfl rfl ?_
              refine TL.front 2 rfl rfl ?_
              refine TL.op rfl (OpOk.storeSl rfl sz23 rfl rfl rfl rfl rfl ?_)
              refine TL.nil ?_
              refine B.n ?_
              refine S.n ?_
              refine TC.region ?_
              refine TL.v rfl (OpVal.moveI (.inl rfl) rfl) rfl rfl ?_
              refine TL.v rfl (OpVal.succ rfl rfl rfl (by omega)) rfl rfl ?_
              refine TL.v rfl (OpVal.moveI (.inr rfl) rfl) rfl rfl ?_
              refine TL.front 8 rfl rfl ?_
              refine TL.front 8 rfl rfl ?_
              refine TL.front 8 rfl rfl ?_
              refine TL.front 8 rfl rfl ?_
              refine TL.front 5 rfl rfl ?_
              refine TL.front 5 rfl rfl ?_
              refine TL.takeN 6 rfl ?_
              refine TL.nil ?_
              refine S.n ?_
              -- leaf 5 next [h5: False; h17: True; h20: True; h26: False; h39: t76=True; h40: True] H=['q13', 'q14', 'q11', 'q8', 'q4', 'q2']
              exact absurd (h26.symm.trans h40) Bool.false_ne_true
            · try simp only [decide_eq_true_eq, decide_eq_false_iff_not, Bool.not_eq_true', Bool.not_eq_false', Bool.not_eq_eq_eq_not, Bool.not_true, Bool.not_false, Int.not_lt, Int.not_le, Decidable.not_not] at h40
              refine TC.skip ?_
              refine B.n ?_
              refine S.n ?_
              refine TC.region ?_
              refine TL.v rfl (OpVal.moveI (.inl rfl) rfl) rfl rfl ?_
              refine TL.v rfl (OpVal.succ rfl rfl rfl (by omega)) rfl rfl ?_
              refine TL.v rfl (OpVal.moveI (.inr rfl) rfl) rfl rfl ?_
              refine TL.front 7 rfl rfl ?_
              refine TL.front 7 rfl rfl ?_
              refine TL.front 7 rfl rfl ?_
              refine TL.front 7 rfl rfl ?_
              refine TL.front 5 rfl rfl ?_
              refine TL.front 5 rfl rfl ?_
              refine TL.takeN 6 rfl ?_
              refine TL.nil ?_
              refine S.n ?_
              -- leaf 6 next [h5: False; h17: True; h20: True; h26: False; h39: t76=True; h40: False] H=['q13', 'q14', 'q11', 'q8', 'q4', 'q2']
              refine ⟨by repeat (first | exact Agr.mask | refine Agr.upd rfl ?_ | refine Agr.maskIn rfl ?_), (g1 + 1, a24, c25), ?_, ?_, ?_, ?_, ?_⟩
              · show n.edges.length - (g1 + 1) < n.edges.length - g1; omega
              · show g1 + 1 ≤ n.edges.length; omega
              · repeat (first | exact trivial | refine ⟨rfl, ?_⟩)
              · show _ = [Res.cells _ #[_, _, _, .slice _ (starTo n (g1 + 1)).length _] _, Res.rowS _ _ _ (.slice _ (starTo n (g1 + 1)).length _) (starTo n (g1 + 1)), _, _, _, _]
                rw [starC_tf (by omega) h20 h26]; rfl
              · rfl
          · try simp only [decide_eq_true_eq, decide_eq_false_iff_not, Bool.not_eq_true', Bool.not_eq_false', Bool.not_eq_eq_eq_not, Bool.not_true, Bool.not_false, Int.not_lt, Int.not_le, Decidable.not_not] at h39
            refine TL.goff rfl rfl rfl rfl rfl rfl rfl rfl ?_
            refine TL.v rfl (OpVal.pickFB rfl rfl rfl) rfl rfl ?_
            refine TL.nil ?_
            refine S.n ?_
            refine TC.cond rfl (fun h => Bool.noConfusion h) (fun _ => ?_)
            refine TC.skip ?_
            refine B.n ?_
            refine S.n ?_
            refine TC.region ?_
            refine TL.v rfl (OpVal.moveI (.inl rfl) rfl) rfl rfl ?_
            refine TL.v rfl (OpVal.succ rfl rfl rfl (by omega)) rfl rfl ?_
            refine TL.v rfl (OpVal.moveI (.inr rfl) rfl) rfl rfl ?_
            refine TL.front 7 rfl rfl ?_
            refine TL.front 7 rfl rfl ?_
            refine TL.front 7 rfl rfl ?_
            refine TL.front 7 rfl rfl ?_
            refine TL.front 5 rfl rfl ?_
            refine TL.front 5 rfl rfl ?_
            refine TL.takeN 6 rfl ?_
            refine TL.nil ?_
            refine S.n ?_
            -- leaf 7 next [h5: False; h17: True; h20: True; h26: False; h39: t76=False] H=['q13', 'q14', 'q11', 'q8', 'q4', 'q2']
            exact absurd (h39.symm.trans h20) Bool.false_ne_true
      · try simp only [decide_eq_true_eq, decide_eq_false_iff_not, Bool.not_eq_true', Bool.not_eq_false', Bool.not_eq_eq_eq_not, Bool.not_true, Bool.not_false, Int.not_lt, Int.not_le, Decidable.not_not] at h20
        refine TC.skip ?_
        refine S.n ?_
        refine TC.seq ?_
        refine TC.seq ?_
        refine TC.region ?_
        refine TL.v rfl (OpVal.moveB (.inl rfl) rfl) rfl rfl ?_
        refine TL.nil ?_
        refine S.n ?_
        refine TC.cond rfl (fun h46 => ?_) (fun h46 => ?_)
        · try simp only [decide_eq_true_eq, decide_eq_false_iff_not, Bool.not_eq_true', Bool.not_eq_false', Bool.not_eq_eq_eq_not, Bool.not_true, Bool.not_false, Int.not_lt, Int.not_le, Decidable.not_not] at h46
          refine TC.region ?_
          refine TL.v rfl (OpVal.fieldLoc rfl fo25_3 rfl) rfl rfl ?_
          refine TL.v rfl (OpVal.loadLoc rfl ag23 rfl (i := 1) rfl rfl) rfl rfl ?_
          refine TL.v rfl (OpVal.fieldLoc rfl fo80_0 rfl) rfl rfl ?_
          refine TL.v rfl (OpVal.loadLoc rfl ag3 rfl (i := 0) rfl rfl) rfl rfl ?_
          refine TL.v rfl (OpVal.moveI (.inl rfl) rfl) rfl rfl ?_
          refine TL.v rfl (OpVal.fieldLoc rfl fo80_2 rfl) rfl rfl ?_
          refine TL.v rfl (OpVal.loadLocA rfl ag28 sz28 rfl (i := 0) rfl rfl rfl) rfl rfl ?_
          refine TL.v rfl (OpVal.buildL rfl pl80 ze80 rfl) rfl rfl ?_
          refine TL.op rfl (OpOk.lit (enc := encE) [⟨(nth n.edges g1 Arrow.zero).frm, n.states, (nth n.edges g1 Arrow.zero).set⟩] rfl Try.underlying23 sz80 ze80 rfl rfl rfl encE_len (by decide) (by decide) Arrow.zero rfl (by decide) rfl (by decide) encE_one (fun a47 c48 => ?_))
          refine TL.front 3 rfl rfl ?_
          refine TL.op rfl (OpOk.appendS rfl rfl Try.underlying23 sz80 by80 ze80 rfl rfl (by decide) rfl rfl rfl (.inr ⟨_, 0, rfl⟩) (by (try simp only [List.length_cons, List.length_nil, List.length_append]); omega) (by decide) (fun a50 c51 => ?_))
          refine TL.v rfl (OpVal.fieldLoc rfl fo25_3 rfl) rfl rfl ?_
          refine TL.front 3 rfl rfl ?_
          refine TL.op rfl (OpOk.storeSl rfl sz23 rfl rfl rfl rfl rfl ?_)
          refine TL.nil ?_
          refine S.n ?_
          refine TC.seq ?_
          refine TC.region ?_
          refine TL.v rfl (OpVal.moveB (.inl rfl) rfl) rfl rfl ?_
          refine TL.v rfl (OpVal.moveB (.inl rfl) rfl) rfl rfl ?_
          refine TL.split 76 rfl (fun h52 => ?_) (fun h52 => ?_)
          · try simp only [decide_eq_true_eq, decide_eq_false_iff_not, Bool.not_eq_true', Bool.not_eq_false', Bool.not_eq_eq_eq_not, Bool.not_true, Bool.not_false, Int.not_lt, Int.not_le, Decidable.not_not] at h52
            refine TL.gv rfl rfl rfl rfl rfl (OpVal.moveB (.inl rfl) rfl) rfl rfl ?_
            refine TL.v rfl (OpVal.pickTB rfl rfl rfl) rfl rfl ?_
            refine TL.nil ?_
            refine S.n ?_
            refine TC.cond rfl (fun h53 => ?_) (fun h53 => ?_)
            · try simp only [decide_eq_true_eq, decide_eq_false_iff_not, Bool.not_eq_true', Bool.not_eq_false', Bool.not_eq_eq_eq_not, Bool.not_true, Bool.not_false, Int.not_lt, Int.not_le, Decidable.not_not] at h53
              refine TC.region ?_
              refine TL.v rfl (OpVal.fieldLoc rfl fo25_3 rfl) rfl rfl ?_
              refine TL.v rfl (OpVal.loadLoc rfl ag23 rfl (i := 0) rfl rfl) rfl rfl ?_
              refine TL.v rfl (OpVal.moveI (.inl rfl) rfl) rfl rfl ?_
              refine TL.v rfl (OpVal.moveI (.inl rfl) rfl) rfl rfl ?_
              refine TL.v rfl (OpVal.fieldLoc rfl fo80_2 rfl) rfl rfl ?_
              refine TL.v rfl (OpVal.loadLocA rfl ag28 sz28 rfl (i := 3) rfl rfl rfl) rfl rfl ?_
              refine TL.v rfl (OpVal.buildL rfl pl80 ze80 rfl) rfl rfl ?_
              refine TL.op rfl (OpOk.lit (enc := encE) [⟨n.states, n.states, (nth n.edges g1 Arrow.zero).set⟩] rfl Try.underlying23 sz80 ze80 rfl rfl rfl encE_len (by decide) (by decide) Arrow.zero rfl (by decide) rfl (by decide) encE_one (fun a54 c55 => ?_))
              refine TL.front 2 rfl rfl ?_
              refine TL.op rfl (OpOk.appendS rfl rfl Try.underlying23 sz80 by80 ze80 rfl rfl (by decide) rfl rfl rfl (.inr ⟨_, 0, rfl⟩) (by (try simp only [List.length_cons, List.length_nil, List.length_append]); omega) (by decide) (fun a57 c58 => ?_))
              refine TL.v rfl (OpVal.fieldLoc rfl fo25_3 rfl) rfl rfl ?_
              refine TL.front 2 rfl rfl ?_
              refine TL.op rfl (OpOk.storeSl rfl sz23 rfl rfl rfl rfl rfl ?_)
              refine TL.nil ?_
              refine B.n ?_
              refine S.n ?_
              refine TC.region ?_
              refine TL.v rfl (OpVal.moveI (.inl rfl) rfl) rfl rfl ?_
              refine TL.v rfl (OpVal.succ rfl rfl rfl (by omega)) rfl rfl ?_
              refine TL.v rfl (OpVal.moveI (.inr rfl) rfl) rfl rfl ?_
              refine TL.front 8 rfl rfl ?_
              refine TL.front 8 rfl rfl ?_
              refine TL.front 8 rfl rfl ?_
              refine TL.front 8 rfl rfl ?_
              refine TL.front 5 rfl rfl ?_
              refine TL.front 5 rfl rfl ?_
              refine TL.takeN 6 rfl ?_
              refine TL.nil ?_
              refine S.n ?_
              -- leaf 8 next [h5: False; h17: True; h20: False; h46: True; h52: t76=True; h53: True] H=['q13', 'q14', 'q11', 'q8', 'q4', 'q2']
              exact absurd (h20.symm.trans h52) Bool.false_ne_true
            · try simp only [decide_eq_true_eq, decide_eq_false_iff_not, Bool.not_eq_true', Bool.not_eq_false', Bool.not_eq_eq_eq_not, Bool.not_true, Bool.not_false, Int.not_lt, Int.not_le, Decidable.not_not] at h53
              refine TC.skip ?_
              refine B.n ?_
              refine S.n ?_
              refine TC.region ?_
              refine TL.v rfl (OpVal.moveI (.inl rfl) rfl) rfl rfl ?_
              refine TL.v rfl (OpVal.succ rfl rfl rfl (by omega)) rfl rfl ?_
              refine TL.v rfl (OpVal.moveI (.inr rfl) rfl) rfl rfl ?_
              refine TL.front 7 rfl rfl ?_
              refine TL.front 7 rfl rfl ?_
              refine TL.front 7 rfl rfl ?_
              refine TL.front 7 rfl rfl ?_
              refine TL.front 5 rfl rfl ?_
              refine TL.front 5 rfl rfl ?_
              refine TL.takeN 6 rfl ?_
              refine TL.nil ?_
              refine S.n ?_
              -- leaf 9 next [h5: False; h17: True; h20: False; h46: True; h52: t76=True; h53: False] H=['q13', 'q14', 'q11', 'q8', 'q4', 'q2']
              exact absurd (h20.symm.trans h52) Bool.false_ne_true
          · try simp only [decide_eq_true_eq, decide_eq_false_iff_not, Bool.not_eq_true', Bool.not_eq_false', Bool.not_eq_eq_eq_not, Bool.not_true, Bool.not_false, Int.not_lt, Int.not_le, Decidable.not_not] at h52
            refine TL.goff rfl rfl rfl rfl rfl rfl rfl rfl ?_
            refine TL.v rfl (OpVal.pickFB rfl rfl rfl) rfl rfl ?_
            refine TL.nil ?_
            refine S.n ?_
            refine TC.cond rfl (fun h => Bool.noConfusion h) (fun _ => ?_)
            refine TC.skip ?_
            refine B.n ?_
            refine S.n ?_
            refine TC.region ?_
            refine TL.v rfl (OpVal.moveI (.inl rfl) rfl) rfl rfl ?_
            refine TL.v rfl (OpVal.succ rfl rfl rfl (by omega)) rfl rfl ?_
            refine TL.v rfl (OpVal.moveI (.inr rfl) rfl) rfl rfl ?_
            refine TL.front 7 rfl rfl ?_
            refine TL.front 7 rfl rfl ?_
            refine TL.front 7 rfl rfl ?_
            refine TL.front 7 rfl rfl ?_
            refine TL.front 5 rfl rfl ?_
            refine TL.front 5 rfl rfl ?_
            refine TL.takeN 6 rfl ?_
            refine TL.nil ?_
            refine S.n ?_
            -- leaf 10 next [h5: False; h17: True; h20: False; h46: True; h52: t76=False] H=['q13', 'q14', 'q11', 'q8', 'q4', 'q2']
            refine ⟨by repeat (first | exact Agr.mask | refine Agr.upd rfl ?_ | refine Agr.maskIn rfl ?_), (g1 + 1, a50, c51), ?_, ?_, ?_, ?_, ?_⟩
            · show n.edges.length - (g1 + 1) < n.edges.length - g1; omega
            · show g1 + 1 ≤ n.edges.length; omega
            · repeat (first | exact trivial | refine ⟨rfl, ?_⟩)
            · show _ = [Res.cells _ #[_, _, _, .slice _ (starTo n (g1 + 1)).length _] _, Res.rowS _ _ _ (.slice _ (starTo n (g1 + 1)).length _) (starTo n (g1 + 1)), _, _, _, _]
              rw [starC_ft (by omega) h20 h46]; rfl
            · rfl
        · try simp only [decide_eq_true_eq, decide_eq_false_iff_not, Bool.not_eq_true', Bool.not_eq_false', Bool.not_eq_eq_eq_not, Bool.not_true, Bool.not_false, Int.not_lt, Int.not_le, Decidable.not_not] at h46
          refine TC.skip ?_
          refine S.n ?_
          refine TC.seq ?_
          refine TC.region ?_
          refine TL.v rfl (OpVal.moveB (.inl rfl) rfl) rfl rfl ?_
          refine TL.v rfl (OpVal.moveB (.inl rfl) rfl) rfl rfl ?_
          refine TL.split 76 rfl (fun h59 => ?_) (fun h59 => ?_)
          · try simp only [decide_eq_true_eq, decide_eq_false_iff_not, Bool.not_eq_true', Bool.not_eq_false', Bool.not_eq_eq_eq_not, Bool.not_true, Bool.not_false, Int.not_lt, Int.not_le, Decidable.not_not] at h59
            refine TL.gv rfl rfl rfl rfl rfl (OpVal.moveB (.inl rfl) rfl) rfl rfl ?_
            refine TL.v rfl (OpVal.pickTB rfl rfl rfl) rfl rfl ?_
            refine TL.nil ?_
            refine S.n ?_
            refine TC.cond rfl (fun h60 => ?_) (fun h60 => ?_)
            · try simp only [decide_eq_true_eq, decide_eq_false_iff_not, Bool.not_eq_true', Bool.not_eq_false', Bool.not_eq_eq_eq_not, Bool.not_true, Bool.not_false, Int.not_lt, Int.not_le, Decidable.not_not] at h60
              refine TC.region ?_
              refine TL.v rfl (OpVal.fieldLoc rfl fo25_3 rfl) rfl rfl ?_
              refine TL.v rfl (OpVal.loadLoc rfl ag23 rfl (i := 1) rfl rfl) rfl rfl ?_
              refine TL.v rfl (OpVal.moveI (.inl rfl) rfl) rfl rfl ?_
              refine TL.v rfl (OpVal.moveI (.inl rfl) rfl) rfl rfl ?_
              refine TL.v rfl (OpVal.fieldLoc rfl fo80_2 rfl) rfl rfl ?_
              refine TL.v rfl (OpVal.loadLocA rfl ag28 sz28 rfl (i := 0) rfl rfl rfl) rfl rfl ?_
              refine TL.v rfl (OpVal.buildL rfl pl80 ze80 rfl) rfl rfl ?_
              refine TL.op rfl (OpOk.lit (enc := encE) [⟨n.states, n.states, (nth n.edges g1 Arrow.zero).set⟩] rfl Try.underlying23 sz80 ze80 rfl rfl rfl encE_len (by decide) (by decide) Arrow.zero rfl (by decide) rfl (by decide) encE_one (fun a61 c62 => ?_))
              refine TL.front 3 rfl rfl ?_
              refine TL.op rfl (OpOk.appendS rfl rfl Try.underlying23 sz80 by80 ze80 rfl rfl (by decide) rfl rfl rfl (.inr ⟨_, 0, rfl⟩) (by (try simp only [List.length_cons, List.length_nil, List.length_append]); omega) (by decide) (fun a64 c65 => ?_))
              refine TL.v rfl (OpVal.fieldLoc rfl fo25_3 rfl) rfl rfl ?_
              refine TL.front 3 rfl rfl ?_
              refine TL.op rfl (OpOk.storeSl rfl sz23 rfl rfl rfl rfl rfl ?_)
              refine TL.nil ?_
              refine B.n ?_
              refine S.n ?_
              refine TC.region ?_
              refine TL.v rfl (OpVal.moveI (.inl rfl) rfl) rfl rfl ?_
              refine TL.v rfl (OpVal.succ rfl rfl rfl (by omega)) rfl rfl ?_
              refine TL.v rfl (OpVal.moveI (.inr rfl) rfl) rfl rfl ?_
              refine TL.front 7 rfl rfl ?_
              refine TL.front 7 rfl rfl ?_
              refine TL.front 7 rfl rfl ?_
              refine TL.front 7 rfl rfl ?_
              refine TL.front 5 rfl rfl ?_
              refine TL.front 5 rfl rfl ?_
              refine TL.takeN 6 rfl ?_
              refine TL.nil ?_
              refine S.n ?_
              -- leaf 11 next [h5: False; h17: True; h20: False; h46: False; h59: t76=True; h60: True] H=['q13', 'q14', 'q11', 'q8', 'q4', 'q2']
              exact absurd (h20.symm.trans h59) Bool.false_ne_true
            · try simp only [decide_eq_true_eq, decide_eq_false_iff_not, Bool.not_eq_true', Bool.not_eq_false', Bool.not_eq_eq_eq_not, Bool.not_true, Bool.not_false, Int.not_lt, Int.not_le, Decidable.not_not] at h60
              refine TC.skip ?_
              refine B.n ?_
              refine S.n ?_
              refine TC.region ?_
              refine TL.v rfl (OpVal.moveI (.inl rfl) rfl) rfl rfl ?_
              refine TL.v rfl (OpVal.succ rfl rfl rfl (by omega)) rfl rfl ?_
              refine TL.v rfl (OpVal.moveI (.inr rfl) rfl) rfl rfl ?_
              refine TL.dropN 1 rfl ?_
              refine TL.nil ?_
              refine S.n ?_
              -- leaf 12 next [h5: False; h17: True; h20: False; h46: False; h59: t76=True; h60: False] H=['q13', 'q14', 'q11', 'q8', 'q4', 'q2']
              exact absurd (h20.symm.trans h59) Bool.false_ne_true
          · try simp only [decide_eq_true_eq, decide_eq_false_iff_not, Bool.not_eq_true', Bool.not_eq_false', Bool.not_eq_eq_eq_not, Bool.not_true, Bool.not_false, Int.not_lt, Int.not_le, Decidable.not_not] at h59
            refine TL.goff rfl rfl rfl rfl rfl rfl rfl rfl ?_
            refine TL.v rfl (OpVal.pickFB rfl rfl rfl) rfl rfl ?_
            refine TL.nil ?_
            refine S.n ?_
            refine TC.cond rfl (fun h => Bool.noConfusion h) (fun _ => ?_)
            refine TC.skip ?_
            refine B.n ?_
            refine S.n ?_
            refine TC.region ?_
            refine TL.v rfl (OpVal.moveI (.inl rfl) rfl) rfl rfl ?_
            refine TL.v rfl (OpVal.succ rfl rfl rfl (by omega)) rfl rfl ?_
            refine TL.v rfl (OpVal.moveI (.inr rfl) rfl) rfl rfl ?_
            refine TL.dropN 1 rfl ?_
            refine TL.nil ?_
            refine S.n ?_
            -- leaf 13 next [h5: False; h17: True; h20: False; h46: False; h59: t76=False] H=['q13', 'q14', 'q11', 'q8', 'q4', 'q2']
            refine ⟨by repeat (first | exact Agr.mask | refine Agr.upd rfl ?_ | refine Agr.maskIn rfl ?_), (g1 + 1, ga, gc), ?_, ?_, ?_, ?_, ?_⟩
            · show n.edges.length - (g1 + 1) < n.edges.length - g1; omega
            · show g1 + 1 ≤ n.edges.length; omega
            · repeat (first | exact trivial | refine ⟨rfl, ?_⟩)
            · show _ = [Res.cells _ #[_, _, _, .slice _ (starTo n (g1 + 1)).length _] _, Res.rowS _ _ _ (.slice _ (starTo n (g1 + 1)).length _) (starTo n (g1 + 1)), _, _, _, _]
              rw [starC_ff (by omega) h20 h46]; rfl
            · rfl
    · try simp only [decide_eq_true_eq, decide_eq_false_iff_not, Bool.not_eq_true', Bool.not_eq_false', Bool.not_eq_eq_eq_not, Bool.not_true, Bool.not_false, Int.not_lt, Int.not_le, Decidable.not_not] at h17
      refine TC.exit ?_
      refine S.x ?_
      refine S.x ?_
      refine TC.exitHere ?_
      refine S.n ?_
      refine TC.seq ?_
      obtain rfl : g1 = n.edges.length := by omega
      refine TC.front 1 rfl rfl ?_
      refine TC.sealS encE_len (fun τ68 hle67 hr66 => ?_)
      replace hn := hn.mono hle67
      refine TC.front 1 rfl rfl ?_
      refine TC.sealS encI_len (fun τ71 hle70 hr69 => ?_)
      replace hn := hn.mono hle70
      replace hr66 := hr66.mono hle70
      refine TC.front 1 rfl rfl ?_
      refine TC.sealS encI_len (fun τ74 hle73 hr72 => ?_)
      replace hn := hn.mono hle73
      replace hr66 := hr66.mono hle73
      replace hr69 := hr69.mono hle73
      refine TC.region ?_
      refine TL.v rfl (OpVal.loadAll rfl ag25 sz25 rfl (i := 0) rfl rfl) rfl rfl ?_
      refine TL.op rfl (OpOk.callN (end_con _ (starN n) ⟨a6, c7, a9, c10, ga, gc⟩ ⟨hr72, hr69, hr66, starTo_ok hn.ok _⟩) rfl rfl pf71 rfl rfl rfl (fun pe τ76 hle75 he => ?_))
      replace hn := hn.mono hle75
      replace hr66 := hr66.mono hle75
      replace hr69 := hr69.mono hle75
      replace hr72 := hr72.mono hle75
      refine TL.v rfl (OpVal.extract rfl rfl rfl) rfl rfl ?_
      refine TL.v rfl (OpVal.extract rfl rfl rfl) rfl rfl ?_
      refine TL.front 1 rfl rfl ?_
      refine TL.op rfl (OpOk.storeAll rfl sz25 rfl rfl rfl rfl rfl rfl ?_)
      refine TL.v rfl (OpVal.moveI (.inr rfl) rfl) rfl rfl ?_
      refine TL.nil ?_
      refine S.n ?_
      refine TC.ret ?_
      -- leaf 14 ret [h5: False; h17: False] H=['q4', 'q13', 'q2']
      have hc : checkB n = true := by assumption
      simp only [starR, starX, if_pos hc]
      exact retNfa (m := endR (starN n)) (p := pe) 0 rfl ag25 sz25 rfl rfl rfl rfl he

end Go.Proofs.Ytcidppnlhhkhhaa
