/- Contracts of package nfa, part three: automatons of texts and sets. -/
import Derived.Test.YtcidppnlhhkhhaaSets
set_option linter.unusedVariables false
set_option linter.unusedSimpArgs false
namespace Go.Proofs.Ytcidppnlhhkhhaa
open Go Go.E
set_option maxRecDepth 100000

theorem edge_con (σ : Store) (b c : Nat) (a : Option Addr) (l : List Arrow) (f t : Int) (s : BSet) (hsz : l.length ≤ 1000000000) :
    Con Try.prog 52 #[loc b 0, .int .i64 f, .int .i64 t, setV s] σ [Res.cells b #[.slice a l.length c] 74, Res.rowS 80 6 encE (.slice a l.length c) l] (EdgeP 74 80 b l ⟨f, t, s⟩ σ) := by
  refine Con.mk (n := 21) Try.func52 rfl rfl rfl (fun w0 => ?_)
  refine TC.seq ?_
  refine TC.region ?_
  refine TL.op rfl (OpOk.boxA rfl rfl rfl rfl (fun b1 => ?_))
  refine TL.nil ?_
  refine S.n ?_
  refine TC.draw [10, 11, 12, 13] (by kernel_rfl) ?_
  refine TA.takeP 0 rfl (by kernel_rfl) (by kernel_rfl) (by kernel_rfl) rfl (OpVal.moveLoc (.inl rfl) rfl) rfl rfl ?_
  refine TA.takeP 1 rfl (by kernel_rfl) (by kernel_rfl) (by kernel_rfl) rfl (OpVal.moveLoc (.inl rfl) rfl) rfl rfl ?_
  refine TA.takeP 2 rfl (by kernel_rfl) (by kernel_rfl) (by kernel_rfl) rfl (OpVal.nilCheckLoc rfl rfl) rfl rfl ?_
  refine TA.takeP 3 rfl (by kernel_rfl) (by kernel_rfl) (by kernel_rfl) rfl (OpVal.fieldLoc rfl fo74_0 rfl) rfl rfl ?_
  refine TA.take 4 rfl (by kernel_rfl) (by kernel_rfl) (by kernel_rfl) (by kernel_rfl) rfl (OpVal.loadLoc rfl ag23 rfl (i := 1) rfl rfl) rfl rfl ?_
  refine TA.takeP 5 rfl (by kernel_rfl) (by kernel_rfl) (by kernel_rfl) rfl (OpVal.moveI (.inl rfl) rfl) rfl rfl ?_
  refine TA.takeP 6 rfl (by kernel_rfl) (by kernel_rfl) (by kernel_rfl) rfl (OpVal.moveI (.inl rfl) rfl) rfl rfl ?_
  refine TA.take 7 rfl (by kernel_rfl) (by kernel_rfl) (by kernel_rfl) (by kernel_rfl) rfl (OpVal.loadAll rfl ag28 sz28 rfl (i := 0) rfl rfl) rfl rfl ?_
  refine TA.takeP 8 rfl (by kernel_rfl) (by kernel_rfl) (by kernel_rfl) rfl (OpVal.buildL rfl pl80 ze80 rfl) rfl rfl ?_
  refine TA.act 9 (by kernel_rfl) rfl rfl (OpOk.lit (enc := encE) [⟨f, t, s⟩] rfl Try.underlying23 sz80 ze80 rfl rfl rfl encE_len (by decide) (by decide) Arrow.zero rfl (by decide) rfl (by decide) encE_one (fun a3 c4 => ⟨(fun w h => sees_of (by first | exact Store.le.refl _ | assumption) (fun r hr => (List.mem_cons_of_mem _ hr)) w h), ?_⟩))
  refine TA.front 3 rfl rfl ?_
  refine TA.last 10 (by kernel_rfl) rfl rfl rfl (OpOk.appendS rfl rfl Try.underlying23 sz80 by80 ze80 rfl rfl (by decide) rfl rfl rfl (.inr ⟨_, 0, rfl⟩) (by (try simp only [List.length_cons, List.length_nil, List.length_append]); omega) (by decide) (fun a6 c7 => ?_))
  refine TZ.v 11 (by kernel_rfl) rfl rfl rfl (OpVal.nilCheckLoc rfl rfl) rfl rfl ?_
  refine TZ.v 12 (by kernel_rfl) rfl rfl rfl (OpVal.fieldLoc rfl fo74_0 rfl) rfl rfl ?_
  refine TZ.front 3 rfl rfl ?_
  refine TZ.last 13 (by kernel_rfl) rfl rfl rfl (OpOk.storeSl rfl sz23 rfl rfl rfl rfl rfl ?_)
  refine TZ.done (by kernel_rfl) ?_
  -- leaf 1 end [] H=['q0', 'r0', 'q5', 'q2']
  exact retE (by simp) rfl

def setE (s : BSet) : List Arrow := if s = BSet.zero then [] else [⟨0, 1, s⟩]
def setN (s : BSet) : Nfa := ⟨2, [0], [1], setE s⟩
theorem setE_ok {s : BSet} (h : s.ok) : ∀ x ∈ setE s, x.set.ok := by
  intro x hx
  unfold setE at hx
  split at hx
  · simp at hx
  · simp at hx; subst hx; exact h

theorem set_con (σ : Store) (s : BSet) (hs : s.ok) : Con Try.prog 21 #[setV s] σ [] (NfaR1 (setN s)) := by
  refine Con.mk (n := 19) Try.func21 rfl rfl rfl (fun w0 => ?_)
  refine TC.seq ?_
  refine TC.region ?_
  refine TL.op rfl (OpOk.boxA rfl rfl rfl rfl (fun b1 => ?_))
  refine TL.op rfl (OpOk.alloc rfl ze25 rfl rfl (fun b3 => ?_))
  refine TL.nil ?_
  refine S.n ?_
  refine TC.seq ?_
  refine TC.region ?_
  refine TL.v rfl (OpVal.buildL rfl pl74 ze74 rfl) rfl rfl ?_
  refine TL.op rfl (OpOk.boxA rfl rfl rfl rfl (fun b5 => ?_))
  refine TL.nilS 80 6 encE ?_
  refine TL.v rfl (OpVal.moveLoc (.inr rfl) rfl) rfl rfl ?_
  refine TL.nil ?_
  refine S.n ?_
  refine TC.seq ?_
  refine TC.seq ?_
  refine TC.region ?_
  refine TL.v rfl (OpVal.loadAll rfl ag28 sz28 rfl (i := 3) rfl rfl) rfl rfl ?_
  refine TL.v rfl (OpVal.buildArrL rfl Try.underlying28 sz26 ze28 rfl) rfl rfl ?_
  refine TL.v rfl (OpVal.neqArr4 rfl Try.underlying28 Try.underlying26 ag26 sz26 eg28 rfl rfl rfl rfl) rfl rfl ?_
  refine TL.nil ?_
  refine S.n ?_
  refine TC.cond rfl (fun h8 => ?_) (fun h8 => ?_)
  · try simp only [decide_eq_true_eq, decide_eq_false_iff_not, Bool.not_eq_true', Bool.not_eq_false', Bool.not_eq_eq_eq_not, Bool.not_true, Bool.not_false, Int.not_lt, Int.not_le, Decidable.not_not] at h8
    refine TC.region ?_
    refine TL.v rfl (OpVal.moveLoc (.inl rfl) rfl) rfl rfl ?_
    refine TL.v rfl (OpVal.loadAll rfl ag28 sz28 rfl (i := 3) rfl rfl) rfl rfl ?_
    refine TL.front 1 rfl rfl ?_
    refine TL.op rfl (OpOk.callE (edge_con _ _ _ _ [] 0 1 s (by decide)) rfl rfl pf52 rfl rfl rfl rfl (fun a9 c10 => ?_))
    refine TL.nil ?_
    refine S.n ?_
    refine TC.seq ?_
    refine TC.region ?_
    refine TL.op rfl (OpOk.lit (enc := encI) [_] rfl Try.underlying22 sz3 ze3 rfl rfl rfl encI_len (by decide) (by decide) (0 : Int) rfl (by decide) rfl (by decide) encI_one (fun a11 c12 => ?_))
    refine TL.op rfl (OpOk.lit (enc := encI) [_] rfl Try.underlying22 sz3 ze3 rfl rfl rfl encI_len (by decide) (by decide) (0 : Int) rfl (by decide) rfl (by decide) encI_one (fun a14 c15 => ?_))
    refine TL.v rfl (OpVal.moveLoc (.inl rfl) rfl) rfl rfl ?_
    refine TL.v rfl (OpVal.nilCheckLoc rfl rfl) rfl rfl ?_
    refine TL.v rfl (OpVal.fieldLoc rfl fo74_0 rfl) rfl rfl ?_
    refine TL.v rfl (OpVal.loadLoc rfl ag23 rfl (i := 2) rfl rfl) rfl rfl ?_
    refine TL.v rfl (OpVal.buildL rfl pl25 ze25 rfl) rfl rfl ?_
    refine TL.front 4 rfl rfl ?_
    refine TL.op rfl (OpOk.storeAll rfl sz25 rfl rfl rfl rfl rfl rfl ?_)
    refine TL.nil ?_
    refine S.n ?_
    refine TC.front 1 rfl rfl ?_
    refine TC.sealS encI_len (fun τ19 hle18 hr17 => ?_)
    refine TC.front 1 rfl rfl ?_
    refine TC.sealS encI_len (fun τ22 hle21 hr20 => ?_)
    replace hr17 := hr17.mono hle21
    refine TC.front 2 rfl rfl ?_
    refine TC.sealS encE_len (fun τ25 hle24 hr23 => ?_)
    replace hr17 := hr17.mono hle24
    replace hr20 := hr20.mono hle24
    refine TC.ret ?_
    -- leaf 1 ret [h8: True] H=['q4', 'q6', 'q2']
    have h0 : ¬ s = BSet.zero := fun hx => h8 ((BSet.zero_iff s).2 hx)
    have hE : setE s = [⟨0, 1, s⟩] := if_neg h0
    exact retNfa1 (p := ⟨a11, c12, a14, c15, a9, c10⟩) 0 rfl ag25 sz25 rfl rfl (by unfold nfaA setN; rw [hE]; rfl) ⟨hr20, hr17, by unfold setN; rw [hE]; exact hr23, setE_ok hs⟩
  · try simp only [decide_eq_true_eq, decide_eq_false_iff_not, Bool.not_eq_true', Bool.not_eq_false', Bool.not_eq_eq_eq_not, Bool.not_true, Bool.not_false, Int.not_lt, Int.not_le, Decidable.not_not] at h8
    refine TC.skip ?_
    refine S.n ?_
    refine TC.seq ?_
    refine TC.region ?_
    refine TL.op rfl (OpOk.lit (enc := encI) [_] rfl Try.underlying22 sz3 ze3 rfl rfl rfl encI_len (by decide) (by decide) (0 : Int) rfl (by decide) rfl (by decide) encI_one (fun a26 c27 => ?_))
    refine TL.op rfl (OpOk.lit (enc := encI) [_] rfl Try.underlying22 sz3 ze3 rfl rfl rfl encI_len (by decide) (by decide) (0 : Int) rfl (by decide) rfl (by decide) encI_one (fun a29 c30 => ?_))
    refine TL.v rfl (OpVal.moveLoc (.inl rfl) rfl) rfl rfl ?_
    refine TL.v rfl (OpVal.nilCheckLoc rfl rfl) rfl rfl ?_
    refine TL.v rfl (OpVal.fieldLoc rfl fo74_0 rfl) rfl rfl ?_
    refine TL.v rfl (OpVal.loadLoc rfl ag23 rfl (i := 3) rfl rfl) rfl rfl ?_
    refine TL.v rfl (OpVal.buildL rfl pl25 ze25 rfl) rfl rfl ?_
    refine TL.front 4 rfl rfl ?_
    refine TL.op rfl (OpOk.storeAll rfl sz25 rfl rfl rfl rfl rfl rfl ?_)
    refine TL.nil ?_
    refine S.n ?_
    refine TC.front 1 rfl rfl ?_
    refine TC.sealS encI_len (fun τ34 hle33 hr32 => ?_)
    refine TC.front 1 rfl rfl ?_
    refine TC.sealS encI_len (fun τ37 hle36 hr35 => ?_)
    replace hr32 := hr32.mono hle36
    refine TC.front 1 rfl rfl ?_
    refine TC.sealS encE_len (fun τ40 hle39 hr38 => ?_)
    replace hr32 := hr32.mono hle39
    replace hr35 := hr35.mono hle39
    refine TC.ret ?_
    -- leaf 2 ret [h8: False] H=['q4', 'q6', 'q2']
    have h0 : s = BSet.zero := (BSet.zero_iff s).1 h8
    have hE : setE s = [] := if_pos h0
    exact retNfa1 (p := ⟨a26, c27, a29, c30, none, 0⟩) 0 rfl ag25 sz25 rfl rfl (by unfold nfaA setN; rw [hE]; rfl) ⟨hr35, hr32, by unfold setN; rw [hE]; exact hr38, setE_ok hs⟩

/-- The automaton of a text, its first k bytes laid. -/
def textE (t : List UInt8) (k : Nat) : List Arrow := (List.range k).map fun i : Nat => ⟨(i : Int), ((i + 1 : Nat) : Int), BSet.ofL [nth t i 0]⟩
theorem textE_succ (t : List UInt8) (k : Nat) : textE t (k + 1) = textE t k ++ [⟨(k : Int), ((k + 1 : Nat) : Int), BSet.ofL [nth t k 0]⟩] := by
  simp [textE, List.range_succ]
theorem textE_len (t : List UInt8) (k : Nat) : (textE t k).length = k := by simp [textE]
def textN (t : List UInt8) : Nfa := ⟨((t.length + 1 : Nat) : Int), [0], [(t.length : Int)], textE t t.length⟩
def textR (t : List UInt8) : Nfa := if t.length ≤ 256 then textN t else Nfa.zero
def textX (t : List UInt8) : Int := if t.length ≤ 256 then 0 else 2
theorem ofL_ok (l : List UInt8) : (BSet.ofL l).ok := BSet.make_ok _
theorem textE_ok (t : List UInt8) (k : Nat) : ∀ x ∈ textE t k, x.set.ok := by
  intro x hx
  simp only [textE, List.mem_map] at hx
  obtain ⟨i, _, rfl⟩ := hx
  exact ofL_ok _

theorem text_con (σ : Store) (s : ByteArray) (hsz : s.size ≤ 1000000000000) :
    Con Try.prog 15 #[.string s] σ [] (NfaR (textR s.data.toList) (textX s.data.toList)) := by
  have hsl : s.data.toList.length = s.size := rfl
  refine Con.mk (n := 43) Try.func15 rfl rfl rfl (fun w0 => ?_)
  refine TC.seq ?_
  refine TC.region ?_
  refine TL.op rfl (OpOk.alloc rfl ze25 rfl rfl (fun b1 => ?_))
  refine TL.v rfl (OpVal.moveI (.inr rfl) rfl) rfl rfl ?_
  refine TL.nil ?_
  refine S.n ?_
  refine TC.seq ?_
  refine TC.seq ?_
  refine TC.region ?_
  refine TL.v rfl (OpVal.moveStr (.inl rfl) rfl) rfl rfl ?_
  refine TL.v rfl (OpVal.lenStr rfl Try.underlying9 rfl) rfl rfl ?_
  refine TL.v rfl (OpVal.gtr rfl rfl rfl) rfl rfl ?_
  refine TL.nil ?_
  refine S.n ?_
  refine TC.condD rfl (fun h3 => ?_) (fun h3 => ?_)
  · try simp only [decide_eq_true_eq, decide_eq_false_iff_not, Bool.not_eq_true', Bool.not_eq_false', Bool.not_eq_eq_eq_not, Bool.not_true, Bool.not_false, Int.not_lt, Int.not_le, Decidable.not_not] at h3
    refine TC.seq ?_
    refine TC.region ?_
    refine TL.v rfl (OpVal.buildL rfl pl25 ze25 rfl) rfl rfl ?_
    refine TL.op rfl (OpOk.storeAll rfl sz25 rfl rfl rfl rfl rfl rfl ?_)
    refine TL.v rfl (OpVal.moveI (.inr rfl) rfl) rfl rfl ?_
    refine TL.nil ?_
    refine S.n ?_
    refine TC.ret ?_
    refine S.r ?_
    -- leaf 1 ret [h3: True] H=['q2']
    have h0 : ¬ s.data.toList.length ≤ 256 := by omega
    simp only [textR, textX, if_neg h0]
    exact retNfa (p := NfaP.zero) 0 rfl ag25 sz25 rfl rfl rfl rfl (RNfa.zero _)
  · try simp only [decide_eq_true_eq, decide_eq_false_iff_not, Bool.not_eq_true', Bool.not_eq_false', Bool.not_eq_eq_eq_not, Bool.not_true, Bool.not_false, Int.not_lt, Int.not_le, Decidable.not_not] at h3
    refine TC.skip ?_
    refine S.n ?_
    refine TC.seq ?_
    refine TC.region ?_
    refine TL.v rfl (OpVal.buildL rfl pl74 ze74 rfl) rfl rfl ?_
    refine TL.op rfl (OpOk.boxA rfl rfl rfl rfl (fun b4 => ?_))
    refine TL.nilS 80 6 encE ?_
    refine TL.v rfl (OpVal.moveLoc (.inr rfl) rfl) rfl rfl ?_
    refine TL.nil ?_
    refine S.n ?_
    refine TC.seq ?_
    refine TC.region ?_
    refine TL.v rfl (OpVal.moveLoc (.inl rfl) rfl) rfl rfl ?_
    refine TL.v rfl (OpVal.makeFn rfl) rfl rfl ?_
    refine TL.v rfl (OpVal.moveFn (.inr rfl) rfl) rfl rfl ?_
    refine TL.nil ?_
    refine S.n ?_
    refine TC.seq ?_
    refine TC.seq ?_
    refine TC.region ?_
    refine TL.v rfl (OpVal.moveStr (.inl rfl) rfl) rfl rfl ?_
    refine TL.v rfl (OpVal.lenStr rfl Try.underlying9 rfl) rfl rfl ?_
    refine TL.v rfl (OpVal.moveI (.inl rfl) rfl) rfl rfl ?_
    refine TL.nil ?_
    refine S.n ?_
    refine TC.block ?_
    refine TC.loopF (α := Nat × Option Addr × Nat) [6, 17, 18, 19, 20, 21, 22, 23, 24, 25, 26, 27, 28, 29, 30] (fun g => [(17, .int .i64 (g.1 : Nat))]) (fun g => [Res.rowS 80 6 encE (.slice g.2.1 (textE s.data.toList g.1).length g.2.2) (textE s.data.toList g.1), Res.cells b4 #[.slice g.2.1 (textE s.data.toList g.1).length g.2.2] 74, Res.cells b1 (nfaA Nfa.zero NfaP.zero) 25]) (fun _ => _) (fun g => g.1 ≤ s.size) (fun g => s.size - g.1) ((0, none, 0)) (by first | exact True.intro | omega | (dsimp only; omega) | (simp; done) | (simp; omega)) (by repeat (first | exact trivial | refine ⟨rfl, ?_⟩)) (by rfl) (by rfl) (fun g1 j1 hg1 => ?_)
    obtain ⟨g1, ga, gc⟩ := g1
    dsimp only
    have hg1 : g1 ≤ s.size := hg1
    refine TC.seq ?_
    refine TC.region ?_
    refine TL.v rfl (OpVal.lss rfl rfl rfl) rfl rfl ?_
    refine TL.nil ?_
    refine S.n ?_
    refine TC.seq ?_
    refine TC.condD rfl (fun h7 => ?_) (fun h7 => ?_)
    · try simp only [decide_eq_true_eq, decide_eq_false_iff_not, Bool.not_eq_true', Bool.not_eq_false', Bool.not_eq_eq_eq_not, Bool.not_true, Bool.not_false, Int.not_lt, Int.not_le, Decidable.not_not] at h7
      refine TC.skip ?_
      refine S.n ?_
      refine TC.seq ?_
      refine TC.block ?_
      refine TC.seq ?_
      refine TC.region ?_
      refine TL.v rfl (OpVal.moveI (.inl rfl) rfl) rfl rfl ?_
      refine TL.v rfl (OpVal.moveI (.inr rfl) rfl) rfl rfl ?_
      refine TL.nil ?_
      refine S.n ?_
      refine TC.region ?_
      refine TL.v rfl (OpVal.moveFn (.inl rfl) rfl) rfl rfl ?_
      refine TL.v rfl (OpVal.moveI (.inl rfl) rfl) rfl rfl ?_
      refine TL.v rfl (OpVal.moveI (.inl rfl) rfl) rfl rfl ?_
      refine TL.v rfl (OpVal.succ rfl rfl rfl (by omega)) rfl rfl ?_
      refine TL.v rfl (OpVal.moveStr (.inl rfl) rfl) rfl rfl ?_
      refine TL.v rfl (OpVal.moveI (.inl rfl) rfl) rfl rfl ?_
      refine TL.v rfl (OpVal.indexStrN rfl Try.underlying9 rfl rfl (getD_some s.data.toList (by omega) 0)) rfl rfl ?_
      refine TL.op rfl (OpOk.lit (enc := encU8) [_] rfl Try.underlying78 sz5 ze5 rfl rfl rfl encU8_len (by decide) (by decide) (0 : UInt8) rfl (by decide) rfl (by decide) encU8_one (fun a8 c9 => ?_))
      refine TL.op rfl (OpOk.callT (of_con _ _ _ [nth s.data.toList g1 0] (by simp)) rfl rfl pf53 rfl rfl rfl rfl ?_)
      refine TL.front 1 rfl rfl ?_
      refine TL.op rfl (OpOk.callE (edge_con _ _ _ _ _ _ _ (BSet.ofL [nth s.data.toList g1 0]) (by rw [textE_len]; omega)) rfl rfl pf52 rfl rfl rfl rfl (fun a11 c12 => ?_))
      refine TL.nil ?_
      refine B.n ?_
      refine S.n ?_
      refine TC.region ?_
      refine TL.v rfl (OpVal.succ rfl rfl rfl (by omega)) rfl rfl ?_
      refine TL.v rfl (OpVal.moveI (.inl rfl) rfl) rfl rfl ?_
      refine TL.front 2 rfl rfl ?_
      refine TL.front 1 rfl rfl ?_
      refine TL.front 2 rfl rfl ?_
      refine TL.nil ?_
      refine S.n ?_
      -- leaf 2 next [h3: False; h7: True] H=['q6', 'q5', 'q2']
      refine ⟨by repeat (first | exact Agr.mask | refine Agr.upd rfl ?_ | refine Agr.maskIn rfl ?_), (g1 + 1, a11, c12), ?_, ?_, ?_, ?_, ?_⟩
      · show s.size - (g1 + 1) < s.size - g1; omega
      · show g1 + 1 ≤ s.size; omega
      · repeat (first | exact trivial | refine ⟨rfl, ?_⟩)
      · show _ = [Res.rowS _ _ _ (.slice _ (textE s.data.toList (g1 + 1)).length _) (textE s.data.toList (g1 + 1)), Res.cells _ #[.slice _ (textE s.data.toList (g1 + 1)).length _] _, _]
        rw [textE_succ]; rfl
      · rfl
    · try simp only [decide_eq_true_eq, decide_eq_false_iff_not, Bool.not_eq_true', Bool.not_eq_false', Bool.not_eq_eq_eq_not, Bool.not_true, Bool.not_false, Int.not_lt, Int.not_le, Decidable.not_not] at h7
      refine TC.exit ?_
      refine S.x ?_
      refine S.x ?_
      refine TC.exitHere ?_
      refine S.n ?_
      refine TC.seq ?_
      refine TC.region ?_
      refine TL.v rfl (OpVal.moveStr (.inl rfl) rfl) rfl rfl ?_
      refine TL.v rfl (OpVal.lenStr rfl Try.underlying9 rfl) rfl rfl ?_
      refine TL.v rfl (OpVal.succ rfl rfl rfl (by omega)) rfl rfl ?_
      refine TL.op rfl (OpOk.lit (enc := encI) [_] rfl Try.underlying22 sz3 ze3 rfl rfl rfl encI_len (by decide) (by decide) (0 : Int) rfl (by decide) rfl (by decide) encI_one (fun a13 c14 => ?_))
      refine TL.v rfl (OpVal.moveStr (.inl rfl) rfl) rfl rfl ?_
      refine TL.v rfl (OpVal.lenStr rfl Try.underlying9 rfl) rfl rfl ?_
      refine TL.op rfl (OpOk.lit (enc := encI) [_] rfl Try.underlying22 sz3 ze3 rfl rfl rfl encI_len (by decide) (by decide) (0 : Int) rfl (by decide) rfl (by decide) encI_one (fun a16 c17 => ?_))
      refine TL.v rfl (OpVal.moveLoc (.inl rfl) rfl) rfl rfl ?_
      refine TL.v rfl (OpVal.nilCheckLoc rfl rfl) rfl rfl ?_
      refine TL.v rfl (OpVal.fieldLoc rfl fo74_0 rfl) rfl rfl ?_
      refine TL.v rfl (OpVal.loadLoc rfl ag23 rfl (i := 3) rfl rfl) rfl rfl ?_
      refine TL.v rfl (OpVal.buildL rfl pl25 ze25 rfl) rfl rfl ?_
      refine TL.front 4 rfl rfl ?_
      refine TL.op rfl (OpOk.storeAll rfl sz25 rfl rfl rfl rfl rfl rfl ?_)
      refine TL.v rfl (OpVal.moveI (.inr rfl) rfl) rfl rfl ?_
      refine TL.nil ?_
      refine S.n ?_
      refine TC.front 1 rfl rfl ?_
      refine TC.sealS encI_len (fun τ21 hle20 hr19 => ?_)
      refine TC.front 1 rfl rfl ?_
      refine TC.sealS encI_len (fun τ24 hle23 hr22 => ?_)
      replace hr19 := hr19.mono hle23
      refine TC.front 1 rfl rfl ?_
      refine TC.sealS encE_len (fun τ27 hle26 hr25 => ?_)
      replace hr19 := hr19.mono hle26
      replace hr22 := hr22.mono hle26
      refine TC.ret ?_
      -- leaf 3 ret [h3: False; h7: False] H=['q2', 'q5']
      obtain rfl : g1 = s.size := by omega
      have h0 : s.data.toList.length ≤ 256 := by omega
      simp only [textR, textX, if_pos h0]
      exact retNfa (p := ⟨a13, c14, a16, c17, ga, gc⟩) 0 rfl ag25 sz25 rfl rfl rfl rfl ⟨hr22, hr19, hr25, textE_ok _ _⟩

end Go.Proofs.Ytcidppnlhhkhhaa
