/- Contracts of the reference of nfa, part three: two automatons alike. -/
import Derived.Test.YtcidppnlhhkhhaaRef2
set_option linter.unusedVariables false
set_option linter.unusedSimpArgs false
namespace Go.E
open Go
instance : DecidableEq Arrow := fun a b => decidable_of_iff (a.frm = b.frm ∧ a.to = b.to ∧ a.set = b.set) (by cases a; cases b; simp)
theorem Arrow.eq_iff (u v : Arrow) : u = v ↔ u.frm = v.frm ∧ u.to = v.to ∧ u.set = v.set := by cases u; cases v; simp
section
variable {P : Program}
theorem run_eqEdge {T TI TS TU : TypeId} {f1 f2 f3 : Field} (d : Nat) (hu : P.underlying T = some (.struct (P.fieldsOf T))) (hp : P.stoodInHeld T = false) (hf : (P.fieldsOf T).toList = [f1, f2, f3])
    (hn : f1.name ≠ "_" ∧ f2.name ≠ "_" ∧ f3.name ≠ "_") (ht : f1.type = TI ∧ f2.type = TI ∧ f3.type = TS) (ho : f1.offset = 0 ∧ f2.offset = 1 ∧ f3.offset = 2)
    (hI : P.underlying TI = some (.int .i64)) (hIA : aggOf P TI = some false) (hS : P.underlying TS = some (.array 4 TU)) (hSA : aggOf P TS = some true) (hSz : szOf P TS = some 4)
    (hU : P.underlying TU = some (.int .u64)) (hUA : aggOf P TU = some false) (hUz : szOf P TU = some 1) (u v : Arrow) (w : World) :
    (Op.equalIn (d + 3) T (.agg (encE u).toArray) (.agg (encE v).toArray)).run P w = .ok (decide (u = v)) w := by
  obtain ⟨n1, n2, n3⟩ := hn
  obtain ⟨t1, t2, t3⟩ := ht
  obtain ⟨o1, o2, o3⟩ := ho
  rw [run_equalIn_struct w (d + 2) T _ _ hu hp, hf]
  have h0 : ∀ (a b : Int), (Op.equalIn (d + 2) TI (.int .i64 a) (.int .i64 b)).run P w = .ok (decide (a = b)) w := fun a b => by
    rw [run_equalIn_int w (d + 1) TI .i64 .i64 a b hI]; rfl
  have p : ∀ (cs : Array Value) (i : Nat) (x : Value), cs[i]? = some x → (part TI cs i).run P w = .ok x w := fun cs i x h => run_part_one hIA h w
  simp only [Op.eqFields, n1, n2, n3, t1, t2, t3, o1, o2, o3, ne_eq, not_false_eq_true, if_true, Sem.run_bind]
  rw [p _ 0 (.int .i64 u.frm) rfl, Result.andThen_ok, p _ 0 (.int .i64 v.frm) rfl, Result.andThen_ok, h0, Result.andThen_ok]
  by_cases e0 : u.frm = v.frm
  · simp only [e0, decide_true, Bool.not_true, Bool.false_eq_true, if_false, Sem.run_bind]
    rw [p _ 1 (.int .i64 u.to) rfl, Result.andThen_ok, p _ 1 (.int .i64 v.to) rfl, Result.andThen_ok, h0, Result.andThen_ok]
    by_cases e1 : u.to = v.to
    · simp only [e1, decide_true, Bool.not_true, Bool.false_eq_true, if_false, Sem.run_bind]
      rw [run_part_agg hSA hSz, Result.andThen_ok, run_part_agg hSA hSz, Result.andThen_ok]
      have h4 := run_eqArr4 (P := P) d hS hU hUA hUz (u.set.a : Nat) (u.set.b : Nat) (u.set.c : Nat) (u.set.d : Nat) (v.set.a : Nat) (v.set.b : Nat) (v.set.c : Nat) (v.set.d : Nat) w
      rw [show (encE u).toArray.extract 2 (2 + 4) = #[.int .u64 (u.set.a : Nat), .int .u64 (u.set.b : Nat), .int .u64 (u.set.c : Nat), .int .u64 (u.set.d : Nat)] from rfl,
        show (encE v).toArray.extract 2 (2 + 4) = #[.int .u64 (v.set.a : Nat), .int .u64 (v.set.b : Nat), .int .u64 (v.set.c : Nat), .int .u64 (v.set.d : Nat)] from rfl, h4, Result.andThen_ok]
      by_cases e2 : u.set = v.set
      · have e3 := (BSet.eq_iff _ _).1 e2
        have e4 : u = v := (Arrow.eq_iff u v).2 ⟨e0, e1, e2⟩
        simp [e3, e4]
      · have e3 : ¬ _ := fun h => e2 ((BSet.eq_iff _ _).2 h)
        have e4 : ¬ u = v := fun h => e2 (by rw [h])
        rw [decide_eq_false e3, decide_eq_false e4]; simp
    · have e4 : ¬ u = v := fun h => e1 (by rw [h])
      simp [e1, e4]
  · have e4 : ¬ u = v := fun h => e0 (by rw [h])
    simp [e0, e4]
variable {n : Nat} {e : Env} {σ : Store} {H : List Res} {o : Oper} {x y : Operand}
theorem OpVal.neqEdge {T T' TI TS TU : TypeId} {f1 f2 f3 : Field} {xs ys : Array Value} {u v : Arrow} (ho : o.op = .binOp .neq T x y T') (hu : P.underlying T = some (.struct (P.fieldsOf T))) (hp : P.stoodInHeld T = false) (hf : (P.fieldsOf T).toList = [f1, f2, f3])
    (hn : f1.name ≠ "_" ∧ f2.name ≠ "_" ∧ f3.name ≠ "_") (ht : f1.type = TI ∧ f2.type = TI ∧ f3.type = TS) (hof : f1.offset = 0 ∧ f2.offset = 1 ∧ f3.offset = 2)
    (hI : P.underlying TI = some (.int .i64)) (hIA : aggOf P TI = some false) (hS : P.underlying TS = some (.array 4 TU)) (hSA : aggOf P TS = some true) (hSz : szOf P TS = some 4)
    (hU : P.underlying TU = some (.int .u64)) (hUA : aggOf P TU = some false) (hUz : szOf P TU = some 1) (hg : P.eqGuardType P.depth T = false)
    (hx : ev e x = .agg xs) (hy : ev e y = .agg ys) (hxs : xs = (encE u).toArray) (hys : ys = (encE v).toArray) : OpVal P n o e σ H (.bool (!decide (u = v))) := fun w _ => by
  subst hxs hys
  have h := run_eqEdge (P := P) 9997 hu hp hf hn ht hof hI hIA hS hSA hSz hU hUA hUz u v w
  simp only [execOp, ho, hx, hy, Sem.run_bind, run_eqGuard_agg _ _ _ _ _ _ _ hg, Result.andThen_ok]
  rw [run_neq_agg' (by simp) h rfl]; rfl
end
end Go.E
namespace Go.Proofs.Ytcidppnlhhkhhaa
open Go Go.E
set_option maxRecDepth 100000

def fE1 : Field := { name := "From", type := 3, offset := 0, embedded := false, tag := "", pkgPath := "", byteOffset := 0 }
def fE2 : Field := { name := "To", type := 3, offset := 1, embedded := false, tag := "", pkgPath := "", byteOffset := 8 }
def fE3 : Field := { name := "Set", type := 28, offset := 2, embedded := false, tag := "", pkgPath := "", byteOffset := 16 }
theorem unE : Try.prog.underlying 80 = some (.struct (Try.prog.fieldsOf 80)) := by kernel_rfl
theorem stE : Try.prog.stoodInHeld 80 = false := by kernel_rfl
theorem egE : Try.prog.eqGuardType Try.prog.depth 80 = false := by kernel_rfl
theorem fsE : (Try.prog.fieldsOf 80).toList = [fE1, fE2, fE3] := by kernel_rfl

def sameB (x y : Nfa) : Bool := decide (x.states = y.states) && decide (x.starts = y.starts) && decide (x.ends = y.ends) && decide (x.edges = y.edges)
theorem sameB_iff (x y : Nfa) : sameB x y = true ↔ x = y := by
  cases x; cases y
  simp [sameB, and_assoc]
theorem same_con (σ : Store) (x y : Nfa) (p q : NfaP) (hx : RNfa σ x p) (hy : RNfa σ y q) : Con Try.prog 20 #[nfaV x p, nfaV y q] σ [] (PureP (.bool (sameB x y)) σ) := by
  have hd := hx.d
  have hd' := hy.d
  have hb := hx.d.rv.big
  refine Con.mk (n := 54) Try.func20 rfl rfl rfl (fun w0 => ?_)
  refine TC.seq ?_
  refine TC.region ?_
  refine TL.op rfl (OpOk.boxA rfl rfl rfl rfl (fun b1 => ?_))
  refine TL.op rfl (OpOk.boxA rfl rfl rfl rfl (fun b3 => ?_))
  refine TL.v rfl (OpVal.moveB (.inr rfl) rfl) rfl rfl ?_
  refine TL.nil ?_
  refine S.n ?_
  refine TC.seq ?_
  refine TC.seq ?_
  refine TC.region ?_
  refine TL.v rfl (OpVal.fieldLoc rfl fo25_0 rfl) rfl rfl ?_
  refine TL.v rfl (OpVal.loadLoc rfl ag3 rfl (i := 1) rfl rfl) rfl rfl ?_
  refine TL.v rfl (OpVal.fieldLoc rfl fo25_0 rfl) rfl rfl ?_
  refine TL.v rfl (OpVal.loadLoc rfl ag3 rfl (i := 0) rfl rfl) rfl rfl ?_
  refine TL.v rfl (OpVal.neq rfl rfl rfl) rfl rfl ?_
  refine TL.v rfl (OpVal.moveB (.inl rfl) rfl) rfl rfl ?_
  refine TL.split 11 rfl (fun h5 => ?_) (fun h5 => ?_)
  · try simp only [decide_eq_true_eq, decide_eq_false_iff_not, Bool.not_eq_true', Bool.not_eq_false', Bool.not_eq_eq_eq_not, Bool.not_true, Bool.not_false, Int.not_lt, Int.not_le, Decidable.not_not] at h5
    refine TL.goff rfl rfl rfl rfl rfl rfl rfl rfl ?_
    refine TL.goff rfl rfl rfl rfl rfl rfl rfl rfl ?_
    refine TL.goff rfl rfl rfl rfl rfl rfl rfl rfl ?_
    refine TL.goff rfl rfl rfl rfl rfl rfl rfl rfl ?_
    refine TL.goff rfl rfl rfl rfl rfl rfl rfl rfl ?_
    refine TL.goff rfl rfl rfl rfl rfl rfl rfl rfl ?_
    refine TL.v rfl (OpVal.pickTB rfl rfl rfl) rfl rfl ?_
    refine TL.v rfl (OpVal.moveB (.inl rfl) rfl) rfl rfl ?_
    refine TL.goff rfl rfl rfl rfl rfl rfl rfl rfl ?_
    refine TL.goff rfl rfl rfl rfl rfl rfl rfl rfl ?_
    refine TL.goff rfl rfl rfl rfl rfl rfl rfl rfl ?_
    refine TL.goff rfl rfl rfl rfl rfl rfl rfl rfl ?_
    refine TL.goff rfl rfl rfl rfl rfl rfl rfl rfl ?_
    refine TL.goff rfl rfl rfl rfl rfl rfl rfl rfl ?_
    refine TL.v rfl (OpVal.pickTB rfl rfl rfl) rfl rfl ?_
    refine TL.v rfl (OpVal.moveB (.inl rfl) rfl) rfl rfl ?_
    refine TL.goff rfl rfl rfl rfl rfl rfl rfl rfl ?_
    refine TL.goff rfl rfl rfl rfl rfl rfl rfl rfl ?_
    refine TL.goff rfl rfl rfl rfl rfl rfl rfl rfl ?_
    refine TL.goff rfl rfl rfl rfl rfl rfl rfl rfl ?_
    refine TL.goff rfl rfl rfl rfl rfl rfl rfl rfl ?_
    refine TL.goff rfl rfl rfl rfl rfl rfl rfl rfl ?_
    refine TL.goff rfl rfl rfl rfl rfl rfl rfl rfl ?_
    refine TL.v rfl (OpVal.pickTB rfl rfl rfl) rfl rfl ?_
    refine TL.nil ?_
    refine S.n ?_
    refine TC.cond rfl (fun _ => ?_) (fun h => Bool.noConfusion h)
    refine TC.seq ?_
    refine TC.region ?_
    refine TL.v rfl (OpVal.moveB (.inr rfl) rfl) rfl rfl ?_
    refine TL.nil ?_
    refine S.n ?_
    refine TC.ret ?_
    refine S.r ?_
    -- leaf 1 ret [h5: t11=True] H=['q4', 'q2']
    refine ret1P rfl (congrArg Value.bool ?_)
    refine (Bool.eq_false_iff.2 fun h => ?_).symm
    obtain rfl := (sameB_iff x y).1 h
    first | omega | (simp at h5; done)
  · try simp only [decide_eq_true_eq, decide_eq_false_iff_not, Bool.not_eq_true', Bool.not_eq_false', Bool.not_eq_eq_eq_not, Bool.not_true, Bool.not_false, Int.not_lt, Int.not_le, Decidable.not_not] at h5
    refine TL.gv rfl rfl rfl rfl rfl (OpVal.fieldLoc rfl fo25_1 rfl) rfl rfl ?_
    refine TL.gv rfl rfl rfl rfl rfl (OpVal.loadLoc rfl ag22 rfl (i := 1) rfl rfl) rfl rfl ?_
    refine TL.gv rfl rfl rfl rfl rfl (OpVal.fieldLoc rfl fo25_1 rfl) rfl rfl ?_
    refine TL.gv rfl rfl rfl rfl rfl (OpVal.loadLoc rfl ag22 rfl (i := 0) rfl rfl) rfl rfl ?_
    refine TL.gon rfl rfl rfl rfl rfl (OpOk.callP (ints_con _ _ _ _ _ _ _ (by first | exact hx.s | exact hx.e) (by first | exact hy.s | exact hy.e)) rfl rfl pf46 rfl rfl rfl ?_)
    refine TL.gv rfl rfl rfl rfl rfl (OpVal.not rfl rfl) rfl rfl ?_
    refine TL.v rfl (OpVal.pickFB rfl rfl rfl) rfl rfl ?_
    refine TL.v rfl (OpVal.moveB (.inl rfl) rfl) rfl rfl ?_
    refine TL.split 19 rfl (fun h6 => ?_) (fun h6 => ?_)
    · try simp only [decide_eq_true_eq, decide_eq_false_iff_not, Bool.not_eq_true', Bool.not_eq_false', Bool.not_eq_eq_eq_not, Bool.not_true, Bool.not_false, Int.not_lt, Int.not_le, Decidable.not_not] at h6
      refine TL.goff rfl rfl rfl rfl rfl rfl rfl rfl ?_
      refine TL.goff rfl rfl rfl rfl rfl rfl rfl rfl ?_
      refine TL.goff rfl rfl rfl rfl rfl rfl rfl rfl ?_
      refine TL.goff rfl rfl rfl rfl rfl rfl rfl rfl ?_
      refine TL.goff rfl rfl rfl rfl rfl rfl rfl rfl ?_
      refine TL.goff rfl rfl rfl rfl rfl rfl rfl rfl ?_
      refine TL.v rfl (OpVal.pickTB rfl rfl rfl) rfl rfl ?_
      refine TL.v rfl (OpVal.moveB (.inl rfl) rfl) rfl rfl ?_
      refine TL.goff rfl rfl rfl rfl rfl rfl rfl rfl ?_
      refine TL.goff rfl rfl rfl rfl rfl rfl rfl rfl ?_
      refine TL.goff rfl rfl rfl rfl rfl rfl rfl rfl ?_
      refine TL.goff rfl rfl rfl rfl rfl rfl rfl rfl ?_
      refine TL.goff rfl rfl rfl rfl rfl rfl rfl rfl ?_
      refine TL.goff rfl rfl rfl rfl rfl rfl rfl rfl ?_
      refine TL.goff rfl rfl rfl rfl rfl rfl rfl rfl ?_
      refine TL.v rfl (OpVal.pickTB rfl rfl rfl) rfl rfl ?_
      refine TL.nil ?_
      refine S.n ?_
      refine TC.cond rfl (fun _ => ?_) (fun h => Bool.noConfusion h)
      refine TC.seq ?_
      refine TC.region ?_
      refine TL.v rfl (OpVal.moveB (.inr rfl) rfl) rfl rfl ?_
      refine TL.nil ?_
      refine S.n ?_
      refine TC.ret ?_
      refine S.r ?_
      -- leaf 2 ret [h5: t11=False; h6: t19=True] H=['q4', 'q2']
      refine ret1P rfl (congrArg Value.bool ?_)
      refine (Bool.eq_false_iff.2 fun h => ?_).symm
      obtain rfl := (sameB_iff x y).1 h
      first | omega | (simp at h6; done)
    · try simp only [decide_eq_true_eq, decide_eq_false_iff_not, Bool.not_eq_true', Bool.not_eq_false', Bool.not_eq_eq_eq_not, Bool.not_true, Bool.not_false, Int.not_lt, Int.not_le, Decidable.not_not] at h6
      refine TL.gv rfl rfl rfl rfl rfl (OpVal.fieldLoc rfl fo25_2 rfl) rfl rfl ?_
      refine TL.gv rfl rfl rfl rfl rfl (OpVal.loadLoc rfl ag22 rfl (i := 1) rfl rfl) rfl rfl ?_
      refine TL.gv rfl rfl rfl rfl rfl (OpVal.fieldLoc rfl fo25_2 rfl) rfl rfl ?_
      refine TL.gv rfl rfl rfl rfl rfl (OpVal.loadLoc rfl ag22 rfl (i := 0) rfl rfl) rfl rfl ?_
      refine TL.gon rfl rfl rfl rfl rfl (OpOk.callP (ints_con _ _ _ _ _ _ _ (by first | exact hx.s | exact hx.e) (by first | exact hy.s | exact hy.e)) rfl rfl pf46 rfl rfl rfl ?_)
      refine TL.gv rfl rfl rfl rfl rfl (OpVal.not rfl rfl) rfl rfl ?_
      refine TL.v rfl (OpVal.pickFB rfl rfl rfl) rfl rfl ?_
      refine TL.v rfl (OpVal.moveB (.inl rfl) rfl) rfl rfl ?_
      refine TL.split 27 rfl (fun h7 => ?_) (fun h7 => ?_)
      · try simp only [decide_eq_true_eq, decide_eq_false_iff_not, Bool.not_eq_true', Bool.not_eq_false', Bool.not_eq_eq_eq_not, Bool.not_true, Bool.not_false, Int.not_lt, Int.not_le, Decidable.not_not] at h7
        refine TL.goff rfl rfl rfl rfl rfl rfl rfl rfl ?_
        refine TL.goff rfl rfl rfl rfl rfl rfl rfl rfl ?_
        refine TL.goff rfl rfl rfl rfl rfl rfl rfl rfl ?_
        refine TL.goff rfl rfl rfl rfl rfl rfl rfl rfl ?_
        refine TL.goff rfl rfl rfl rfl rfl rfl rfl rfl ?_
        refine TL.goff rfl rfl rfl rfl rfl rfl rfl rfl ?_
        refine TL.goff rfl rfl rfl rfl rfl rfl rfl rfl ?_
        refine TL.v rfl (OpVal.pickTB rfl rfl rfl) rfl rfl ?_
        refine TL.nil ?_
        refine S.n ?_
        refine TC.cond rfl (fun _ => ?_) (fun h => Bool.noConfusion h)
        refine TC.seq ?_
        refine TC.region ?_
        refine TL.v rfl (OpVal.moveB (.inr rfl) rfl) rfl rfl ?_
        refine TL.nil ?_
        refine S.n ?_
        refine TC.ret ?_
        refine S.r ?_
        -- leaf 3 ret [h5: t11=False; h6: t19=False; h7: t27=True] H=['q4', 'q2']
        refine ret1P rfl (congrArg Value.bool ?_)
        refine (Bool.eq_false_iff.2 fun h => ?_).symm
        obtain rfl := (sameB_iff x y).1 h
        first | omega | (simp at h7; done)
      · try simp only [decide_eq_true_eq, decide_eq_false_iff_not, Bool.not_eq_true', Bool.not_eq_false', Bool.not_eq_eq_eq_not, Bool.not_true, Bool.not_false, Int.not_lt, Int.not_le, Decidable.not_not] at h7
        refine TL.gv rfl rfl rfl rfl rfl (OpVal.fieldLoc rfl fo25_3 rfl) rfl rfl ?_
        refine TL.gv rfl rfl rfl rfl rfl (OpVal.loadLoc rfl ag23 rfl (i := 1) rfl rfl) rfl rfl ?_
        refine TL.gv rfl rfl rfl rfl rfl (OpVal.lenC rfl Try.underlying23 rfl) rfl rfl ?_
        refine TL.gv rfl rfl rfl rfl rfl (OpVal.fieldLoc rfl fo25_3 rfl) rfl rfl ?_
        refine TL.gv rfl rfl rfl rfl rfl (OpVal.loadLoc rfl ag23 rfl (i := 0) rfl rfl) rfl rfl ?_
        refine TL.gv rfl rfl rfl rfl rfl (OpVal.lenC rfl Try.underlying23 rfl) rfl rfl ?_
        refine TL.gv rfl rfl rfl rfl rfl (OpVal.neq rfl rfl rfl) rfl rfl ?_
        refine TL.v rfl (OpVal.pickFB rfl rfl rfl) rfl rfl ?_
        refine TL.nil ?_
        refine S.n ?_
        refine TC.condD rfl (fun h8 => ?_) (fun h8 => ?_)
        · try simp only [decide_eq_true_eq, decide_eq_false_iff_not, Bool.not_eq_true', Bool.not_eq_false', Bool.not_eq_eq_eq_not, Bool.not_true, Bool.not_false, Int.not_lt, Int.not_le, Decidable.not_not] at h8
          refine TC.seq ?_
          refine TC.region ?_
          refine TL.v rfl (OpVal.moveB (.inr rfl) rfl) rfl rfl ?_
          refine TL.nil ?_
          refine S.n ?_
          refine TC.ret ?_
          refine S.r ?_
          -- leaf 4 ret [h5: t11=False; h6: t19=False; h7: t27=False; h8: True] H=['q4', 'q2']
          refine ret1P rfl (congrArg Value.bool ?_)
          refine (Bool.eq_false_iff.2 fun h => ?_).symm
          obtain rfl := (sameB_iff x y).1 h
          first | omega | (simp at h8; done)
        · try simp only [decide_eq_true_eq, decide_eq_false_iff_not, Bool.not_eq_true', Bool.not_eq_false', Bool.not_eq_eq_eq_not, Bool.not_true, Bool.not_false, Int.not_lt, Int.not_le, Decidable.not_not] at h8
          refine TC.skip ?_
          refine S.n ?_
          refine TC.seq ?_
          refine TC.seq ?_
          refine TC.region ?_
          refine TL.v rfl (OpVal.moveI (.inr rfl) rfl) rfl rfl ?_
          refine TL.nil ?_
          refine S.n ?_
          refine TC.block ?_
          refine TC.loopF (α := Nat) [4, 5, 36, 37, 38, 39, 40, 41, 42, 43, 44, 45, 46, 47, 48, 49, 50, 51, 52, 53] (fun k => [(5, .int .i64 (k : Nat))]) (fun _ => _) (fun _ => _) (fun k => k ≤ x.edges.length ∧ ∀ i, i < k → nth x.edges i Arrow.zero = nth y.edges i Arrow.zero) (fun k => x.edges.length - k) (0) (by first | exact True.intro | omega | (dsimp only; omega) | (simp; done) | (simp; omega)) (by repeat (first | exact trivial | refine ⟨rfl, ?_⟩)) (by rfl) (by rfl) (fun g1 j1 hg1 => ?_)
          obtain ⟨hk, hi⟩ := hg1
          refine TC.seq ?_
          refine TC.seq ?_
          refine TC.region ?_
          refine TL.v rfl (OpVal.moveI (.inl rfl) rfl) rfl rfl ?_
          refine TL.v rfl (OpVal.fieldLoc rfl fo25_3 rfl) rfl rfl ?_
          refine TL.v rfl (OpVal.loadLoc rfl ag23 rfl (i := 1) rfl rfl) rfl rfl ?_
          refine TL.v rfl (OpVal.lenC rfl Try.underlying23 rfl) rfl rfl ?_
          refine TL.v rfl (OpVal.lss rfl rfl rfl) rfl rfl ?_
          refine TL.nil ?_
          refine S.n ?_
          refine TC.condD rfl (fun h9 => ?_) (fun h9 => ?_)
          · try simp only [decide_eq_true_eq, decide_eq_false_iff_not, Bool.not_eq_true', Bool.not_eq_false', Bool.not_eq_eq_eq_not, Bool.not_true, Bool.not_false, Int.not_lt, Int.not_le, Decidable.not_not] at h9
            refine TC.skip ?_
            refine S.n ?_
            refine TC.seq ?_
            refine TC.block ?_
            refine TC.seq ?_
            refine TC.draw [] (by kernel_rfl) ?_
            refine TA.takeP 0 rfl (by kernel_rfl) (by kernel_rfl) (by kernel_rfl) rfl (OpVal.fieldLoc rfl fo25_3 rfl) rfl rfl ?_
            refine TA.take 1 rfl (by kernel_rfl) (by kernel_rfl) (by kernel_rfl) (by kernel_rfl) rfl (OpVal.loadLoc rfl ag23 rfl (i := 1) rfl rfl) rfl rfl ?_
            refine TA.takeP 2 rfl (by kernel_rfl) (by kernel_rfl) (by kernel_rfl) rfl (OpVal.moveI (.inl rfl) rfl) rfl rfl ?_
            refine TA.takeP 3 rfl (by kernel_rfl) (by kernel_rfl) (by kernel_rfl) rfl (OpVal.indexN rfl Try.underlying23 sz80 rfl rfl (by first | assumption | exact (RS.rv (by assumption)).sl) (by omega)) rfl rfl ?_
            refine TA.take 4 rfl (by kernel_rfl) (by kernel_rfl) (by kernel_rfl) (by kernel_rfl) rfl (OpVal.loadSA Arrow.zero rfl ag80 sz80 rfl (by assumption) (by omega) (by omega)) rfl rfl ?_
            refine TA.takeP 5 rfl (by kernel_rfl) (by kernel_rfl) (by kernel_rfl) rfl (OpVal.fieldLoc rfl fo25_3 rfl) rfl rfl ?_
            refine TA.take 6 rfl (by kernel_rfl) (by kernel_rfl) (by kernel_rfl) (by kernel_rfl) rfl (OpVal.loadLoc rfl ag23 rfl (i := 0) rfl rfl) rfl rfl ?_
            refine TA.takeP 7 rfl (by kernel_rfl) (by kernel_rfl) (by kernel_rfl) rfl (OpVal.moveI (.inl rfl) rfl) rfl rfl ?_
            refine TA.takeP 8 rfl (by kernel_rfl) (by kernel_rfl) (by kernel_rfl) rfl (OpVal.indexN rfl Try.underlying23 sz80 rfl rfl (by first | assumption | exact (RS.rv (by assumption)).sl) (by omega)) rfl rfl ?_
            refine TA.take 9 rfl (by kernel_rfl) (by kernel_rfl) (by kernel_rfl) (by kernel_rfl) rfl (OpVal.loadSA Arrow.zero rfl ag80 sz80 rfl (by assumption) (by omega) (by omega)) rfl rfl ?_
            refine TA.takeP 10 rfl (by kernel_rfl) (by kernel_rfl) (by kernel_rfl) rfl (OpVal.neqEdge (u := nth x.edges g1 Arrow.zero) (v := nth y.edges g1 Arrow.zero) rfl unE stE fsE ⟨by decide, by decide, by decide⟩ ⟨rfl, rfl, rfl⟩ ⟨rfl, rfl, rfl⟩ Try.underlying3 ag3 Try.underlying28 ag28 sz28 Try.underlying26 ag26 sz26 egE rfl rfl rfl rfl) rfl rfl ?_
            refine TA.done (by kernel_rfl) ?_
            refine S.n ?_
            refine TC.cond rfl (fun h10 => ?_) (fun h10 => ?_)
            · try simp only [decide_eq_true_eq, decide_eq_false_iff_not, Bool.not_eq_true', Bool.not_eq_false', Bool.not_eq_eq_eq_not, Bool.not_true, Bool.not_false, Int.not_lt, Int.not_le, Decidable.not_not] at h10
              refine TC.seq ?_
              refine TC.region ?_
              refine TL.v rfl (OpVal.moveB (.inr rfl) rfl) rfl rfl ?_
              refine TL.nil ?_
              refine S.n ?_
              refine TC.ret ?_
              refine B.r ?_
              refine S.r ?_
              refine S.r ?_
              refine B.r ?_
              refine S.r ?_
              -- leaf 5 ret [h5: t11=False; h6: t19=False; h7: t27=False; h8: False; h9: True; h10: True] H=['q4', 'q2']
              refine ret1P rfl (congrArg Value.bool ?_)
              refine (Bool.eq_false_iff.2 fun h => ?_).symm
              obtain rfl := (sameB_iff x y).1 h
              first | omega | (simp at h10; done)
            · try simp only [decide_eq_true_eq, decide_eq_false_iff_not, Bool.not_eq_true', Bool.not_eq_false', Bool.not_eq_eq_eq_not, Bool.not_true, Bool.not_false, Int.not_lt, Int.not_le, Decidable.not_not] at h10
              refine TC.skip ?_
              refine B.n ?_
              refine S.n ?_
              refine TC.region ?_
              refine TL.v rfl (OpVal.moveI (.inl rfl) rfl) rfl rfl ?_
              refine TL.v rfl (OpVal.succ rfl rfl rfl (by omega)) rfl rfl ?_
              refine TL.v rfl (OpVal.moveI (.inr rfl) rfl) rfl rfl ?_
              refine TL.nil ?_
              refine S.n ?_
              -- leaf 6 next [h5: t11=False; h6: t19=False; h7: t27=False; h8: False; h9: True; h10: False] H=['q4', 'q2']
              refine ⟨by repeat (first | exact Agr.mask | refine Agr.upd rfl ?_ | refine Agr.maskIn rfl ?_), g1 + 1, ?_, ?_, ?_, ?_, ?_⟩
              · omega
              · exact ⟨by omega, fun j hj => by rcases Nat.lt_succ_iff_lt_or_eq.1 hj with h | rfl; exact hi j h; exact h10⟩
              · repeat (first | exact trivial | refine ⟨rfl, ?_⟩)
              · rfl
              · rfl
          · try simp only [decide_eq_true_eq, decide_eq_false_iff_not, Bool.not_eq_true', Bool.not_eq_false', Bool.not_eq_eq_eq_not, Bool.not_true, Bool.not_false, Int.not_lt, Int.not_le, Decidable.not_not] at h9
            refine TC.exit ?_
            refine S.x ?_
            refine S.x ?_
            refine TC.exitHere ?_
            refine S.n ?_
            refine TC.seq ?_
            refine TC.region ?_
            refine TL.v rfl (OpVal.moveB (.inr rfl) rfl) rfl rfl ?_
            refine TL.nil ?_
            refine S.n ?_
            refine TC.ret ?_
            -- leaf 7 ret [h5: t11=False; h6: t19=False; h7: t27=False; h8: False; h9: False] H=['q4', 'q2']
            refine ret1P rfl (congrArg Value.bool ?_)
            have he := list_eq_nth Arrow.zero (l := x.edges) (m := y.edges) (by omega) (fun i h => hi i (by omega))
            simp [sameB, h5, h6, h7, he]

end Go.Proofs.Ytcidppnlhhkhhaa
