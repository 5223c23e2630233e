/- Decompiled: things in order, each once; what goes in; what comes out. -/
import Derived.Test.YtpijipnmfkehcaaF3s
import Derived.Test.YtpijipnmfkehcaaDec10
set_option linter.unusedVariables false
set_option linter.unusedSimpArgs false
namespace Go.Proofs.Ytpijipnmfkehcaa
open Go Go.E
set_option maxRecDepth 100000
private theorem ag22 : Go.E.aggOf Try.prog 22 = some false := by kernel_rfl
private theorem ag23 : Go.E.aggOf Try.prog 23 = some false := by kernel_rfl
private theorem ag25 : Go.E.aggOf Try.prog 25 = some true := by kernel_rfl
private theorem ag27 : Go.E.aggOf Try.prog 27 = some false := by kernel_rfl
private theorem ag41 : Go.E.aggOf Try.prog 41 = some true := by kernel_rfl
private theorem ag50 : Go.E.aggOf Try.prog 50 = some true := by kernel_rfl
private theorem ag57 : Go.E.aggOf Try.prog 57 = some true := by kernel_rfl
private theorem ag9 : Go.E.aggOf Try.prog 9 = some false := by kernel_rfl
private theorem by23 : Go.E.byOf Try.prog 23 = some 24 := by kernel_rfl
private theorem by27 : Go.E.byOf Try.prog 27 = some 24 := by kernel_rfl
private theorem by41 : Go.E.byOf Try.prog 41 = some 72 := by kernel_rfl
private theorem by57 : Go.E.byOf Try.prog 57 = some 24 := by kernel_rfl
private theorem by82 : Go.E.byOf Try.prog 82 = some 48 := by kernel_rfl
private theorem by9 : Go.E.byOf Try.prog 9 = some 16 := by kernel_rfl
private theorem eg41 : Try.prog.eqGuardType Try.prog.depth 41 = false := by kernel_rfl
private theorem eg57 : Try.prog.eqGuardType Try.prog.depth 57 = false := by kernel_rfl
private theorem es41 (x y : Arc) : Go.E.EqAt Try.prog 3 41 (.agg (Go.E.encArc x).toArray) (.agg (Go.E.encArc y).toArray) (decide (x = y)) :=
  (EqAt.struct (ts := [(false, 3, 0), (false, 3, 1), (false, 39, 2), (false, 9, 6), (false, 4, 7)]) (by kernel_rfl) (by kernel_rfl) (by kernel_rfl) (EqC.one (by kernel_rfl) rfl rfl (EqAt.int Try.underlying3 x.frm y.frm |>.up (by decide)) (EqC.one (by kernel_rfl) rfl rfl (EqAt.int Try.underlying3 x.to y.to |>.up (by decide)) (EqC.agg (s := 4) (us := Go.E.setA x.set) (vs := Go.E.setA y.set) (by kernel_rfl) (by kernel_rfl) rfl rfl (EqAt.set Try.underlying39 Try.underlying37 (by kernel_rfl) (by kernel_rfl) x.set y.set) (EqC.one (by kernel_rfl) rfl rfl (EqAt.str Try.underlying9 x.out y.out |>.up (by decide)) (EqC.one (by kernel_rfl) rfl rfl (EqAt.bool Try.underlying4 x.copy y.copy |>.up (by decide)) EqC.nil)))))).of (by rw [Bool.eq_iff_iff]; cases x; cases y; simp)
private theorem es57 (x y : Tip) : Go.E.EqAt Try.prog 2 57 (.agg (Go.E.encTip x).toArray) (.agg (Go.E.encTip y).toArray) (decide (x = y)) :=
  (EqAt.struct (ts := [(false, 3, 0), (false, 9, 1)]) (by kernel_rfl) (by kernel_rfl) (by kernel_rfl) (EqC.one (by kernel_rfl) rfl rfl (EqAt.int Try.underlying3 x.state y.state) (EqC.one (by kernel_rfl) rfl rfl (EqAt.str Try.underlying9 x.out y.out) EqC.nil))).of (by rw [Bool.eq_iff_iff]; cases x; cases y; simp)
private theorem fo25_0 : Go.E.foOf Try.prog 25 0 = some 0 := by kernel_rfl
private theorem fo25_1 : Go.E.foOf Try.prog 25 1 = some 1 := by kernel_rfl
private theorem fo25_2 : Go.E.foOf Try.prog 25 2 = some 2 := by kernel_rfl
private theorem fo25_3 : Go.E.foOf Try.prog 25 3 = some 3 := by kernel_rfl
private theorem fo41_0 : Go.E.foOf Try.prog 41 0 = some 0 := by kernel_rfl
private theorem fo41_1 : Go.E.foOf Try.prog 41 1 = some 1 := by kernel_rfl
private theorem fo41_2 : Go.E.foOf Try.prog 41 2 = some 2 := by kernel_rfl
private theorem fo57_0 : Go.E.foOf Try.prog 57 0 = some 0 := by kernel_rfl
private theorem fo57_1 : Go.E.foOf Try.prog 57 1 = some 1 := by kernel_rfl
private theorem fo62_0 : Go.E.foOf Try.prog 62 0 = some 0 := by kernel_rfl
private theorem fo62_1 : Go.E.foOf Try.prog 62 1 = some 1 := by kernel_rfl
private theorem es62 (x y : FPair) : Go.E.EqAt Try.prog 2 62 (.agg (Go.E.encFPair x).toArray) (.agg (Go.E.encFPair y).toArray) (decide (x = y)) :=
  (EqAt.struct (ts := [(false, 3, 0), (false, 9, 1)]) (by kernel_rfl) (by kernel_rfl) (by kernel_rfl) (EqC.one (by kernel_rfl) rfl rfl (EqAt.int Try.underlying3 x.state y.state) (EqC.one (by kernel_rfl) rfl rfl (EqAt.str Try.underlying9 x.out y.out) EqC.nil))).of (by rw [Bool.eq_iff_iff]; cases x; cases y; simp)
private theorem kl62 : Go.E.KeyL Try.prog 62 (fun x => Value.agg (Go.E.encFPair x).toArray) :=
  KeyL.struct Try.underlying62 es62 rfl (fun x => CkAt.struct (n := 1) (ts := [(false, 3, 0), (false, 9, 1)]) (by kernel_rfl) (by kernel_rfl) (CkC.one (by kernel_rfl) rfl (CkAt.int Try.underlying3 _) (CkC.one (by kernel_rfl) rfl (CkAt.str Try.underlying9 _) CkC.nil))) rfl encFPair_bits
private theorem pf13 : Go.E.plainF Try.prog 13 = true := by kernel_rfl
private theorem pf21 : Go.E.plainF Try.prog 21 = true := by kernel_rfl
private theorem pf22 : Go.E.plainF Try.prog 22 = true := by kernel_rfl
private theorem pf32 : Go.E.plainF Try.prog 32 = true := by kernel_rfl
private theorem pf34 : Go.E.plainF Try.prog 34 = true := by kernel_rfl
private theorem pf37 : Go.E.plainF Try.prog 37 = true := by kernel_rfl
private theorem pf41 : Go.E.plainF Try.prog 41 = true := by kernel_rfl
private theorem pf42 : Go.E.plainF Try.prog 42 = true := by kernel_rfl
private theorem pf43 : Go.E.plainF Try.prog 43 = true := by kernel_rfl
private theorem pf49 : Go.E.plainF Try.prog 49 = true := by kernel_rfl
private theorem pf50 : Go.E.plainF Try.prog 50 = true := by kernel_rfl
private theorem pf51 : Go.E.plainF Try.prog 51 = true := by kernel_rfl
private theorem pf54 : Go.E.plainF Try.prog 54 = true := by kernel_rfl
private theorem pf55 : Go.E.plainF Try.prog 55 = true := by kernel_rfl
private theorem pf56 : Go.E.plainF Try.prog 56 = true := by kernel_rfl
private theorem pf59 : Go.E.plainF Try.prog 59 = true := by kernel_rfl
private theorem pf69 : Go.E.plainF Try.prog 69 = true := by kernel_rfl
private theorem pf70 : Go.E.plainF Try.prog 70 = true := by kernel_rfl
private theorem pf71 : Go.E.plainF Try.prog 71 = true := by kernel_rfl
private theorem pl25 : Go.E.plOf Try.prog 25 = some #[(0, 1), (1, 1), (2, 1), (3, 1)] := by kernel_rfl
private theorem pl50 : Go.E.plOf Try.prog 50 = some #[(0, 1), (1, 1), (2, 1), (3, 1)] := by kernel_rfl
private theorem pl60 : Go.E.plOf Try.prog 60 = some #[] := by kernel_rfl
private theorem pl62 : Go.E.plOf Try.prog 62 = some #[(0, 1), (1, 1)] := by kernel_rfl
private theorem pl82 : Go.E.plOf Try.prog 82 = some #[(0, 1), (1, 1), (2, 4)] := by kernel_rfl
private theorem sz23 : Go.E.szOf Try.prog 23 = some 1 := by kernel_rfl
private theorem sz25 : Go.E.szOf Try.prog 25 = some 4 := by kernel_rfl
private theorem sz27 : Go.E.szOf Try.prog 27 = some 1 := by kernel_rfl
private theorem sz41 : Go.E.szOf Try.prog 41 = some 8 := by kernel_rfl
private theorem sz48 : Go.E.szOf Try.prog 48 = some 1 := by kernel_rfl
private theorem sz50 : Go.E.szOf Try.prog 50 = some 4 := by kernel_rfl
private theorem sz57 : Go.E.szOf Try.prog 57 = some 2 := by kernel_rfl
private theorem sz62 : Go.E.szOf Try.prog 62 = some 2 := by kernel_rfl
private theorem sz9 : Go.E.szOf Try.prog 9 = some 1 := by kernel_rfl
private theorem ze23 : Go.E.zeroOf Try.prog 23 = some (.slice none 0 0) := by kernel_rfl
private theorem ze25 : Go.E.zeroOf Try.prog 25 = some (.agg #[.int .i64 0, .slice none 0 0, .slice none 0 0, .slice none 0 0]) := by kernel_rfl
private theorem ze27 : Go.E.zeroOf Try.prog 27 = some (.slice none 0 0) := by kernel_rfl
private theorem ze41 : Go.E.zeroOf Try.prog 41 = some (.agg #[.int .i64 0, .int .i64 0, .int .u64 0, .int .u64 0, .int .u64 0, .int .u64 0, .string ByteArray.empty, .bool false]) := by kernel_rfl
private theorem ze50 : Go.E.zeroOf Try.prog 50 = some (.agg #[.int .i64 0, .slice none 0 0, .slice none 0 0, .slice none 0 0]) := by kernel_rfl
private theorem ze57 : Go.E.zeroOf Try.prog 57 = some (.agg #[.int .i64 0, .string ByteArray.empty]) := by kernel_rfl
private theorem ze60 : Go.E.zeroOf Try.prog 60 = some (.agg #[]) := by kernel_rfl
private theorem ze62 : Go.E.zeroOf Try.prog 62 = some (.agg #[.int .i64 0, .string ByteArray.empty]) := by kernel_rfl
private theorem ze9 : Go.E.zeroOf Try.prog 9 = some (.string ByteArray.empty) := by kernel_rfl

theorem cloneS_con {σ : Store} {a : Option Addr} {c : Nat} {l : List (List UInt8)} (hl : RS σ 1 encS (.slice a l.length c) l) (hsz : l.length * 16 ≤ 140737488355328) :
    Con Try.prog 41 #[.slice a l.length c] σ [] (RowP 9 1 encS l σ) := by
  have hb := hl.rv.big
  refine Con.mk (n := 8) Try.func41 rfl rfl rfl (fun w0 => ?_)
  refine TC.seq ?_
  refine TC.region ?_
  refine TL.v rfl (OpVal.moveSl (.inr rfl) rfl) rfl rfl ?_
  refine TL.nilS 9 1 encS ?_
  refine TL.nil ?_
  refine S.n ?_
  refine TC.seq ?_
  refine TC.seq ?_
  refine TC.region ?_
  refine TL.v rfl (OpVal.moveSl (.inl rfl) rfl) rfl rfl ?_
  refine TL.v rfl (OpVal.eqlNilSl rfl Try.underlying27 rfl rfl) rfl rfl ?_
  refine TL.nil ?_
  refine S.n ?_
  refine TC.cond rfl (fun h2 => ?_) (fun h2 => ?_)
  · refine TC.seq ?_
    refine TC.region ?_
    refine TL.v rfl (OpVal.moveSl (.inr rfl) rfl) rfl rfl ?_
    refine TL.nilS 9 1 encS ?_
    refine TL.nil ?_
    refine S.n ?_
    refine TC.ret ?_
    refine S.r ?_
    cases a with
    | some _ => simp at h2
    | none =>
      obtain rfl := hl.none_nil
      exact ret1R rfl rfl
  · refine TC.skip ?_
    refine S.n ?_
    refine TC.seq ?_
    refine TC.region ?_
    refine TL.op rfl (OpOk.lit0 (enc := encS) rfl rfl Try.underlying27 sz9 rfl rfl (fun a4 c5 => ?_))
    refine TL.v rfl (OpVal.moveSl (.inl rfl) rfl) rfl rfl ?_
    refine TL.op rfl (OpOk.appendS rfl rfl Try.underlying27 sz9 by9 ze9 rfl rfl (by decide) rfl rfl rfl (.inl hl) (by simpa using hsz) (by decide) (fun a7 c8 => ?_))
    refine TL.v rfl (OpVal.moveSl (.inr rfl) rfl) rfl rfl ?_
    refine TL.nil ?_
    refine S.n ?_
    refine TC.ret ?_
    exact ret1R rfl rfl

noncomputable def compactS_j1 (k125 : Nat) (l128 : List (List UInt8)) (k130 : Nat) : Option (((List (List UInt8)) × Nat × Nat) ⊕ ((Nat) ⊕ ((List (List UInt8))))) :=
  nxt (l128, k130, (k125 + 1))
noncomputable def compactS_b2 (x0 : List (List UInt8)) (k105 : Nat) (l122 : List (List UInt8)) (k124 : Nat) (k125 : Nat) : Option (((List (List UInt8)) × Nat × Nat) ⊕ ((Nat) ⊕ ((List (List UInt8))))) :=
  iteO (decide (((k125 : Nat) : Int) < (((x0.length - k105) : Nat) : Int))) (grd (k125 < (x0.length - k105)) (grd (0 ≤ (IntKind.i64.wrap (((k125 : Nat) : Int) - 1)) ∧ (IntKind.i64.wrap (((k125 : Nat) : Int) - 1)) < ((x0.length - k105) : Nat)) (iteO (decide ((nth l122 (k105 + k125) ([] : List UInt8)) ≠ (nth l122 (k105 + (IntKind.i64.wrap (((k125 : Nat) : Int) - 1)).toNat) ([] : List UInt8)))) (grd (k125 < (x0.length - k105)) (grd (k124 < l122.length) (compactS_j1 k125 (l122.set k124 (nth l122 (k105 + k125) ([] : List UInt8))) (k124 + 1)))) (compactS_j1 k125 l122 k124)))) (fin (grd (k124 ≤ x0.length) (grd (k124 ≤ (l122.take k124 ++ List.replicate (l122.length - k124) ([] : List UInt8)).length) (fin (some ((l122.take k124 ++ List.replicate (l122.length - k124) ([] : List UInt8)).take k124))))))
noncomputable def compactS_b1 (x0 : List (List UInt8)) (k105 : Nat) : Option ((Nat) ⊕ ((List (List UInt8)))) :=
  iteO (decide (((k105 : Nat) : Int) < ((x0.length : Nat) : Int))) (grd (0 ≤ (IntKind.i64.wrap (((k105 : Nat) : Int) - 1)) ∧ (IntKind.i64.wrap (((k105 : Nat) : Int) - 1)) < (x0.length : Int)) (iteO (decide ((nth x0 k105 ([] : List UInt8)) = (nth x0 ((IntKind.i64.wrap (((k105 : Nat) : Int) - 1)).toNat) ([] : List UInt8)))) (grd (k105 ≤ x0.length) (iter (fun q : (List (List UInt8)) × Nat × Nat => compactS_b2 x0 k105 q.1 q.2.1 q.2.2) (x0, k105, 1))) (nxt (k105 + 1)))) (fin (some x0))
noncomputable def compactS (x0 : List (List UInt8)) : Option ((List (List UInt8))) :=
  iteO (decide (((x0.length : Nat) : Int) < 2)) (some x0) (iter (fun q : Nat => compactS_b1 x0 q) 1)
theorem compactS_con {σ : Store} {x0 : List (List UInt8)} {a0_1 : Option Addr} {c0_2 : Nat}  {r : (List (List UInt8))} (hh : compactS x0 = some r) :
    Con Try.prog 43 #[.slice a0_1 x0.length c0_2] σ [Res.rowS 9 1 encS (.slice a0_1 x0.length c0_2) x0] (fun v σ' H' => ∃ (a1 : Option Addr), ∃ (c1 : Nat), v = .slice a1 r.length c1 ∧ σ = σ' ∧ H' = [Res.rowS 9 1 encS (.slice a1 r.length c1) r]) := by
  dsimp only [compactS] at hh
  refine Con.mk (n := 61) Try.func43 rfl rfl rfl (fun w0 => ?_)
  refine TC.seq ?_
  refine TC.region ?_
  refine TL.v rfl (OpVal.moveSl (.inr rfl) rfl) rfl rfl ?_
  refine TL.nil ?_
  refine S.n ?_
  refine TC.seq ?_
  refine TC.seq ?_
  refine TC.region ?_
  refine TL.v rfl (OpVal.moveSl (.inl rfl) rfl) rfl rfl ?_
  refine TL.v rfl (OpVal.lenC rfl Try.underlying27 rfl) rfl rfl ?_
  refine TL.v rfl (OpVal.lss rfl rfl rfl) rfl rfl ?_
  refine TL.nil ?_
  refine S.n ?_
  refine TC.cond rfl (fun h102 => ?_) (fun h102 => ?_)
  · replace hh := iteO_t h102 hh
    replace h102 := of_decide_eq_true h102
    refine TC.seq ?_
    refine TC.region ?_
    refine TL.v rfl (OpVal.moveSl (.inl rfl) rfl) rfl rfl ?_
    refine TL.v rfl (OpVal.moveSl (.inr rfl) rfl) rfl rfl ?_
    refine TL.nil ?_
    refine S.n ?_
    refine TC.ret ?_
    refine S.r ?_
    obtain rfl := Option.some.inj hh
    exact RetOk.mk' (rs := [.tmp 2]) [Res.rowS 9 1 encS (.slice a0_1 x0.length c0_2) x0] rfl (.inl rfl) (RVs.tmp rfl RVs.nil) (List.sublist_append_left _ _) ⟨a0_1, c0_2, rfl, rfl, rfl⟩
  · replace hh := iteO_f h102 hh
    replace h102 := of_decide_eq_false h102
    refine TC.skip ?_
    refine S.n ?_
    refine TC.seq ?_
    refine TC.seq ?_
    refine TC.region ?_
    refine TL.v rfl (OpVal.moveI (.inr rfl) rfl) rfl rfl ?_
    refine TL.nil ?_
    refine S.n ?_
    refine TC.block ?_
    refine TC.loopG (α := (Nat) × (Unit)) [2, 3, 4, 5, 10, 11, 12, 13, 14, 15, 16, 17, 18, 19, 20, 21, 22, 23, 24, 25, 26, 27, 28, 29, 30, 31, 32, 33, 34, 35, 36, 37, 38, 39, 40, 41, 42, 43, 44, 45, 46, 47, 48, 49, 50, 51, 52, 53, 54, 55, 56, 57, 58, 59] (fun g => [(3, .int .i64 ((g.1 : Nat) : Int))]) (fun g => [Res.rowS 9 1 encS (.slice a0_1 x0.length c0_2) x0]) (fun g => σ) (fun g => iter (fun q : Nat => compactS_b1 x0 q) g.1 = some r) (fun g => rounds (fun q : Nat => compactS_b1 x0 q) g.1) (1, ()) (Sub.pre 1 rfl) rfl (by repeat (first | exact trivial | refine ⟨rfl, ?_⟩)) hh (fun g1 j1 hg1 => ?_)
    obtain ⟨k105, _⟩ := g1
    have hh := hg1; clear hg1
    show TC _ _ _ (upds (mask _ j1 _) [(3, .int .i64 ((k105 : Nat) : Int))]) _ [Res.rowS 9 1 encS (.slice a0_1 x0.length c0_2) x0]
    obtain ⟨z1, hh, hR1⟩ := iter_e hh
    dsimp only [compactS_b1] at hh
    refine TC.isSl (i := 0) rfl (fun _ hb106 _ => ?_)
    refine TC.seq ?_
    refine TC.seq ?_
    refine TC.region ?_
    refine TL.v rfl (OpVal.moveI (.inl rfl) rfl) rfl rfl ?_
    refine TL.v rfl (OpVal.moveSl (.inl rfl) rfl) rfl rfl ?_
    refine TL.v rfl (OpVal.lenC rfl Try.underlying27 rfl) rfl rfl ?_
    refine TL.v rfl (OpVal.lss rfl rfl rfl) rfl rfl ?_
    refine TL.nil ?_
    refine S.n ?_
    refine TC.cond rfl (fun h107 => ?_) (fun h107 => ?_)
    · replace hh := iteO_t h107 hh
      replace h107 := of_decide_eq_true h107
      refine TC.skip ?_
      refine S.n ?_
      refine TC.seq ?_
      refine TC.block ?_
      refine TC.seq ?_
      have u19 := grd_c hh
      replace hh := grd_t hh
      refine TC.draw [] (by kernel_rfl) ?_
      refine TA.takeP 0 rfl (by kernel_rfl) (by kernel_rfl) (by kernel_rfl) rfl (OpVal.moveSl (.inl rfl) rfl) rfl rfl ?_
      refine TA.takeP 1 rfl (by kernel_rfl) (by kernel_rfl) (by kernel_rfl) rfl (OpVal.moveI (.inl rfl) rfl) rfl rfl ?_
      refine TA.isSl (i := 0) rfl (fun hs110 _ _ => ?_)
      refine TA.take 2 rfl (by kernel_rfl) (by kernel_rfl) (by kernel_rfl) (by kernel_rfl) rfl (OpVal.indexN rfl Try.underlying27 sz9 rfl rfl hs110 (by omega)) rfl rfl ?_
      refine TA.take 3 rfl (by kernel_rfl) (by kernel_rfl) (by kernel_rfl) (by kernel_rfl) rfl (OpVal.loadO1 ([] : List UInt8) rfl ag9 rfl (q := 0) rfl encS_len (by omega) rfl) rfl rfl ?_
      refine TA.takeP 4 rfl (by kernel_rfl) (by kernel_rfl) (by kernel_rfl) rfl (OpVal.moveSl (.inl rfl) rfl) rfl rfl ?_
      refine TA.takeP 5 rfl (by kernel_rfl) (by kernel_rfl) (by kernel_rfl) rfl (OpVal.moveI (.inl rfl) rfl) rfl rfl ?_
      refine TA.takeP 6 rfl (by kernel_rfl) (by kernel_rfl) (by kernel_rfl) rfl (OpVal.subW rfl rfl rfl) rfl rfl ?_
      refine TA.isSl (i := 0) rfl (fun hs111 _ _ => ?_)
      refine TA.take 7 rfl (by kernel_rfl) (by kernel_rfl) (by kernel_rfl) (by kernel_rfl) rfl (OpVal.index rfl Try.underlying27 sz9 rfl rfl hs111 u19.1 u19.2) rfl rfl ?_
      refine TA.take 8 rfl (by kernel_rfl) (by kernel_rfl) (by kernel_rfl) (by kernel_rfl) rfl (OpVal.loadO1 ([] : List UInt8) rfl ag9 rfl (q := 0) rfl encS_len (by omega) rfl) rfl rfl ?_
      refine TA.takeP 9 rfl (by kernel_rfl) (by kernel_rfl) (by kernel_rfl) rfl (OpVal.eqlBs rfl rfl rfl) rfl rfl ?_
      refine TA.done (by kernel_rfl) ?_
      refine S.n ?_
      refine TC.cond rfl (fun h112 => ?_) (fun h112 => ?_)
      · replace hh := iteO_t h112 hh
        replace h112 := of_decide_eq_true h112
        refine TC.seq ?_
        refine TC.region ?_
        refine TL.v rfl (OpVal.moveSl (.inl rfl) rfl) rfl rfl ?_
        refine TL.v rfl (OpVal.moveI (.inl rfl) rfl) rfl rfl ?_
        have u24 := grd_c hh
        replace hh := grd_t hh
        refine TL.isSl (i := 0) rfl (fun hs113 _ _ => ?_)
        obtain ⟨a113, c113, hv113, ho113⟩ := vw_of (k := k105) (size := 1) hs113 (by omega)
        refine TL.v rfl (ho113 rfl Try.underlying27 sz9 rfl rfl) rfl rfl ?_
        refine TL.v rfl (OpVal.moveSl (.inr rfl) rfl) rfl rfl ?_
        refine TL.nil ?_
        refine S.n ?_
        refine TC.seq ?_
        refine TC.seq ?_
        refine TC.region ?_
        refine TL.v rfl (OpVal.moveI (.inr rfl) rfl) rfl rfl ?_
        refine TL.nil ?_
        refine S.n ?_
        refine TC.block ?_
        refine TC.loopG (α := ((List (List UInt8)) × Nat × Nat) × (Unit)) [3, 5, 29, 30, 31, 32, 33, 34, 35, 36, 37, 38, 39, 40, 41, 42, 43, 44, 45, 46, 47, 48, 49, 50, 51, 52, 53] (fun g => [(3, .int .i64 ((g.1.2.1 : Nat) : Int)), (5, .int .i64 ((g.1.2.2 : Nat) : Int))]) (fun g => [Res.rowS 9 1 encS (.slice a0_1 x0.length c0_2) g.1.1]) (fun g => σ) (fun g => iter (fun q : (List (List UInt8)) × Nat × Nat => compactS_b2 x0 k105 q.1 q.2.1 q.2.2) g.1 = some z1 ∧ g.1.1.length = x0.length) (fun g => rounds (fun q : (List (List UInt8)) × Nat × Nat => compactS_b2 x0 k105 q.1 q.2.1 q.2.2) g.1) ((x0, k105, 1), ()) (Sub.pre 1 rfl) rfl (by repeat (first | exact trivial | refine ⟨rfl, ?_⟩)) ⟨hh, rfl⟩ (fun g2 j2 hg2 => ?_)
        obtain ⟨⟨l122, k124, k125⟩, _⟩ := g2
        obtain ⟨hh, hn123⟩ := hg2
        try dsimp only at hn123
        show TC _ _ _ (upds (mask _ j2 _) [(3, .int .i64 ((k124 : Nat) : Int)), (5, .int .i64 ((k125 : Nat) : Int))]) _ [Res.rowS 9 1 encS (.slice a0_1 x0.length c0_2) l122]
        obtain ⟨z2, hh, hR2⟩ := iter_e hh
        dsimp only [compactS_b2] at hh
        have hn123b := hn123
        refine TC.isSl (i := 0) rfl (fun _ hb126 _ => ?_)
        refine TC.seq ?_
        refine TC.seq ?_
        refine TC.region ?_
        refine TL.v rfl (OpVal.moveI (.inl rfl) rfl) rfl rfl ?_
        refine TL.v rfl (OpVal.moveSl (.inl rfl) rfl) rfl rfl ?_
        refine TL.v rfl (OpVal.lenC rfl Try.underlying27 rfl) rfl rfl ?_
        refine TL.v rfl (OpVal.lss rfl rfl rfl) rfl rfl ?_
        refine TL.nil ?_
        refine S.n ?_
        refine TC.cond rfl (fun h127 => ?_) (fun h127 => ?_)
        · replace hh := iteO_t h127 hh
          replace h127 := of_decide_eq_true h127
          refine TC.skip ?_
          refine S.n ?_
          refine TC.cutG (α := ((List (List UInt8)) × Nat) × (Unit)) [3, 35, 36, 37, 38, 39, 40, 41, 42, 43, 44, 45, 46, 47, 48, 49, 50, 51, 52, 53] (fun g => [(3, .int .i64 ((g.1.2 : Nat) : Int))]) (fun g => [Res.rowS 9 1 encS (.slice a0_1 x0.length c0_2) g.1.1]) (fun g => σ) (fun g => compactS_j1 k125 g.1.1 g.1.2 = some z2 ∧ g.1.1.length = x0.length) ?_ (fun g j hg => ?_)
          · skip
            refine TC.block ?_
            refine TC.seq ?_
            have u33 := grd_c hh
            replace hh := grd_t hh
            have u38 := grd_c hh
            replace hh := grd_t hh
            refine TC.draw [] (by kernel_rfl) ?_
            refine TA.takeP 0 rfl (by kernel_rfl) (by kernel_rfl) (by kernel_rfl) rfl (OpVal.moveSl (.inl rfl) rfl) rfl rfl ?_
            refine TA.takeP 1 rfl (by kernel_rfl) (by kernel_rfl) (by kernel_rfl) rfl (OpVal.moveI (.inl rfl) rfl) rfl rfl ?_
            refine TA.take 2 rfl (by kernel_rfl) (by kernel_rfl) (by kernel_rfl) (by kernel_rfl) rfl (OpVal.elVw hv113 (by omega) (OpVal.indexN rfl Try.underlying27 sz9 rfl rfl hv113.sl (by omega))) rfl rfl ?_
            refine TA.take 3 rfl (by kernel_rfl) (by kernel_rfl) (by kernel_rfl) (by kernel_rfl) rfl (OpVal.loadO1 ([] : List UInt8) rfl ag9 rfl (q := 0) rfl encS_len (by omega) rfl) rfl rfl ?_
            refine TA.takeP 4 rfl (by kernel_rfl) (by kernel_rfl) (by kernel_rfl) rfl (OpVal.moveSl (.inl rfl) rfl) rfl rfl ?_
            refine TA.takeP 5 rfl (by kernel_rfl) (by kernel_rfl) (by kernel_rfl) rfl (OpVal.moveI (.inl rfl) rfl) rfl rfl ?_
            refine TA.takeP 6 rfl (by kernel_rfl) (by kernel_rfl) (by kernel_rfl) rfl (OpVal.subW rfl rfl rfl) rfl rfl ?_
            refine TA.take 7 rfl (by kernel_rfl) (by kernel_rfl) (by kernel_rfl) (by kernel_rfl) rfl (OpVal.elVw hv113 (by omega) (OpVal.index rfl Try.underlying27 sz9 rfl rfl hv113.sl u38.1 u38.2)) rfl rfl ?_
            refine TA.take 8 rfl (by kernel_rfl) (by kernel_rfl) (by kernel_rfl) (by kernel_rfl) rfl (OpVal.loadO1 ([] : List UInt8) rfl ag9 rfl (q := 0) rfl encS_len (by omega) rfl) rfl rfl ?_
            refine TA.takeP 9 rfl (by kernel_rfl) (by kernel_rfl) (by kernel_rfl) rfl (OpVal.neqBs rfl rfl rfl) rfl rfl ?_
            refine TA.done (by kernel_rfl) ?_
            refine S.n ?_
            refine TC.cond rfl (fun h131 => ?_) (fun h131 => ?_)
            · replace hh := iteO_t h131 hh
              replace h131 := of_decide_eq_true h131
              refine TC.seq ?_
              refine TC.region ?_
              refine TL.v rfl (OpVal.moveSl (.inl rfl) rfl) rfl rfl ?_
              refine TL.v rfl (OpVal.moveI (.inl rfl) rfl) rfl rfl ?_
              refine TL.v rfl (OpVal.moveSl (.inl rfl) rfl) rfl rfl ?_
              refine TL.v rfl (OpVal.moveI (.inl rfl) rfl) rfl rfl ?_
              have u45 := grd_c hh
              replace hh := grd_t hh
              refine TL.v rfl (OpVal.elVw hv113 (by omega) (OpVal.indexN rfl Try.underlying27 sz9 rfl rfl hv113.sl (by omega))) rfl rfl ?_
              refine TL.v rfl (OpVal.loadO1 ([] : List UInt8) rfl ag9 rfl (q := 0) rfl encS_len (by omega) rfl) rfl rfl ?_
              have u47 := grd_c hh
              replace hh := grd_t hh
              refine TL.isSl (i := 0) rfl (fun hs132 _ _ => ?_)
              refine TL.v rfl (OpVal.indexN rfl Try.underlying27 sz9 rfl rfl hs132 (by omega)) rfl rfl ?_
              have hn133 : (l122.set k124 (nth l122 (k105 + k125) ([] : List UInt8))).length = x0.length := by rw [List.length_set]; exact hn123
              refine TL.op rfl (OpOk.storeS (nth l122 (k105 + k125) ([] : List UInt8)) rfl sz9 rfl rfl rfl rfl encS_len encS_one (by omega) (by omega) ?_)
              refine TL.nil ?_
              refine S.n ?_
              refine TC.region ?_
              refine TL.v rfl (OpVal.moveI (.inl rfl) rfl) rfl rfl ?_
              refine TL.v rfl (OpVal.succ rfl rfl rfl (by omega)) rfl rfl ?_
              refine TL.v rfl (OpVal.moveI (.inr rfl) rfl) rfl rfl ?_
              refine TL.nil ?_
              refine B.n ?_
              refine S.n ?_
              refine ⟨by repeat (first | exact Agr.refl _ _ | exact Agr.mask | refine Agr.upd rfl ?_ | refine Agr.maskIn rfl ?_ | refine Agr.upds rfl ?_), (((l122.set k124 (nth l122 (k105 + k125) ([] : List UInt8))), (k124 + 1)), ()), ⟨hh, hn133⟩, by repeat (first | exact trivial | refine ⟨rfl, ?_⟩), Sub.pre 1 rfl, rfl⟩
            · replace hh := iteO_f h131 hh
              replace h131 := of_decide_eq_false h131
              refine TC.skip ?_
              refine B.n ?_
              refine S.n ?_
              refine ⟨by repeat (first | exact Agr.refl _ _ | exact Agr.mask | refine Agr.upd rfl ?_ | refine Agr.maskIn rfl ?_ | refine Agr.upds rfl ?_), ((l122, k124), ()), ⟨hh, hn123⟩, by repeat (first | exact trivial | refine ⟨rfl, ?_⟩), Sub.pre 1 rfl, rfl⟩
          · skip
            obtain ⟨⟨l128, k130⟩, _⟩ := g
            obtain ⟨hh, hn129⟩ := hg
            try dsimp only at hn129
            show TC _ _ _ (upds (mask _ j _) [(3, .int .i64 ((k130 : Nat) : Int))]) _ [Res.rowS 9 1 encS (.slice a0_1 x0.length c0_2) l128]
            dsimp only [compactS_j1] at hh
            have hn129b := hn129
            refine TC.isSl (i := 0) rfl (fun _ hb134 _ => ?_)
            refine TC.region ?_
            refine TL.v rfl (OpVal.moveI (.inl rfl) rfl) rfl rfl ?_
            refine TL.v rfl (OpVal.succ rfl rfl rfl (by omega)) rfl rfl ?_
            refine TL.v rfl (OpVal.moveI (.inr rfl) rfl) rfl rfl ?_
            refine TL.nil ?_
            refine S.n ?_
            obtain ⟨hh, hlt135⟩ := nxt_x hR2 hh
            refine ⟨by repeat (first | exact Agr.refl _ _ | exact Agr.mask | refine Agr.upd rfl ?_ | refine Agr.maskIn rfl ?_ | refine Agr.upds rfl ?_), ((l128, k130, (k125 + 1)), ()), hlt135, ⟨hh, hn129⟩, by repeat (first | exact trivial | refine ⟨rfl, ?_⟩), Sub.pre 1 rfl, rfl⟩
        · replace hh := iteO_f h127 hh
          replace h127 := of_decide_eq_false h127
          refine TC.exit ?_
          refine S.x ?_
          refine S.x ?_
          replace hh := fin_x hR2 hh
          refine TC.exitHere ?_
          refine S.n ?_
          refine TC.seq ?_
          refine TC.region ?_
          refine TL.v rfl (OpVal.moveSl (.inl rfl) rfl) rfl rfl ?_
          refine TL.v rfl (OpVal.moveI (.inl rfl) rfl) rfl rfl ?_
          have u57 := grd_c hh
          replace hh := grd_t hh
          refine TL.isSl (i := 0) rfl (fun hs136 _ _ => ?_)
          rw [hn123] at hs136
          obtain ⟨a136, c136, hv136, ho136⟩ := vw_of (k := k124) (size := 1) hs136 (by omega)
          refine TL.v rfl (ho136 rfl Try.underlying27 sz9 rfl rfl) rfl rfl ?_
          have hn137 : (l122.take k124 ++ List.replicate (l122.length - k124) ([] : List UInt8)).length = x0.length := by simp only [List.length_append, List.length_take, List.length_replicate]; omega
          refine TL.op rfl (OpOk.clearV (k := k124) ([] : List UInt8) rfl Try.underlying27 ze9 rfl rfl hv136 (by omega) (by omega) encS_len (by decide) rfl encS_one ?_)
          refine TL.nil ?_
          refine S.n ?_
          refine TC.seq ?_
          refine TC.region ?_
          refine TL.v rfl (OpVal.moveSl (.inl rfl) rfl) rfl rfl ?_
          refine TL.v rfl (OpVal.moveI (.inl rfl) rfl) rfl rfl ?_
          rw [← hn137]
          have u61 := grd_c hh
          replace hh := grd_t hh
          refine TL.op rfl (OpOk.cutS rfl Try.underlying27 sz9 rfl rfl rfl rfl rfl (by omega) encS_len ?_)
          refine TL.v rfl (OpVal.moveSl (.inr rfl) rfl) rfl rfl ?_
          refine TL.nil ?_
          refine S.n ?_
          refine TC.ret ?_
          refine B.r ?_
          refine S.r ?_
          refine S.r ?_
          replace hh := fin_x hR1 hh
          refine B.r ?_
          refine S.r ?_
          obtain rfl := Option.some.inj hh
          exact RetOk.mk' (rs := [.tmp 2]) [Res.rowS 9 1 encS (.slice a0_1 ((l122.take k124 ++ List.replicate (l122.length - k124) ([] : List UInt8)).take k124).length c0_2) ((l122.take k124 ++ List.replicate (l122.length - k124) ([] : List UInt8)).take k124)] rfl (.inl rfl) (RVs.tmp rfl RVs.nil) (List.sublist_append_left _ _) ⟨a0_1, c0_2, rfl, rfl, rfl⟩
      · replace hh := iteO_f h112 hh
        replace h112 := of_decide_eq_false h112
        refine TC.skip ?_
        refine B.n ?_
        refine S.n ?_
        refine TC.region ?_
        refine TL.v rfl (OpVal.moveI (.inl rfl) rfl) rfl rfl ?_
        refine TL.v rfl (OpVal.succ rfl rfl rfl (by omega)) rfl rfl ?_
        refine TL.v rfl (OpVal.moveI (.inr rfl) rfl) rfl rfl ?_
        refine TL.nil ?_
        refine S.n ?_
        obtain ⟨hh, hlt138⟩ := nxt_x hR1 hh
        refine ⟨by repeat (first | exact Agr.refl _ _ | exact Agr.mask | refine Agr.upd rfl ?_ | refine Agr.maskIn rfl ?_ | refine Agr.upds rfl ?_), ((k105 + 1), ()), hlt138, hh, by repeat (first | exact trivial | refine ⟨rfl, ?_⟩), Sub.pre 1 rfl, rfl⟩
    · replace hh := iteO_f h107 hh
      replace h107 := of_decide_eq_false h107
      refine TC.exit ?_
      refine S.x ?_
      refine S.x ?_
      replace hh := fin_x hR1 hh
      refine TC.exitHere ?_
      refine S.n ?_
      refine TC.seq ?_
      refine TC.region ?_
      refine TL.v rfl (OpVal.moveSl (.inl rfl) rfl) rfl rfl ?_
      refine TL.v rfl (OpVal.moveSl (.inr rfl) rfl) rfl rfl ?_
      refine TL.nil ?_
      refine S.n ?_
      refine TC.ret ?_
      obtain rfl := Option.some.inj hh
      exact RetOk.mk' (rs := [.tmp 2]) [Res.rowS 9 1 encS (.slice a0_1 x0.length c0_2) x0] rfl (.inl rfl) (RVs.tmp rfl RVs.nil) (List.sublist_append_left _ _) ⟨a0_1, c0_2, rfl, rfl, rfl⟩

theorem cloneI_con {σ : Store} {a : Option Addr} {c : Nat} {l : List Int} (hl : RS σ 1 Go.E.encI (.slice a l.length c) l) (hsz : l.length * 8 ≤ 140737488355328) :
    Con Try.prog 69 #[.slice a l.length c] σ [] (RowP 3 1 Go.E.encI l σ) := by
  have hb := hl.rv.big
  refine Con.mk (n := 8) Try.func69 rfl rfl rfl (fun w0 => ?_)
  refine TC.seq ?_
  refine TC.region ?_
  refine TL.v rfl (OpVal.moveSl (.inr rfl) rfl) rfl rfl ?_
  refine TL.nilS 3 1 Go.E.encI ?_
  refine TL.nil ?_
  refine S.n ?_
  refine TC.seq ?_
  refine TC.seq ?_
  refine TC.region ?_
  refine TL.v rfl (OpVal.moveSl (.inl rfl) rfl) rfl rfl ?_
  refine TL.v rfl (OpVal.eqlNilSl rfl Try.underlying47 rfl rfl) rfl rfl ?_
  refine TL.nil ?_
  refine S.n ?_
  refine TC.cond rfl (fun h2 => ?_) (fun h2 => ?_)
  · refine TC.seq ?_
    refine TC.region ?_
    refine TL.v rfl (OpVal.moveSl (.inr rfl) rfl) rfl rfl ?_
    refine TL.nilS 3 1 Go.E.encI ?_
    refine TL.nil ?_
    refine S.n ?_
    refine TC.ret ?_
    refine S.r ?_
    cases a with
    | some _ => simp at h2
    | none =>
      obtain rfl := hl.none_nil
      exact ret1R rfl rfl
  · refine TC.skip ?_
    refine S.n ?_
    refine TC.seq ?_
    refine TC.region ?_
    refine TL.op rfl (OpOk.lit0 (enc := Go.E.encI) rfl rfl Try.underlying47 sz3 rfl rfl (fun a4 c5 => ?_))
    refine TL.v rfl (OpVal.moveSl (.inl rfl) rfl) rfl rfl ?_
    refine TL.op rfl (OpOk.appendS rfl rfl Try.underlying47 sz3 by3 ze3 rfl rfl (by decide) rfl rfl rfl (.inl hl) (by simpa using hsz) (by decide) (fun a7 c8 => ?_))
    refine TL.v rfl (OpVal.moveSl (.inr rfl) rfl) rfl rfl ?_
    refine TL.nil ?_
    refine S.n ?_
    refine TC.ret ?_
    exact ret1R rfl rfl

noncomputable def compactI_j1 (k125 : Nat) (l128 : List Int) (k130 : Nat) : Option (((List Int) × Nat × Nat) ⊕ ((Nat) ⊕ ((List Int)))) :=
  nxt (l128, k130, (k125 + 1))
noncomputable def compactI_b2 (x0 : List Int) (k105 : Nat) (l122 : List Int) (k124 : Nat) (k125 : Nat) : Option (((List Int) × Nat × Nat) ⊕ ((Nat) ⊕ ((List Int)))) :=
  iteO (decide (((k125 : Nat) : Int) < (((x0.length - k105) : Nat) : Int))) (grd (k125 < (x0.length - k105)) (grd (0 ≤ (IntKind.i64.wrap (((k125 : Nat) : Int) - 1)) ∧ (IntKind.i64.wrap (((k125 : Nat) : Int) - 1)) < ((x0.length - k105) : Nat)) (iteO (decide ((nth l122 (k105 + k125) (0 : Int)) ≠ (nth l122 (k105 + (IntKind.i64.wrap (((k125 : Nat) : Int) - 1)).toNat) (0 : Int)))) (grd (k125 < (x0.length - k105)) (grd (k124 < l122.length) (compactI_j1 k125 (l122.set k124 (nth l122 (k105 + k125) (0 : Int))) (k124 + 1)))) (compactI_j1 k125 l122 k124)))) (fin (grd (k124 ≤ x0.length) (grd (k124 ≤ (l122.take k124 ++ List.replicate (l122.length - k124) (0 : Int)).length) (fin (some ((l122.take k124 ++ List.replicate (l122.length - k124) (0 : Int)).take k124))))))
noncomputable def compactI_b1 (x0 : List Int) (k105 : Nat) : Option ((Nat) ⊕ ((List Int))) :=
  iteO (decide (((k105 : Nat) : Int) < ((x0.length : Nat) : Int))) (grd (0 ≤ (IntKind.i64.wrap (((k105 : Nat) : Int) - 1)) ∧ (IntKind.i64.wrap (((k105 : Nat) : Int) - 1)) < (x0.length : Int)) (iteO (decide ((nth x0 k105 (0 : Int)) = (nth x0 ((IntKind.i64.wrap (((k105 : Nat) : Int) - 1)).toNat) (0 : Int)))) (grd (k105 ≤ x0.length) (iter (fun q : (List Int) × Nat × Nat => compactI_b2 x0 k105 q.1 q.2.1 q.2.2) (x0, k105, 1))) (nxt (k105 + 1)))) (fin (some x0))
noncomputable def compactI (x0 : List Int) : Option ((List Int)) :=
  iteO (decide (((x0.length : Nat) : Int) < 2)) (some x0) (iter (fun q : Nat => compactI_b1 x0 q) 1)
theorem compactI_con {σ : Store} {x0 : List Int} {a0_1 : Option Addr} {c0_2 : Nat}  {r : (List Int)} (hh : compactI x0 = some r) :
    Con Try.prog 71 #[.slice a0_1 x0.length c0_2] σ [Res.rowS 3 1 Go.E.encI (.slice a0_1 x0.length c0_2) x0] (fun v σ' H' => ∃ (a1 : Option Addr), ∃ (c1 : Nat), v = .slice a1 r.length c1 ∧ σ = σ' ∧ H' = [Res.rowS 3 1 Go.E.encI (.slice a1 r.length c1) r]) := by
  dsimp only [compactI] at hh
  refine Con.mk (n := 61) Try.func71 rfl rfl rfl (fun w0 => ?_)
  refine TC.seq ?_
  refine TC.region ?_
  refine TL.v rfl (OpVal.moveSl (.inr rfl) rfl) rfl rfl ?_
  refine TL.nil ?_
  refine S.n ?_
  refine TC.seq ?_
  refine TC.seq ?_
  refine TC.region ?_
  refine TL.v rfl (OpVal.moveSl (.inl rfl) rfl) rfl rfl ?_
  refine TL.v rfl (OpVal.lenC rfl Try.underlying47 rfl) rfl rfl ?_
  refine TL.v rfl (OpVal.lss rfl rfl rfl) rfl rfl ?_
  refine TL.nil ?_
  refine S.n ?_
  refine TC.cond rfl (fun h102 => ?_) (fun h102 => ?_)
  · replace hh := iteO_t h102 hh
    replace h102 := of_decide_eq_true h102
    refine TC.seq ?_
    refine TC.region ?_
    refine TL.v rfl (OpVal.moveSl (.inl rfl) rfl) rfl rfl ?_
    refine TL.v rfl (OpVal.moveSl (.inr rfl) rfl) rfl rfl ?_
    refine TL.nil ?_
    refine S.n ?_
    refine TC.ret ?_
    refine S.r ?_
    obtain rfl := Option.some.inj hh
    exact RetOk.mk' (rs := [.tmp 2]) [Res.rowS 3 1 Go.E.encI (.slice a0_1 x0.length c0_2) x0] rfl (.inl rfl) (RVs.tmp rfl RVs.nil) (List.sublist_append_left _ _) ⟨a0_1, c0_2, rfl, rfl, rfl⟩
  · replace hh := iteO_f h102 hh
    replace h102 := of_decide_eq_false h102
    refine TC.skip ?_
    refine S.n ?_
    refine TC.seq ?_
    refine TC.seq ?_
    refine TC.region ?_
    refine TL.v rfl (OpVal.moveI (.inr rfl) rfl) rfl rfl ?_
    refine TL.nil ?_
    refine S.n ?_
    refine TC.block ?_
    refine TC.loopG (α := (Nat) × (Unit)) [2, 3, 4, 5, 10, 11, 12, 13, 14, 15, 16, 17, 18, 19, 20, 21, 22, 23, 24, 25, 26, 27, 28, 29, 30, 31, 32, 33, 34, 35, 36, 37, 38, 39, 40, 41, 42, 43, 44, 45, 46, 47, 48, 49, 50, 51, 52, 53, 54, 55, 56, 57, 58, 59] (fun g => [(3, .int .i64 ((g.1 : Nat) : Int))]) (fun g => [Res.rowS 3 1 Go.E.encI (.slice a0_1 x0.length c0_2) x0]) (fun g => σ) (fun g => iter (fun q : Nat => compactI_b1 x0 q) g.1 = some r) (fun g => rounds (fun q : Nat => compactI_b1 x0 q) g.1) (1, ()) (Sub.pre 1 rfl) rfl (by repeat (first | exact trivial | refine ⟨rfl, ?_⟩)) hh (fun g1 j1 hg1 => ?_)
    obtain ⟨k105, _⟩ := g1
    have hh := hg1; clear hg1
    show TC _ _ _ (upds (mask _ j1 _) [(3, .int .i64 ((k105 : Nat) : Int))]) _ [Res.rowS 3 1 Go.E.encI (.slice a0_1 x0.length c0_2) x0]
    obtain ⟨z1, hh, hR1⟩ := iter_e hh
    dsimp only [compactI_b1] at hh
    refine TC.isSl (i := 0) rfl (fun _ hb106 _ => ?_)
    refine TC.seq ?_
    refine TC.seq ?_
    refine TC.region ?_
    refine TL.v rfl (OpVal.moveI (.inl rfl) rfl) rfl rfl ?_
    refine TL.v rfl (OpVal.moveSl (.inl rfl) rfl) rfl rfl ?_
    refine TL.v rfl (OpVal.lenC rfl Try.underlying47 rfl) rfl rfl ?_
    refine TL.v rfl (OpVal.lss rfl rfl rfl) rfl rfl ?_
    refine TL.nil ?_
    refine S.n ?_
    refine TC.cond rfl (fun h107 => ?_) (fun h107 => ?_)
    · replace hh := iteO_t h107 hh
      replace h107 := of_decide_eq_true h107
      refine TC.skip ?_
      refine S.n ?_
      refine TC.seq ?_
      refine TC.block ?_
      refine TC.seq ?_
      have u19 := grd_c hh
      replace hh := grd_t hh
      refine TC.draw [] (by kernel_rfl) ?_
      refine TA.takeP 0 rfl (by kernel_rfl) (by kernel_rfl) (by kernel_rfl) rfl (OpVal.moveSl (.inl rfl) rfl) rfl rfl ?_
      refine TA.takeP 1 rfl (by kernel_rfl) (by kernel_rfl) (by kernel_rfl) rfl (OpVal.moveI (.inl rfl) rfl) rfl rfl ?_
      refine TA.isSl (i := 0) rfl (fun hs110 _ _ => ?_)
      refine TA.take 2 rfl (by kernel_rfl) (by kernel_rfl) (by kernel_rfl) (by kernel_rfl) rfl (OpVal.indexN rfl Try.underlying47 sz3 rfl rfl hs110 (by omega)) rfl rfl ?_
      refine TA.take 3 rfl (by kernel_rfl) (by kernel_rfl) (by kernel_rfl) (by kernel_rfl) rfl (OpVal.loadO1 (0 : Int) rfl ag3 rfl (q := 0) rfl Go.E.encI_len (by omega) rfl) rfl rfl ?_
      refine TA.takeP 4 rfl (by kernel_rfl) (by kernel_rfl) (by kernel_rfl) rfl (OpVal.moveSl (.inl rfl) rfl) rfl rfl ?_
      refine TA.takeP 5 rfl (by kernel_rfl) (by kernel_rfl) (by kernel_rfl) rfl (OpVal.moveI (.inl rfl) rfl) rfl rfl ?_
      refine TA.takeP 6 rfl (by kernel_rfl) (by kernel_rfl) (by kernel_rfl) rfl (OpVal.subW rfl rfl rfl) rfl rfl ?_
      refine TA.isSl (i := 0) rfl (fun hs111 _ _ => ?_)
      refine TA.take 7 rfl (by kernel_rfl) (by kernel_rfl) (by kernel_rfl) (by kernel_rfl) rfl (OpVal.index rfl Try.underlying47 sz3 rfl rfl hs111 u19.1 u19.2) rfl rfl ?_
      refine TA.take 8 rfl (by kernel_rfl) (by kernel_rfl) (by kernel_rfl) (by kernel_rfl) rfl (OpVal.loadO1 (0 : Int) rfl ag3 rfl (q := 0) rfl Go.E.encI_len (by omega) rfl) rfl rfl ?_
      refine TA.takeP 9 rfl (by kernel_rfl) (by kernel_rfl) (by kernel_rfl) rfl (OpVal.eql rfl rfl rfl) rfl rfl ?_
      refine TA.done (by kernel_rfl) ?_
      refine S.n ?_
      refine TC.cond rfl (fun h112 => ?_) (fun h112 => ?_)
      · replace hh := iteO_t h112 hh
        replace h112 := of_decide_eq_true h112
        refine TC.seq ?_
        refine TC.region ?_
        refine TL.v rfl (OpVal.moveSl (.inl rfl) rfl) rfl rfl ?_
        refine TL.v rfl (OpVal.moveI (.inl rfl) rfl) rfl rfl ?_
        have u24 := grd_c hh
        replace hh := grd_t hh
        refine TL.isSl (i := 0) rfl (fun hs113 _ _ => ?_)
        obtain ⟨a113, c113, hv113, ho113⟩ := vw_of (k := k105) (size := 1) hs113 (by omega)
        refine TL.v rfl (ho113 rfl Try.underlying47 sz3 rfl rfl) rfl rfl ?_
        refine TL.v rfl (OpVal.moveSl (.inr rfl) rfl) rfl rfl ?_
        refine TL.nil ?_
        refine S.n ?_
        refine TC.seq ?_
        refine TC.seq ?_
        refine TC.region ?_
        refine TL.v rfl (OpVal.moveI (.inr rfl) rfl) rfl rfl ?_
        refine TL.nil ?_
        refine S.n ?_
        refine TC.block ?_
        refine TC.loopG (α := ((List Int) × Nat × Nat) × (Unit)) [3, 5, 29, 30, 31, 32, 33, 34, 35, 36, 37, 38, 39, 40, 41, 42, 43, 44, 45, 46, 47, 48, 49, 50, 51, 52, 53] (fun g => [(3, .int .i64 ((g.1.2.1 : Nat) : Int)), (5, .int .i64 ((g.1.2.2 : Nat) : Int))]) (fun g => [Res.rowS 3 1 Go.E.encI (.slice a0_1 x0.length c0_2) g.1.1]) (fun g => σ) (fun g => iter (fun q : (List Int) × Nat × Nat => compactI_b2 x0 k105 q.1 q.2.1 q.2.2) g.1 = some z1 ∧ g.1.1.length = x0.length) (fun g => rounds (fun q : (List Int) × Nat × Nat => compactI_b2 x0 k105 q.1 q.2.1 q.2.2) g.1) ((x0, k105, 1), ()) (Sub.pre 1 rfl) rfl (by repeat (first | exact trivial | refine ⟨rfl, ?_⟩)) ⟨hh, rfl⟩ (fun g2 j2 hg2 => ?_)
        obtain ⟨⟨l122, k124, k125⟩, _⟩ := g2
        obtain ⟨hh, hn123⟩ := hg2
        try dsimp only at hn123
        show TC _ _ _ (upds (mask _ j2 _) [(3, .int .i64 ((k124 : Nat) : Int)), (5, .int .i64 ((k125 : Nat) : Int))]) _ [Res.rowS 3 1 Go.E.encI (.slice a0_1 x0.length c0_2) l122]
        obtain ⟨z2, hh, hR2⟩ := iter_e hh
        dsimp only [compactI_b2] at hh
        have hn123b := hn123
        refine TC.isSl (i := 0) rfl (fun _ hb126 _ => ?_)
        refine TC.seq ?_
        refine TC.seq ?_
        refine TC.region ?_
        refine TL.v rfl (OpVal.moveI (.inl rfl) rfl) rfl rfl ?_
        refine TL.v rfl (OpVal.moveSl (.inl rfl) rfl) rfl rfl ?_
        refine TL.v rfl (OpVal.lenC rfl Try.underlying47 rfl) rfl rfl ?_
        refine TL.v rfl (OpVal.lss rfl rfl rfl) rfl rfl ?_
        refine TL.nil ?_
        refine S.n ?_
        refine TC.cond rfl (fun h127 => ?_) (fun h127 => ?_)
        · replace hh := iteO_t h127 hh
          replace h127 := of_decide_eq_true h127
          refine TC.skip ?_
          refine S.n ?_
          refine TC.cutG (α := ((List Int) × Nat) × (Unit)) [3, 35, 36, 37, 38, 39, 40, 41, 42, 43, 44, 45, 46, 47, 48, 49, 50, 51, 52, 53] (fun g => [(3, .int .i64 ((g.1.2 : Nat) : Int))]) (fun g => [Res.rowS 3 1 Go.E.encI (.slice a0_1 x0.length c0_2) g.1.1]) (fun g => σ) (fun g => compactI_j1 k125 g.1.1 g.1.2 = some z2 ∧ g.1.1.length = x0.length) ?_ (fun g j hg => ?_)
          · skip
            refine TC.block ?_
            refine TC.seq ?_
            have u33 := grd_c hh
            replace hh := grd_t hh
            have u38 := grd_c hh
            replace hh := grd_t hh
            refine TC.draw [] (by kernel_rfl) ?_
            refine TA.takeP 0 rfl (by kernel_rfl) (by kernel_rfl) (by kernel_rfl) rfl (OpVal.moveSl (.inl rfl) rfl) rfl rfl ?_
            refine TA.takeP 1 rfl (by kernel_rfl) (by kernel_rfl) (by kernel_rfl) rfl (OpVal.moveI (.inl rfl) rfl) rfl rfl ?_
            refine TA.take 2 rfl (by kernel_rfl) (by kernel_rfl) (by kernel_rfl) (by kernel_rfl) rfl (OpVal.elVw hv113 (by omega) (OpVal.indexN rfl Try.underlying47 sz3 rfl rfl hv113.sl (by omega))) rfl rfl ?_
            refine TA.take 3 rfl (by kernel_rfl) (by kernel_rfl) (by kernel_rfl) (by kernel_rfl) rfl (OpVal.loadO1 (0 : Int) rfl ag3 rfl (q := 0) rfl Go.E.encI_len (by omega) rfl) rfl rfl ?_
            refine TA.takeP 4 rfl (by kernel_rfl) (by kernel_rfl) (by kernel_rfl) rfl (OpVal.moveSl (.inl rfl) rfl) rfl rfl ?_
            refine TA.takeP 5 rfl (by kernel_rfl) (by kernel_rfl) (by kernel_rfl) rfl (OpVal.moveI (.inl rfl) rfl) rfl rfl ?_
            refine TA.takeP 6 rfl (by kernel_rfl) (by kernel_rfl) (by kernel_rfl) rfl (OpVal.subW rfl rfl rfl) rfl rfl ?_
            refine TA.take 7 rfl (by kernel_rfl) (by kernel_rfl) (by kernel_rfl) (by kernel_rfl) rfl (OpVal.elVw hv113 (by omega) (OpVal.index rfl Try.underlying47 sz3 rfl rfl hv113.sl u38.1 u38.2)) rfl rfl ?_
            refine TA.take 8 rfl (by kernel_rfl) (by kernel_rfl) (by kernel_rfl) (by kernel_rfl) rfl (OpVal.loadO1 (0 : Int) rfl ag3 rfl (q := 0) rfl Go.E.encI_len (by omega) rfl) rfl rfl ?_
            refine TA.takeP 9 rfl (by kernel_rfl) (by kernel_rfl) (by kernel_rfl) rfl (OpVal.neq rfl rfl rfl) rfl rfl ?_
            refine TA.done (by kernel_rfl) ?_
            refine S.n ?_
            refine TC.cond rfl (fun h131 => ?_) (fun h131 => ?_)
            · replace hh := iteO_t h131 hh
              replace h131 := of_decide_eq_true h131
              refine TC.seq ?_
              refine TC.region ?_
              refine TL.v rfl (OpVal.moveSl (.inl rfl) rfl) rfl rfl ?_
              refine TL.v rfl (OpVal.moveI (.inl rfl) rfl) rfl rfl ?_
              refine TL.v rfl (OpVal.moveSl (.inl rfl) rfl) rfl rfl ?_
              refine TL.v rfl (OpVal.moveI (.inl rfl) rfl) rfl rfl ?_
              have u45 := grd_c hh
              replace hh := grd_t hh
              refine TL.v rfl (OpVal.elVw hv113 (by omega) (OpVal.indexN rfl Try.underlying47 sz3 rfl rfl hv113.sl (by omega))) rfl rfl ?_
              refine TL.v rfl (OpVal.loadO1 (0 : Int) rfl ag3 rfl (q := 0) rfl Go.E.encI_len (by omega) rfl) rfl rfl ?_
              have u47 := grd_c hh
              replace hh := grd_t hh
              refine TL.isSl (i := 0) rfl (fun hs132 _ _ => ?_)
              refine TL.v rfl (OpVal.indexN rfl Try.underlying47 sz3 rfl rfl hs132 (by omega)) rfl rfl ?_
              have hn133 : (l122.set k124 (nth l122 (k105 + k125) (0 : Int))).length = x0.length := by rw [List.length_set]; exact hn123
              refine TL.op rfl (OpOk.storeS (nth l122 (k105 + k125) (0 : Int)) rfl sz3 rfl rfl rfl rfl Go.E.encI_len Go.E.encI_one (by omega) (by omega) ?_)
              refine TL.nil ?_
              refine S.n ?_
              refine TC.region ?_
              refine TL.v rfl (OpVal.moveI (.inl rfl) rfl) rfl rfl ?_
              refine TL.v rfl (OpVal.succ rfl rfl rfl (by omega)) rfl rfl ?_
              refine TL.v rfl (OpVal.moveI (.inr rfl) rfl) rfl rfl ?_
              refine TL.nil ?_
              refine B.n ?_
              refine S.n ?_
              refine ⟨by repeat (first | exact Agr.refl _ _ | exact Agr.mask | refine Agr.upd rfl ?_ | refine Agr.maskIn rfl ?_ | refine Agr.upds rfl ?_), (((l122.set k124 (nth l122 (k105 + k125) (0 : Int))), (k124 + 1)), ()), ⟨hh, hn133⟩, by repeat (first | exact trivial | refine ⟨rfl, ?_⟩), Sub.pre 1 rfl, rfl⟩
            · replace hh := iteO_f h131 hh
              replace h131 := of_decide_eq_false h131
              refine TC.skip ?_
              refine B.n ?_
              refine S.n ?_
              refine ⟨by repeat (first | exact Agr.refl _ _ | exact Agr.mask | refine Agr.upd rfl ?_ | refine Agr.maskIn rfl ?_ | refine Agr.upds rfl ?_), ((l122, k124), ()), ⟨hh, hn123⟩, by repeat (first | exact trivial | refine ⟨rfl, ?_⟩), Sub.pre 1 rfl, rfl⟩
          · skip
            obtain ⟨⟨l128, k130⟩, _⟩ := g
            obtain ⟨hh, hn129⟩ := hg
            try dsimp only at hn129
            show TC _ _ _ (upds (mask _ j _) [(3, .int .i64 ((k130 : Nat) : Int))]) _ [Res.rowS 3 1 Go.E.encI (.slice a0_1 x0.length c0_2) l128]
            dsimp only [compactI_j1] at hh
            have hn129b := hn129
            refine TC.isSl (i := 0) rfl (fun _ hb134 _ => ?_)
            refine TC.region ?_
            refine TL.v rfl (OpVal.moveI (.inl rfl) rfl) rfl rfl ?_
            refine TL.v rfl (OpVal.succ rfl rfl rfl (by omega)) rfl rfl ?_
            refine TL.v rfl (OpVal.moveI (.inr rfl) rfl) rfl rfl ?_
            refine TL.nil ?_
            refine S.n ?_
            obtain ⟨hh, hlt135⟩ := nxt_x hR2 hh
            refine ⟨by repeat (first | exact Agr.refl _ _ | exact Agr.mask | refine Agr.upd rfl ?_ | refine Agr.maskIn rfl ?_ | refine Agr.upds rfl ?_), ((l128, k130, (k125 + 1)), ()), hlt135, ⟨hh, hn129⟩, by repeat (first | exact trivial | refine ⟨rfl, ?_⟩), Sub.pre 1 rfl, rfl⟩
        · replace hh := iteO_f h127 hh
          replace h127 := of_decide_eq_false h127
          refine TC.exit ?_
          refine S.x ?_
          refine S.x ?_
          replace hh := fin_x hR2 hh
          refine TC.exitHere ?_
          refine S.n ?_
          refine TC.seq ?_
          refine TC.region ?_
          refine TL.v rfl (OpVal.moveSl (.inl rfl) rfl) rfl rfl ?_
          refine TL.v rfl (OpVal.moveI (.inl rfl) rfl) rfl rfl ?_
          have u57 := grd_c hh
          replace hh := grd_t hh
          refine TL.isSl (i := 0) rfl (fun hs136 _ _ => ?_)
          rw [hn123] at hs136
          obtain ⟨a136, c136, hv136, ho136⟩ := vw_of (k := k124) (size := 1) hs136 (by omega)
          refine TL.v rfl (ho136 rfl Try.underlying47 sz3 rfl rfl) rfl rfl ?_
          have hn137 : (l122.take k124 ++ List.replicate (l122.length - k124) (0 : Int)).length = x0.length := by simp only [List.length_append, List.length_take, List.length_replicate]; omega
          refine TL.op rfl (OpOk.clearV (k := k124) (0 : Int) rfl Try.underlying47 ze3 rfl rfl hv136 (by omega) (by omega) Go.E.encI_len (by decide) rfl Go.E.encI_one ?_)
          refine TL.nil ?_
          refine S.n ?_
          refine TC.seq ?_
          refine TC.region ?_
          refine TL.v rfl (OpVal.moveSl (.inl rfl) rfl) rfl rfl ?_
          refine TL.v rfl (OpVal.moveI (.inl rfl) rfl) rfl rfl ?_
          rw [← hn137]
          have u61 := grd_c hh
          replace hh := grd_t hh
          refine TL.op rfl (OpOk.cutS rfl Try.underlying47 sz3 rfl rfl rfl rfl rfl (by omega) Go.E.encI_len ?_)
          refine TL.v rfl (OpVal.moveSl (.inr rfl) rfl) rfl rfl ?_
          refine TL.nil ?_
          refine S.n ?_
          refine TC.ret ?_
          refine B.r ?_
          refine S.r ?_
          refine S.r ?_
          replace hh := fin_x hR1 hh
          refine B.r ?_
          refine S.r ?_
          obtain rfl := Option.some.inj hh
          exact RetOk.mk' (rs := [.tmp 2]) [Res.rowS 3 1 Go.E.encI (.slice a0_1 ((l122.take k124 ++ List.replicate (l122.length - k124) (0 : Int)).take k124).length c0_2) ((l122.take k124 ++ List.replicate (l122.length - k124) (0 : Int)).take k124)] rfl (.inl rfl) (RVs.tmp rfl RVs.nil) (List.sublist_append_left _ _) ⟨a0_1, c0_2, rfl, rfl, rfl⟩
      · replace hh := iteO_f h112 hh
        replace h112 := of_decide_eq_false h112
        refine TC.skip ?_
        refine B.n ?_
        refine S.n ?_
        refine TC.region ?_
        refine TL.v rfl (OpVal.moveI (.inl rfl) rfl) rfl rfl ?_
        refine TL.v rfl (OpVal.succ rfl rfl rfl (by omega)) rfl rfl ?_
        refine TL.v rfl (OpVal.moveI (.inr rfl) rfl) rfl rfl ?_
        refine TL.nil ?_
        refine S.n ?_
        obtain ⟨hh, hlt138⟩ := nxt_x hR1 hh
        refine ⟨by repeat (first | exact Agr.refl _ _ | exact Agr.mask | refine Agr.upd rfl ?_ | refine Agr.maskIn rfl ?_ | refine Agr.upds rfl ?_), ((k105 + 1), ()), hlt138, hh, by repeat (first | exact trivial | refine ⟨rfl, ?_⟩), Sub.pre 1 rfl, rfl⟩
    · replace hh := iteO_f h107 hh
      replace h107 := of_decide_eq_false h107
      refine TC.exit ?_
      refine S.x ?_
      refine S.x ?_
      replace hh := fin_x hR1 hh
      refine TC.exitHere ?_
      refine S.n ?_
      refine TC.seq ?_
      refine TC.region ?_
      refine TL.v rfl (OpVal.moveSl (.inl rfl) rfl) rfl rfl ?_
      refine TL.v rfl (OpVal.moveSl (.inr rfl) rfl) rfl rfl ?_
      refine TL.nil ?_
      refine S.n ?_
      refine TC.ret ?_
      obtain rfl := Option.some.inj hh
      exact RetOk.mk' (rs := [.tmp 2]) [Res.rowS 3 1 Go.E.encI (.slice a0_1 x0.length c0_2) x0] rfl (.inl rfl) (RVs.tmp rfl RVs.nil) (List.sublist_append_left _ _) ⟨a0_1, c0_2, rfl, rfl, rfl⟩

theorem cloneT_con {σ : Store} {a : Option Addr} {c : Nat} {l : List Tip} (hl : RS σ 2 encTip (.slice a l.length c) l) (hsz : l.length * 24 ≤ 140737488355328) :
    Con Try.prog 49 #[.slice a l.length c] σ [] (RowP 57 2 encTip l σ) := by
  have hb := hl.rv.big
  refine Con.mk (n := 8) Try.func49 rfl rfl rfl (fun w0 => ?_)
  refine TC.seq ?_
  refine TC.region ?_
  refine TL.v rfl (OpVal.moveSl (.inr rfl) rfl) rfl rfl ?_
  refine TL.nilS 57 2 encTip ?_
  refine TL.nil ?_
  refine S.n ?_
  refine TC.seq ?_
  refine TC.seq ?_
  refine TC.region ?_
  refine TL.v rfl (OpVal.moveSl (.inl rfl) rfl) rfl rfl ?_
  refine TL.v rfl (OpVal.eqlNilSl rfl Try.underlying22 rfl rfl) rfl rfl ?_
  refine TL.nil ?_
  refine S.n ?_
  refine TC.cond rfl (fun h2 => ?_) (fun h2 => ?_)
  · refine TC.seq ?_
    refine TC.region ?_
    refine TL.v rfl (OpVal.moveSl (.inr rfl) rfl) rfl rfl ?_
    refine TL.nilS 57 2 encTip ?_
    refine TL.nil ?_
    refine S.n ?_
    refine TC.ret ?_
    refine S.r ?_
    cases a with
    | some _ => simp at h2
    | none =>
      obtain rfl := hl.none_nil
      exact ret1R rfl rfl
  · refine TC.skip ?_
    refine S.n ?_
    refine TC.seq ?_
    refine TC.region ?_
    refine TL.op rfl (OpOk.lit0 (enc := encTip) rfl rfl Try.underlying22 sz57 rfl rfl (fun a4 c5 => ?_))
    refine TL.v rfl (OpVal.moveSl (.inl rfl) rfl) rfl rfl ?_
    refine TL.op rfl (OpOk.appendS rfl rfl Try.underlying22 sz57 by57 ze57 rfl rfl (by decide) rfl rfl rfl (.inl hl) (by simpa using hsz) (by decide) (fun a7 c8 => ?_))
    refine TL.v rfl (OpVal.moveSl (.inr rfl) rfl) rfl rfl ?_
    refine TL.nil ?_
    refine S.n ?_
    refine TC.ret ?_
    exact ret1R rfl rfl

noncomputable def compactT_j1 (k125 : Nat) (l128 : List Tip) (k130 : Nat) : Option (((List Tip) × Nat × Nat) ⊕ ((Nat) ⊕ ((List Tip)))) :=
  nxt (l128, k130, (k125 + 1))
noncomputable def compactT_b2 (x0 : List Tip) (k105 : Nat) (l122 : List Tip) (k124 : Nat) (k125 : Nat) : Option (((List Tip) × Nat × Nat) ⊕ ((Nat) ⊕ ((List Tip)))) :=
  iteO (decide (((k125 : Nat) : Int) < (((x0.length - k105) : Nat) : Int))) (grd (k125 < (x0.length - k105)) (grd (0 ≤ (IntKind.i64.wrap (((k125 : Nat) : Int) - 1)) ∧ (IntKind.i64.wrap (((k125 : Nat) : Int) - 1)) < ((x0.length - k105) : Nat)) (iteO (decide (¬ ((nth l122 (k105 + k125) Tip.zero) = (nth l122 (k105 + (IntKind.i64.wrap (((k125 : Nat) : Int) - 1)).toNat) Tip.zero)))) (grd (k125 < (x0.length - k105)) (grd (k124 < l122.length) (compactT_j1 k125 (l122.set k124 (nth l122 (k105 + k125) Tip.zero)) (k124 + 1)))) (compactT_j1 k125 l122 k124)))) (fin (grd (k124 ≤ x0.length) (grd (k124 ≤ (l122.take k124 ++ List.replicate (l122.length - k124) Tip.zero).length) (fin (some ((l122.take k124 ++ List.replicate (l122.length - k124) Tip.zero).take k124))))))
noncomputable def compactT_b1 (x0 : List Tip) (k105 : Nat) : Option ((Nat) ⊕ ((List Tip))) :=
  iteO (decide (((k105 : Nat) : Int) < ((x0.length : Nat) : Int))) (grd (0 ≤ (IntKind.i64.wrap (((k105 : Nat) : Int) - 1)) ∧ (IntKind.i64.wrap (((k105 : Nat) : Int) - 1)) < (x0.length : Int)) (iteO (decide ((nth x0 k105 Tip.zero) = (nth x0 ((IntKind.i64.wrap (((k105 : Nat) : Int) - 1)).toNat) Tip.zero))) (grd (k105 ≤ x0.length) (iter (fun q : (List Tip) × Nat × Nat => compactT_b2 x0 k105 q.1 q.2.1 q.2.2) (x0, k105, 1))) (nxt (k105 + 1)))) (fin (some x0))
noncomputable def compactT (x0 : List Tip) : Option ((List Tip)) :=
  iteO (decide (((x0.length : Nat) : Int) < 2)) (some x0) (iter (fun q : Nat => compactT_b1 x0 q) 1)
theorem compactT_con {σ : Store} {x0 : List Tip} {a0_1 : Option Addr} {c0_2 : Nat}  {r : (List Tip)} (hh : compactT x0 = some r) :
    Con Try.prog 51 #[.slice a0_1 x0.length c0_2] σ [Res.rowS 57 2 encTip (.slice a0_1 x0.length c0_2) x0] (fun v σ' H' => ∃ (a1 : Option Addr), ∃ (c1 : Nat), v = .slice a1 r.length c1 ∧ σ = σ' ∧ H' = [Res.rowS 57 2 encTip (.slice a1 r.length c1) r]) := by
  dsimp only [compactT] at hh
  refine Con.mk (n := 61) Try.func51 rfl rfl rfl (fun w0 => ?_)
  refine TC.seq ?_
  refine TC.region ?_
  refine TL.v rfl (OpVal.moveSl (.inr rfl) rfl) rfl rfl ?_
  refine TL.nil ?_
  refine S.n ?_
  refine TC.seq ?_
  refine TC.seq ?_
  refine TC.region ?_
  refine TL.v rfl (OpVal.moveSl (.inl rfl) rfl) rfl rfl ?_
  refine TL.v rfl (OpVal.lenC rfl Try.underlying22 rfl) rfl rfl ?_
  refine TL.v rfl (OpVal.lss rfl rfl rfl) rfl rfl ?_
  refine TL.nil ?_
  refine S.n ?_
  refine TC.cond rfl (fun h102 => ?_) (fun h102 => ?_)
  · replace hh := iteO_t h102 hh
    replace h102 := of_decide_eq_true h102
    refine TC.seq ?_
    refine TC.region ?_
    refine TL.v rfl (OpVal.moveSl (.inl rfl) rfl) rfl rfl ?_
    refine TL.v rfl (OpVal.moveSl (.inr rfl) rfl) rfl rfl ?_
    refine TL.nil ?_
    refine S.n ?_
    refine TC.ret ?_
    refine S.r ?_
    obtain rfl := Option.some.inj hh
    exact RetOk.mk' (rs := [.tmp 2]) [Res.rowS 57 2 encTip (.slice a0_1 x0.length c0_2) x0] rfl (.inl rfl) (RVs.tmp rfl RVs.nil) (List.sublist_append_left _ _) ⟨a0_1, c0_2, rfl, rfl, rfl⟩
  · replace hh := iteO_f h102 hh
    replace h102 := of_decide_eq_false h102
    refine TC.skip ?_
    refine S.n ?_
    refine TC.seq ?_
    refine TC.seq ?_
    refine TC.region ?_
    refine TL.v rfl (OpVal.moveI (.inr rfl) rfl) rfl rfl ?_
    refine TL.nil ?_
    refine S.n ?_
    refine TC.block ?_
    refine TC.loopG (α := (Nat) × (Unit)) [2, 3, 4, 5, 10, 11, 12, 13, 14, 15, 16, 17, 18, 19, 20, 21, 22, 23, 24, 25, 26, 27, 28, 29, 30, 31, 32, 33, 34, 35, 36, 37, 38, 39, 40, 41, 42, 43, 44, 45, 46, 47, 48, 49, 50, 51, 52, 53, 54, 55, 56, 57, 58, 59] (fun g => [(3, .int .i64 ((g.1 : Nat) : Int))]) (fun g => [Res.rowS 57 2 encTip (.slice a0_1 x0.length c0_2) x0]) (fun g => σ) (fun g => iter (fun q : Nat => compactT_b1 x0 q) g.1 = some r) (fun g => rounds (fun q : Nat => compactT_b1 x0 q) g.1) (1, ()) (Sub.pre 1 rfl) rfl (by repeat (first | exact trivial | refine ⟨rfl, ?_⟩)) hh (fun g1 j1 hg1 => ?_)
    obtain ⟨k105, _⟩ := g1
    have hh := hg1; clear hg1
    show TC _ _ _ (upds (mask _ j1 _) [(3, .int .i64 ((k105 : Nat) : Int))]) _ [Res.rowS 57 2 encTip (.slice a0_1 x0.length c0_2) x0]
    obtain ⟨z1, hh, hR1⟩ := iter_e hh
    dsimp only [compactT_b1] at hh
    refine TC.isSl (i := 0) rfl (fun _ hb106 _ => ?_)
    refine TC.seq ?_
    refine TC.seq ?_
    refine TC.region ?_
    refine TL.v rfl (OpVal.moveI (.inl rfl) rfl) rfl rfl ?_
    refine TL.v rfl (OpVal.moveSl (.inl rfl) rfl) rfl rfl ?_
    refine TL.v rfl (OpVal.lenC rfl Try.underlying22 rfl) rfl rfl ?_
    refine TL.v rfl (OpVal.lss rfl rfl rfl) rfl rfl ?_
    refine TL.nil ?_
    refine S.n ?_
    refine TC.cond rfl (fun h107 => ?_) (fun h107 => ?_)
    · replace hh := iteO_t h107 hh
      replace h107 := of_decide_eq_true h107
      refine TC.skip ?_
      refine S.n ?_
      refine TC.seq ?_
      refine TC.block ?_
      refine TC.seq ?_
      have u19 := grd_c hh
      replace hh := grd_t hh
      refine TC.draw [] (by kernel_rfl) ?_
      refine TA.takeP 0 rfl (by kernel_rfl) (by kernel_rfl) (by kernel_rfl) rfl (OpVal.moveSl (.inl rfl) rfl) rfl rfl ?_
      refine TA.takeP 1 rfl (by kernel_rfl) (by kernel_rfl) (by kernel_rfl) rfl (OpVal.moveI (.inl rfl) rfl) rfl rfl ?_
      refine TA.isSl (i := 0) rfl (fun hs110 _ _ => ?_)
      refine TA.take 2 rfl (by kernel_rfl) (by kernel_rfl) (by kernel_rfl) (by kernel_rfl) rfl (OpVal.indexN rfl Try.underlying22 sz57 rfl rfl hs110 (by omega)) rfl rfl ?_
      refine TA.take 3 rfl (by kernel_rfl) (by kernel_rfl) (by kernel_rfl) (by kernel_rfl) rfl (OpVal.loadOA Tip.zero rfl ag57 sz57 rfl (q := 0) rfl encTip_len (by omega) (by omega)) rfl rfl ?_
      refine TA.takeP 4 rfl (by kernel_rfl) (by kernel_rfl) (by kernel_rfl) rfl (OpVal.moveSl (.inl rfl) rfl) rfl rfl ?_
      refine TA.takeP 5 rfl (by kernel_rfl) (by kernel_rfl) (by kernel_rfl) rfl (OpVal.moveI (.inl rfl) rfl) rfl rfl ?_
      refine TA.takeP 6 rfl (by kernel_rfl) (by kernel_rfl) (by kernel_rfl) rfl (OpVal.subW rfl rfl rfl) rfl rfl ?_
      refine TA.isSl (i := 0) rfl (fun hs111 _ _ => ?_)
      refine TA.take 7 rfl (by kernel_rfl) (by kernel_rfl) (by kernel_rfl) (by kernel_rfl) rfl (OpVal.index rfl Try.underlying22 sz57 rfl rfl hs111 u19.1 u19.2) rfl rfl ?_
      refine TA.take 8 rfl (by kernel_rfl) (by kernel_rfl) (by kernel_rfl) (by kernel_rfl) rfl (OpVal.loadOA Tip.zero rfl ag57 sz57 rfl (q := 0) rfl encTip_len (by omega) (by omega)) rfl rfl ?_
      refine TA.takeP 9 rfl (by kernel_rfl) (by kernel_rfl) (by kernel_rfl) rfl (OpVal.eqlSt (p := (nth x0 k105 Tip.zero) = (nth x0 ((IntKind.i64.wrap (((k105 : Nat) : Int) - 1)).toNat) Tip.zero)) rfl rfl rfl eg57 (es57 (nth x0 k105 Tip.zero) (nth x0 ((IntKind.i64.wrap (((k105 : Nat) : Int) - 1)).toNat) Tip.zero)) rfl) rfl rfl ?_
      refine TA.done (by kernel_rfl) ?_
      refine S.n ?_
      refine TC.cond rfl (fun h112 => ?_) (fun h112 => ?_)
      · replace hh := iteO_t h112 hh
        replace h112 := of_decide_eq_true h112
        refine TC.seq ?_
        refine TC.region ?_
        refine TL.v rfl (OpVal.moveSl (.inl rfl) rfl) rfl rfl ?_
        refine TL.v rfl (OpVal.moveI (.inl rfl) rfl) rfl rfl ?_
        have u24 := grd_c hh
        replace hh := grd_t hh
        refine TL.isSl (i := 0) rfl (fun hs113 _ _ => ?_)
        obtain ⟨a113, c113, hv113, ho113⟩ := vw_of (k := k105) (size := 2) hs113 (by omega)
        refine TL.v rfl (ho113 rfl Try.underlying22 sz57 rfl rfl) rfl rfl ?_
        refine TL.v rfl (OpVal.moveSl (.inr rfl) rfl) rfl rfl ?_
        refine TL.nil ?_
        refine S.n ?_
        refine TC.seq ?_
        refine TC.seq ?_
        refine TC.region ?_
        refine TL.v rfl (OpVal.moveI (.inr rfl) rfl) rfl rfl ?_
        refine TL.nil ?_
        refine S.n ?_
        refine TC.block ?_
        refine TC.loopG (α := ((List Tip) × Nat × Nat) × (Unit)) [3, 5, 29, 30, 31, 32, 33, 34, 35, 36, 37, 38, 39, 40, 41, 42, 43, 44, 45, 46, 47, 48, 49, 50, 51, 52, 53] (fun g => [(3, .int .i64 ((g.1.2.1 : Nat) : Int)), (5, .int .i64 ((g.1.2.2 : Nat) : Int))]) (fun g => [Res.rowS 57 2 encTip (.slice a0_1 x0.length c0_2) g.1.1]) (fun g => σ) (fun g => iter (fun q : (List Tip) × Nat × Nat => compactT_b2 x0 k105 q.1 q.2.1 q.2.2) g.1 = some z1 ∧ g.1.1.length = x0.length) (fun g => rounds (fun q : (List Tip) × Nat × Nat => compactT_b2 x0 k105 q.1 q.2.1 q.2.2) g.1) ((x0, k105, 1), ()) (Sub.pre 1 rfl) rfl (by repeat (first | exact trivial | refine ⟨rfl, ?_⟩)) ⟨hh, rfl⟩ (fun g2 j2 hg2 => ?_)
        obtain ⟨⟨l122, k124, k125⟩, _⟩ := g2
        obtain ⟨hh, hn123⟩ := hg2
        try dsimp only at hn123
        show TC _ _ _ (upds (mask _ j2 _) [(3, .int .i64 ((k124 : Nat) : Int)), (5, .int .i64 ((k125 : Nat) : Int))]) _ [Res.rowS 57 2 encTip (.slice a0_1 x0.length c0_2) l122]
        obtain ⟨z2, hh, hR2⟩ := iter_e hh
        dsimp only [compactT_b2] at hh
        have hn123b := hn123
        refine TC.isSl (i := 0) rfl (fun _ hb126 _ => ?_)
        refine TC.seq ?_
        refine TC.seq ?_
        refine TC.region ?_
        refine TL.v rfl (OpVal.moveI (.inl rfl) rfl) rfl rfl ?_
        refine TL.v rfl (OpVal.moveSl (.inl rfl) rfl) rfl rfl ?_
        refine TL.v rfl (OpVal.lenC rfl Try.underlying22 rfl) rfl rfl ?_
        refine TL.v rfl (OpVal.lss rfl rfl rfl) rfl rfl ?_
        refine TL.nil ?_
        refine S.n ?_
        refine TC.cond rfl (fun h127 => ?_) (fun h127 => ?_)
        · replace hh := iteO_t h127 hh
          replace h127 := of_decide_eq_true h127
          refine TC.skip ?_
          refine S.n ?_
          refine TC.cutG (α := ((List Tip) × Nat) × (Unit)) [3, 35, 36, 37, 38, 39, 40, 41, 42, 43, 44, 45, 46, 47, 48, 49, 50, 51, 52, 53] (fun g => [(3, .int .i64 ((g.1.2 : Nat) : Int))]) (fun g => [Res.rowS 57 2 encTip (.slice a0_1 x0.length c0_2) g.1.1]) (fun g => σ) (fun g => compactT_j1 k125 g.1.1 g.1.2 = some z2 ∧ g.1.1.length = x0.length) ?_ (fun g j hg => ?_)
          · skip
            refine TC.block ?_
            refine TC.seq ?_
            have u33 := grd_c hh
            replace hh := grd_t hh
            have u38 := grd_c hh
            replace hh := grd_t hh
            refine TC.draw [] (by kernel_rfl) ?_
            refine TA.takeP 0 rfl (by kernel_rfl) (by kernel_rfl) (by kernel_rfl) rfl (OpVal.moveSl (.inl rfl) rfl) rfl rfl ?_
            refine TA.takeP 1 rfl (by kernel_rfl) (by kernel_rfl) (by kernel_rfl) rfl (OpVal.moveI (.inl rfl) rfl) rfl rfl ?_
            refine TA.take 2 rfl (by kernel_rfl) (by kernel_rfl) (by kernel_rfl) (by kernel_rfl) rfl (OpVal.elVw hv113 (by omega) (OpVal.indexN rfl Try.underlying22 sz57 rfl rfl hv113.sl (by omega))) rfl rfl ?_
            refine TA.take 3 rfl (by kernel_rfl) (by kernel_rfl) (by kernel_rfl) (by kernel_rfl) rfl (OpVal.loadOA Tip.zero rfl ag57 sz57 rfl (q := 0) rfl encTip_len (by omega) (by omega)) rfl rfl ?_
            refine TA.takeP 4 rfl (by kernel_rfl) (by kernel_rfl) (by kernel_rfl) rfl (OpVal.moveSl (.inl rfl) rfl) rfl rfl ?_
            refine TA.takeP 5 rfl (by kernel_rfl) (by kernel_rfl) (by kernel_rfl) rfl (OpVal.moveI (.inl rfl) rfl) rfl rfl ?_
            refine TA.takeP 6 rfl (by kernel_rfl) (by kernel_rfl) (by kernel_rfl) rfl (OpVal.subW rfl rfl rfl) rfl rfl ?_
            refine TA.take 7 rfl (by kernel_rfl) (by kernel_rfl) (by kernel_rfl) (by kernel_rfl) rfl (OpVal.elVw hv113 (by omega) (OpVal.index rfl Try.underlying22 sz57 rfl rfl hv113.sl u38.1 u38.2)) rfl rfl ?_
            refine TA.take 8 rfl (by kernel_rfl) (by kernel_rfl) (by kernel_rfl) (by kernel_rfl) rfl (OpVal.loadOA Tip.zero rfl ag57 sz57 rfl (q := 0) rfl encTip_len (by omega) (by omega)) rfl rfl ?_
            refine TA.takeP 9 rfl (by kernel_rfl) (by kernel_rfl) (by kernel_rfl) rfl (OpVal.neqSt (p := (nth l122 (k105 + k125) Tip.zero) = (nth l122 (k105 + (IntKind.i64.wrap (((k125 : Nat) : Int) - 1)).toNat) Tip.zero)) rfl rfl rfl eg57 (es57 (nth l122 (k105 + k125) Tip.zero) (nth l122 (k105 + (IntKind.i64.wrap (((k125 : Nat) : Int) - 1)).toNat) Tip.zero)) rfl) rfl rfl ?_
            refine TA.done (by kernel_rfl) ?_
            refine S.n ?_
            refine TC.cond rfl (fun h131 => ?_) (fun h131 => ?_)
            · replace hh := iteO_t h131 hh
              replace h131 := of_decide_eq_true h131
              refine TC.seq ?_
              refine TC.region ?_
              refine TL.v rfl (OpVal.moveSl (.inl rfl) rfl) rfl rfl ?_
              refine TL.v rfl (OpVal.moveI (.inl rfl) rfl) rfl rfl ?_
              refine TL.v rfl (OpVal.moveSl (.inl rfl) rfl) rfl rfl ?_
              refine TL.v rfl (OpVal.moveI (.inl rfl) rfl) rfl rfl ?_
              have u45 := grd_c hh
              replace hh := grd_t hh
              refine TL.v rfl (OpVal.elVw hv113 (by omega) (OpVal.indexN rfl Try.underlying22 sz57 rfl rfl hv113.sl (by omega))) rfl rfl ?_
              refine TL.v rfl (OpVal.loadOA Tip.zero rfl ag57 sz57 rfl (q := 0) rfl encTip_len (by omega) (by omega)) rfl rfl ?_
              have u47 := grd_c hh
              replace hh := grd_t hh
              refine TL.isSl (i := 0) rfl (fun hs132 _ _ => ?_)
              refine TL.v rfl (OpVal.indexN rfl Try.underlying22 sz57 rfl rfl hs132 (by omega)) rfl rfl ?_
              have hn133 : (l122.set k124 (nth l122 (k105 + k125) Tip.zero)).length = x0.length := by rw [List.length_set]; exact hn123
              refine TL.op rfl (OpOk.storeS (nth l122 (k105 + k125) Tip.zero) rfl sz57 rfl rfl rfl rfl encTip_len encTip_one (by omega) (by omega) ?_)
              refine TL.nil ?_
              refine S.n ?_
              refine TC.region ?_
              refine TL.v rfl (OpVal.moveI (.inl rfl) rfl) rfl rfl ?_
              refine TL.v rfl (OpVal.succ rfl rfl rfl (by omega)) rfl rfl ?_
              refine TL.v rfl (OpVal.moveI (.inr rfl) rfl) rfl rfl ?_
              refine TL.nil ?_
              refine B.n ?_
              refine S.n ?_
              refine ⟨by repeat (first | exact Agr.refl _ _ | exact Agr.mask | refine Agr.upd rfl ?_ | refine Agr.maskIn rfl ?_ | refine Agr.upds rfl ?_), (((l122.set k124 (nth l122 (k105 + k125) Tip.zero)), (k124 + 1)), ()), ⟨hh, hn133⟩, by repeat (first | exact trivial | refine ⟨rfl, ?_⟩), Sub.pre 1 rfl, rfl⟩
            · replace hh := iteO_f h131 hh
              replace h131 := of_decide_eq_false h131
              refine TC.skip ?_
              refine B.n ?_
              refine S.n ?_
              refine ⟨by repeat (first | exact Agr.refl _ _ | exact Agr.mask | refine Agr.upd rfl ?_ | refine Agr.maskIn rfl ?_ | refine Agr.upds rfl ?_), ((l122, k124), ()), ⟨hh, hn123⟩, by repeat (first | exact trivial | refine ⟨rfl, ?_⟩), Sub.pre 1 rfl, rfl⟩
          · skip
            obtain ⟨⟨l128, k130⟩, _⟩ := g
            obtain ⟨hh, hn129⟩ := hg
            try dsimp only at hn129
            show TC _ _ _ (upds (mask _ j _) [(3, .int .i64 ((k130 : Nat) : Int))]) _ [Res.rowS 57 2 encTip (.slice a0_1 x0.length c0_2) l128]
            dsimp only [compactT_j1] at hh
            have hn129b := hn129
            refine TC.isSl (i := 0) rfl (fun _ hb134 _ => ?_)
            refine TC.region ?_
            refine TL.v rfl (OpVal.moveI (.inl rfl) rfl) rfl rfl ?_
            refine TL.v rfl (OpVal.succ rfl rfl rfl (by omega)) rfl rfl ?_
            refine TL.v rfl (OpVal.moveI (.inr rfl) rfl) rfl rfl ?_
            refine TL.nil ?_
            refine S.n ?_
            obtain ⟨hh, hlt135⟩ := nxt_x hR2 hh
            refine ⟨by repeat (first | exact Agr.refl _ _ | exact Agr.mask | refine Agr.upd rfl ?_ | refine Agr.maskIn rfl ?_ | refine Agr.upds rfl ?_), ((l128, k130, (k125 + 1)), ()), hlt135, ⟨hh, hn129⟩, by repeat (first | exact trivial | refine ⟨rfl, ?_⟩), Sub.pre 1 rfl, rfl⟩
        · replace hh := iteO_f h127 hh
          replace h127 := of_decide_eq_false h127
          refine TC.exit ?_
          refine S.x ?_
          refine S.x ?_
          replace hh := fin_x hR2 hh
          refine TC.exitHere ?_
          refine S.n ?_
          refine TC.seq ?_
          refine TC.region ?_
          refine TL.v rfl (OpVal.moveSl (.inl rfl) rfl) rfl rfl ?_
          refine TL.v rfl (OpVal.moveI (.inl rfl) rfl) rfl rfl ?_
          have u57 := grd_c hh
          replace hh := grd_t hh
          refine TL.isSl (i := 0) rfl (fun hs136 _ _ => ?_)
          rw [hn123] at hs136
          obtain ⟨a136, c136, hv136, ho136⟩ := vw_of (k := k124) (size := 2) hs136 (by omega)
          refine TL.v rfl (ho136 rfl Try.underlying22 sz57 rfl rfl) rfl rfl ?_
          have hn137 : (l122.take k124 ++ List.replicate (l122.length - k124) Tip.zero).length = x0.length := by simp only [List.length_append, List.length_take, List.length_replicate]; omega
          refine TL.op rfl (OpOk.clearV (k := k124) Tip.zero rfl Try.underlying22 ze57 rfl rfl hv136 (by omega) (by omega) encTip_len (by decide) rfl encTip_one ?_)
          refine TL.nil ?_
          refine S.n ?_
          refine TC.seq ?_
          refine TC.region ?_
          refine TL.v rfl (OpVal.moveSl (.inl rfl) rfl) rfl rfl ?_
          refine TL.v rfl (OpVal.moveI (.inl rfl) rfl) rfl rfl ?_
          rw [← hn137]
          have u61 := grd_c hh
          replace hh := grd_t hh
          refine TL.op rfl (OpOk.cutS rfl Try.underlying22 sz57 rfl rfl rfl rfl rfl (by omega) encTip_len ?_)
          refine TL.v rfl (OpVal.moveSl (.inr rfl) rfl) rfl rfl ?_
          refine TL.nil ?_
          refine S.n ?_
          refine TC.ret ?_
          refine B.r ?_
          refine S.r ?_
          refine S.r ?_
          replace hh := fin_x hR1 hh
          refine B.r ?_
          refine S.r ?_
          obtain rfl := Option.some.inj hh
          exact RetOk.mk' (rs := [.tmp 2]) [Res.rowS 57 2 encTip (.slice a0_1 ((l122.take k124 ++ List.replicate (l122.length - k124) Tip.zero).take k124).length c0_2) ((l122.take k124 ++ List.replicate (l122.length - k124) Tip.zero).take k124)] rfl (.inl rfl) (RVs.tmp rfl RVs.nil) (List.sublist_append_left _ _) ⟨a0_1, c0_2, rfl, rfl, rfl⟩
      · replace hh := iteO_f h112 hh
        replace h112 := of_decide_eq_false h112
        refine TC.skip ?_
        refine B.n ?_
        refine S.n ?_
        refine TC.region ?_
        refine TL.v rfl (OpVal.moveI (.inl rfl) rfl) rfl rfl ?_
        refine TL.v rfl (OpVal.succ rfl rfl rfl (by omega)) rfl rfl ?_
        refine TL.v rfl (OpVal.moveI (.inr rfl) rfl) rfl rfl ?_
        refine TL.nil ?_
        refine S.n ?_
        obtain ⟨hh, hlt138⟩ := nxt_x hR1 hh
        refine ⟨by repeat (first | exact Agr.refl _ _ | exact Agr.mask | refine Agr.upd rfl ?_ | refine Agr.maskIn rfl ?_ | refine Agr.upds rfl ?_), ((k105 + 1), ()), hlt138, hh, by repeat (first | exact trivial | refine ⟨rfl, ?_⟩), Sub.pre 1 rfl, rfl⟩
    · replace hh := iteO_f h107 hh
      replace h107 := of_decide_eq_false h107
      refine TC.exit ?_
      refine S.x ?_
      refine S.x ?_
      replace hh := fin_x hR1 hh
      refine TC.exitHere ?_
      refine S.n ?_
      refine TC.seq ?_
      refine TC.region ?_
      refine TL.v rfl (OpVal.moveSl (.inl rfl) rfl) rfl rfl ?_
      refine TL.v rfl (OpVal.moveSl (.inr rfl) rfl) rfl rfl ?_
      refine TL.nil ?_
      refine S.n ?_
      refine TC.ret ?_
      obtain rfl := Option.some.inj hh
      exact RetOk.mk' (rs := [.tmp 2]) [Res.rowS 57 2 encTip (.slice a0_1 x0.length c0_2) x0] rfl (.inl rfl) (RVs.tmp rfl RVs.nil) (List.sublist_append_left _ _) ⟨a0_1, c0_2, rfl, rfl, rfl⟩

theorem cloneA_con {σ : Store} {a : Option Addr} {c : Nat} {l : List Arc} (hl : RS σ 8 encArc (.slice a l.length c) l) (hsz : l.length * 72 ≤ 140737488355328) :
    Con Try.prog 54 #[.slice a l.length c] σ [] (RowP 41 8 encArc l σ) := by
  have hb := hl.rv.big
  refine Con.mk (n := 8) Try.func54 rfl rfl rfl (fun w0 => ?_)
  refine TC.seq ?_
  refine TC.region ?_
  refine TL.v rfl (OpVal.moveSl (.inr rfl) rfl) rfl rfl ?_
  refine TL.nilS 41 8 encArc ?_
  refine TL.nil ?_
  refine S.n ?_
  refine TC.seq ?_
  refine TC.seq ?_
  refine TC.region ?_
  refine TL.v rfl (OpVal.moveSl (.inl rfl) rfl) rfl rfl ?_
  refine TL.v rfl (OpVal.eqlNilSl rfl Try.underlying23 rfl rfl) rfl rfl ?_
  refine TL.nil ?_
  refine S.n ?_
  refine TC.cond rfl (fun h2 => ?_) (fun h2 => ?_)
  · refine TC.seq ?_
    refine TC.region ?_
    refine TL.v rfl (OpVal.moveSl (.inr rfl) rfl) rfl rfl ?_
    refine TL.nilS 41 8 encArc ?_
    refine TL.nil ?_
    refine S.n ?_
    refine TC.ret ?_
    refine S.r ?_
    cases a with
    | some _ => simp at h2
    | none =>
      obtain rfl := hl.none_nil
      exact ret1R rfl rfl
  · refine TC.skip ?_
    refine S.n ?_
    refine TC.seq ?_
    refine TC.region ?_
    refine TL.op rfl (OpOk.lit0 (enc := encArc) rfl rfl Try.underlying23 sz41 rfl rfl (fun a4 c5 => ?_))
    refine TL.v rfl (OpVal.moveSl (.inl rfl) rfl) rfl rfl ?_
    refine TL.op rfl (OpOk.appendS rfl rfl Try.underlying23 sz41 by41 ze41 rfl rfl (by decide) rfl rfl rfl (.inl hl) (by simpa using hsz) (by decide) (fun a7 c8 => ?_))
    refine TL.v rfl (OpVal.moveSl (.inr rfl) rfl) rfl rfl ?_
    refine TL.nil ?_
    refine S.n ?_
    refine TC.ret ?_
    exact ret1R rfl rfl

noncomputable def compactA_j1 (k125 : Nat) (l128 : List Arc) (k130 : Nat) : Option (((List Arc) × Nat × Nat) ⊕ ((Nat) ⊕ ((List Arc)))) :=
  nxt (l128, k130, (k125 + 1))
noncomputable def compactA_b2 (x0 : List Arc) (k105 : Nat) (l122 : List Arc) (k124 : Nat) (k125 : Nat) : Option (((List Arc) × Nat × Nat) ⊕ ((Nat) ⊕ ((List Arc)))) :=
  iteO (decide (((k125 : Nat) : Int) < (((x0.length - k105) : Nat) : Int))) (grd (k125 < (x0.length - k105)) (grd (0 ≤ (IntKind.i64.wrap (((k125 : Nat) : Int) - 1)) ∧ (IntKind.i64.wrap (((k125 : Nat) : Int) - 1)) < ((x0.length - k105) : Nat)) (iteO (decide (¬ ((nth l122 (k105 + k125) Arc.zero) = (nth l122 (k105 + (IntKind.i64.wrap (((k125 : Nat) : Int) - 1)).toNat) Arc.zero)))) (grd (k125 < (x0.length - k105)) (grd (k124 < l122.length) (compactA_j1 k125 (l122.set k124 (nth l122 (k105 + k125) Arc.zero)) (k124 + 1)))) (compactA_j1 k125 l122 k124)))) (fin (grd (k124 ≤ x0.length) (grd (k124 ≤ (l122.take k124 ++ List.replicate (l122.length - k124) Arc.zero).length) (fin (some ((l122.take k124 ++ List.replicate (l122.length - k124) Arc.zero).take k124))))))
noncomputable def compactA_b1 (x0 : List Arc) (k105 : Nat) : Option ((Nat) ⊕ ((List Arc))) :=
  iteO (decide (((k105 : Nat) : Int) < ((x0.length : Nat) : Int))) (grd (0 ≤ (IntKind.i64.wrap (((k105 : Nat) : Int) - 1)) ∧ (IntKind.i64.wrap (((k105 : Nat) : Int) - 1)) < (x0.length : Int)) (iteO (decide ((nth x0 k105 Arc.zero) = (nth x0 ((IntKind.i64.wrap (((k105 : Nat) : Int) - 1)).toNat) Arc.zero))) (grd (k105 ≤ x0.length) (iter (fun q : (List Arc) × Nat × Nat => compactA_b2 x0 k105 q.1 q.2.1 q.2.2) (x0, k105, 1))) (nxt (k105 + 1)))) (fin (some x0))
noncomputable def compactA (x0 : List Arc) : Option ((List Arc)) :=
  iteO (decide (((x0.length : Nat) : Int) < 2)) (some x0) (iter (fun q : Nat => compactA_b1 x0 q) 1)
theorem compactA_con {σ : Store} {x0 : List Arc} {a0_1 : Option Addr} {c0_2 : Nat}  {r : (List Arc)} (hh : compactA x0 = some r) :
    Con Try.prog 56 #[.slice a0_1 x0.length c0_2] σ [Res.rowS 41 8 encArc (.slice a0_1 x0.length c0_2) x0] (fun v σ' H' => ∃ (a1 : Option Addr), ∃ (c1 : Nat), v = .slice a1 r.length c1 ∧ σ = σ' ∧ H' = [Res.rowS 41 8 encArc (.slice a1 r.length c1) r]) := by
  dsimp only [compactA] at hh
  refine Con.mk (n := 61) Try.func56 rfl rfl rfl (fun w0 => ?_)
  refine TC.seq ?_
  refine TC.region ?_
  refine TL.v rfl (OpVal.moveSl (.inr rfl) rfl) rfl rfl ?_
  refine TL.nil ?_
  refine S.n ?_
  refine TC.seq ?_
  refine TC.seq ?_
  refine TC.region ?_
  refine TL.v rfl (OpVal.moveSl (.inl rfl) rfl) rfl rfl ?_
  refine TL.v rfl (OpVal.lenC rfl Try.underlying23 rfl) rfl rfl ?_
  refine TL.v rfl (OpVal.lss rfl rfl rfl) rfl rfl ?_
  refine TL.nil ?_
  refine S.n ?_
  refine TC.cond rfl (fun h102 => ?_) (fun h102 => ?_)
  · replace hh := iteO_t h102 hh
    replace h102 := of_decide_eq_true h102
    refine TC.seq ?_
    refine TC.region ?_
    refine TL.v rfl (OpVal.moveSl (.inl rfl) rfl) rfl rfl ?_
    refine TL.v rfl (OpVal.moveSl (.inr rfl) rfl) rfl rfl ?_
    refine TL.nil ?_
    refine S.n ?_
    refine TC.ret ?_
    refine S.r ?_
    obtain rfl := Option.some.inj hh
    exact RetOk.mk' (rs := [.tmp 2]) [Res.rowS 41 8 encArc (.slice a0_1 x0.length c0_2) x0] rfl (.inl rfl) (RVs.tmp rfl RVs.nil) (List.sublist_append_left _ _) ⟨a0_1, c0_2, rfl, rfl, rfl⟩
  · replace hh := iteO_f h102 hh
    replace h102 := of_decide_eq_false h102
    refine TC.skip ?_
    refine S.n ?_
    refine TC.seq ?_
    refine TC.seq ?_
    refine TC.region ?_
    refine TL.v rfl (OpVal.moveI (.inr rfl) rfl) rfl rfl ?_
    refine TL.nil ?_
    refine S.n ?_
    refine TC.block ?_
    refine TC.loopG (α := (Nat) × (Unit)) [2, 3, 4, 5, 10, 11, 12, 13, 14, 15, 16, 17, 18, 19, 20, 21, 22, 23, 24, 25, 26, 27, 28, 29, 30, 31, 32, 33, 34, 35, 36, 37, 38, 39, 40, 41, 42, 43, 44, 45, 46, 47, 48, 49, 50, 51, 52, 53, 54, 55, 56, 57, 58, 59] (fun g => [(3, .int .i64 ((g.1 : Nat) : Int))]) (fun g => [Res.rowS 41 8 encArc (.slice a0_1 x0.length c0_2) x0]) (fun g => σ) (fun g => iter (fun q : Nat => compactA_b1 x0 q) g.1 = some r) (fun g => rounds (fun q : Nat => compactA_b1 x0 q) g.1) (1, ()) (Sub.pre 1 rfl) rfl (by repeat (first | exact trivial | refine ⟨rfl, ?_⟩)) hh (fun g1 j1 hg1 => ?_)
    obtain ⟨k105, _⟩ := g1
    have hh := hg1; clear hg1
    show TC _ _ _ (upds (mask _ j1 _) [(3, .int .i64 ((k105 : Nat) : Int))]) _ [Res.rowS 41 8 encArc (.slice a0_1 x0.length c0_2) x0]
    obtain ⟨z1, hh, hR1⟩ := iter_e hh
    dsimp only [compactA_b1] at hh
    refine TC.isSl (i := 0) rfl (fun _ hb106 _ => ?_)
    refine TC.seq ?_
    refine TC.seq ?_
    refine TC.region ?_
    refine TL.v rfl (OpVal.moveI (.inl rfl) rfl) rfl rfl ?_
    refine TL.v rfl (OpVal.moveSl (.inl rfl) rfl) rfl rfl ?_
    refine TL.v rfl (OpVal.lenC rfl Try.underlying23 rfl) rfl rfl ?_
    refine TL.v rfl (OpVal.lss rfl rfl rfl) rfl rfl ?_
    refine TL.nil ?_
    refine S.n ?_
    refine TC.cond rfl (fun h107 => ?_) (fun h107 => ?_)
    · replace hh := iteO_t h107 hh
      replace h107 := of_decide_eq_true h107
      refine TC.skip ?_
      refine S.n ?_
      refine TC.seq ?_
      refine TC.block ?_
      refine TC.seq ?_
      have u19 := grd_c hh
      replace hh := grd_t hh
      refine TC.draw [] (by kernel_rfl) ?_
      refine TA.takeP 0 rfl (by kernel_rfl) (by kernel_rfl) (by kernel_rfl) rfl (OpVal.moveSl (.inl rfl) rfl) rfl rfl ?_
      refine TA.takeP 1 rfl (by kernel_rfl) (by kernel_rfl) (by kernel_rfl) rfl (OpVal.moveI (.inl rfl) rfl) rfl rfl ?_
      refine TA.isSl (i := 0) rfl (fun hs110 _ _ => ?_)
      refine TA.take 2 rfl (by kernel_rfl) (by kernel_rfl) (by kernel_rfl) (by kernel_rfl) rfl (OpVal.indexN rfl Try.underlying23 sz41 rfl rfl hs110 (by omega)) rfl rfl ?_
      refine TA.take 3 rfl (by kernel_rfl) (by kernel_rfl) (by kernel_rfl) (by kernel_rfl) rfl (OpVal.loadOA Arc.zero rfl ag41 sz41 rfl (q := 0) rfl encArc_len (by omega) (by omega)) rfl rfl ?_
      refine TA.takeP 4 rfl (by kernel_rfl) (by kernel_rfl) (by kernel_rfl) rfl (OpVal.moveSl (.inl rfl) rfl) rfl rfl ?_
      refine TA.takeP 5 rfl (by kernel_rfl) (by kernel_rfl) (by kernel_rfl) rfl (OpVal.moveI (.inl rfl) rfl) rfl rfl ?_
      refine TA.takeP 6 rfl (by kernel_rfl) (by kernel_rfl) (by kernel_rfl) rfl (OpVal.subW rfl rfl rfl) rfl rfl ?_
      refine TA.isSl (i := 0) rfl (fun hs111 _ _ => ?_)
      refine TA.take 7 rfl (by kernel_rfl) (by kernel_rfl) (by kernel_rfl) (by kernel_rfl) rfl (OpVal.index rfl Try.underlying23 sz41 rfl rfl hs111 u19.1 u19.2) rfl rfl ?_
      refine TA.take 8 rfl (by kernel_rfl) (by kernel_rfl) (by kernel_rfl) (by kernel_rfl) rfl (OpVal.loadOA Arc.zero rfl ag41 sz41 rfl (q := 0) rfl encArc_len (by omega) (by omega)) rfl rfl ?_
      refine TA.takeP 9 rfl (by kernel_rfl) (by kernel_rfl) (by kernel_rfl) rfl (OpVal.eqlSt (p := (nth x0 k105 Arc.zero) = (nth x0 ((IntKind.i64.wrap (((k105 : Nat) : Int) - 1)).toNat) Arc.zero)) rfl rfl rfl eg41 (es41 (nth x0 k105 Arc.zero) (nth x0 ((IntKind.i64.wrap (((k105 : Nat) : Int) - 1)).toNat) Arc.zero)) rfl) rfl rfl ?_
      refine TA.done (by kernel_rfl) ?_
      refine S.n ?_
      refine TC.cond rfl (fun h112 => ?_) (fun h112 => ?_)
      · replace hh := iteO_t h112 hh
        replace h112 := of_decide_eq_true h112
        refine TC.seq ?_
        refine TC.region ?_
        refine TL.v rfl (OpVal.moveSl (.inl rfl) rfl) rfl rfl ?_
        refine TL.v rfl (OpVal.moveI (.inl rfl) rfl) rfl rfl ?_
        have u24 := grd_c hh
        replace hh := grd_t hh
        refine TL.isSl (i := 0) rfl (fun hs113 _ _ => ?_)
        obtain ⟨a113, c113, hv113, ho113⟩ := vw_of (k := k105) (size := 8) hs113 (by omega)
        refine TL.v rfl (ho113 rfl Try.underlying23 sz41 rfl rfl) rfl rfl ?_
        refine TL.v rfl (OpVal.moveSl (.inr rfl) rfl) rfl rfl ?_
        refine TL.nil ?_
        refine S.n ?_
        refine TC.seq ?_
        refine TC.seq ?_
        refine TC.region ?_
        refine TL.v rfl (OpVal.moveI (.inr rfl) rfl) rfl rfl ?_
        refine TL.nil ?_
        refine S.n ?_
        refine TC.block ?_
        refine TC.loopG (α := ((List Arc) × Nat × Nat) × (Unit)) [3, 5, 29, 30, 31, 32, 33, 34, 35, 36, 37, 38, 39, 40, 41, 42, 43, 44, 45, 46, 47, 48, 49, 50, 51, 52, 53] (fun g => [(3, .int .i64 ((g.1.2.1 : Nat) : Int)), (5, .int .i64 ((g.1.2.2 : Nat) : Int))]) (fun g => [Res.rowS 41 8 encArc (.slice a0_1 x0.length c0_2) g.1.1]) (fun g => σ) (fun g => iter (fun q : (List Arc) × Nat × Nat => compactA_b2 x0 k105 q.1 q.2.1 q.2.2) g.1 = some z1 ∧ g.1.1.length = x0.length) (fun g => rounds (fun q : (List Arc) × Nat × Nat => compactA_b2 x0 k105 q.1 q.2.1 q.2.2) g.1) ((x0, k105, 1), ()) (Sub.pre 1 rfl) rfl (by repeat (first | exact trivial | refine ⟨rfl, ?_⟩)) ⟨hh, rfl⟩ (fun g2 j2 hg2 => ?_)
        obtain ⟨⟨l122, k124, k125⟩, _⟩ := g2
        obtain ⟨hh, hn123⟩ := hg2
        try dsimp only at hn123
        show TC _ _ _ (upds (mask _ j2 _) [(3, .int .i64 ((k124 : Nat) : Int)), (5, .int .i64 ((k125 : Nat) : Int))]) _ [Res.rowS 41 8 encArc (.slice a0_1 x0.length c0_2) l122]
        obtain ⟨z2, hh, hR2⟩ := iter_e hh
        dsimp only [compactA_b2] at hh
        have hn123b := hn123
        refine TC.isSl (i := 0) rfl (fun _ hb126 _ => ?_)
        refine TC.seq ?_
        refine TC.seq ?_
        refine TC.region ?_
        refine TL.v rfl (OpVal.moveI (.inl rfl) rfl) rfl rfl ?_
        refine TL.v rfl (OpVal.moveSl (.inl rfl) rfl) rfl rfl ?_
        refine TL.v rfl (OpVal.lenC rfl Try.underlying23 rfl) rfl rfl ?_
        refine TL.v rfl (OpVal.lss rfl rfl rfl) rfl rfl ?_
        refine TL.nil ?_
        refine S.n ?_
        refine TC.cond rfl (fun h127 => ?_) (fun h127 => ?_)
        · replace hh := iteO_t h127 hh
          replace h127 := of_decide_eq_true h127
          refine TC.skip ?_
          refine S.n ?_
          refine TC.cutG (α := ((List Arc) × Nat) × (Unit)) [3, 35, 36, 37, 38, 39, 40, 41, 42, 43, 44, 45, 46, 47, 48, 49, 50, 51, 52, 53] (fun g => [(3, .int .i64 ((g.1.2 : Nat) : Int))]) (fun g => [Res.rowS 41 8 encArc (.slice a0_1 x0.length c0_2) g.1.1]) (fun g => σ) (fun g => compactA_j1 k125 g.1.1 g.1.2 = some z2 ∧ g.1.1.length = x0.length) ?_ (fun g j hg => ?_)
          · skip
            refine TC.block ?_
            refine TC.seq ?_
            have u33 := grd_c hh
            replace hh := grd_t hh
            have u38 := grd_c hh
            replace hh := grd_t hh
            refine TC.draw [] (by kernel_rfl) ?_
            refine TA.takeP 0 rfl (by kernel_rfl) (by kernel_rfl) (by kernel_rfl) rfl (OpVal.moveSl (.inl rfl) rfl) rfl rfl ?_
            refine TA.takeP 1 rfl (by kernel_rfl) (by kernel_rfl) (by kernel_rfl) rfl (OpVal.moveI (.inl rfl) rfl) rfl rfl ?_
            refine TA.take 2 rfl (by kernel_rfl) (by kernel_rfl) (by kernel_rfl) (by kernel_rfl) rfl (OpVal.elVw hv113 (by omega) (OpVal.indexN rfl Try.underlying23 sz41 rfl rfl hv113.sl (by omega))) rfl rfl ?_
            refine TA.take 3 rfl (by kernel_rfl) (by kernel_rfl) (by kernel_rfl) (by kernel_rfl) rfl (OpVal.loadOA Arc.zero rfl ag41 sz41 rfl (q := 0) rfl encArc_len (by omega) (by omega)) rfl rfl ?_
            refine TA.takeP 4 rfl (by kernel_rfl) (by kernel_rfl) (by kernel_rfl) rfl (OpVal.moveSl (.inl rfl) rfl) rfl rfl ?_
            refine TA.takeP 5 rfl (by kernel_rfl) (by kernel_rfl) (by kernel_rfl) rfl (OpVal.moveI (.inl rfl) rfl) rfl rfl ?_
            refine TA.takeP 6 rfl (by kernel_rfl) (by kernel_rfl) (by kernel_rfl) rfl (OpVal.subW rfl rfl rfl) rfl rfl ?_
            refine TA.take 7 rfl (by kernel_rfl) (by kernel_rfl) (by kernel_rfl) (by kernel_rfl) rfl (OpVal.elVw hv113 (by omega) (OpVal.index rfl Try.underlying23 sz41 rfl rfl hv113.sl u38.1 u38.2)) rfl rfl ?_
            refine TA.take 8 rfl (by kernel_rfl) (by kernel_rfl) (by kernel_rfl) (by kernel_rfl) rfl (OpVal.loadOA Arc.zero rfl ag41 sz41 rfl (q := 0) rfl encArc_len (by omega) (by omega)) rfl rfl ?_
            refine TA.takeP 9 rfl (by kernel_rfl) (by kernel_rfl) (by kernel_rfl) rfl (OpVal.neqSt (p := (nth l122 (k105 + k125) Arc.zero) = (nth l122 (k105 + (IntKind.i64.wrap (((k125 : Nat) : Int) - 1)).toNat) Arc.zero)) rfl rfl rfl eg41 (es41 (nth l122 (k105 + k125) Arc.zero) (nth l122 (k105 + (IntKind.i64.wrap (((k125 : Nat) : Int) - 1)).toNat) Arc.zero)) rfl) rfl rfl ?_
            refine TA.done (by kernel_rfl) ?_
            refine S.n ?_
            refine TC.cond rfl (fun h131 => ?_) (fun h131 => ?_)
            · replace hh := iteO_t h131 hh
              replace h131 := of_decide_eq_true h131
              refine TC.seq ?_
              refine TC.region ?_
              refine TL.v rfl (OpVal.moveSl (.inl rfl) rfl) rfl rfl ?_
              refine TL.v rfl (OpVal.moveI (.inl rfl) rfl) rfl rfl ?_
              refine TL.v rfl (OpVal.moveSl (.inl rfl) rfl) rfl rfl ?_
              refine TL.v rfl (OpVal.moveI (.inl rfl) rfl) rfl rfl ?_
              have u45 := grd_c hh
              replace hh := grd_t hh
              refine TL.v rfl (OpVal.elVw hv113 (by omega) (OpVal.indexN rfl Try.underlying23 sz41 rfl rfl hv113.sl (by omega))) rfl rfl ?_
              refine TL.v rfl (OpVal.loadOA Arc.zero rfl ag41 sz41 rfl (q := 0) rfl encArc_len (by omega) (by omega)) rfl rfl ?_
              have u47 := grd_c hh
              replace hh := grd_t hh
              refine TL.isSl (i := 0) rfl (fun hs132 _ _ => ?_)
              refine TL.v rfl (OpVal.indexN rfl Try.underlying23 sz41 rfl rfl hs132 (by omega)) rfl rfl ?_
              have hn133 : (l122.set k124 (nth l122 (k105 + k125) Arc.zero)).length = x0.length := by rw [List.length_set]; exact hn123
              refine TL.op rfl (OpOk.storeS (nth l122 (k105 + k125) Arc.zero) rfl sz41 rfl rfl rfl rfl encArc_len encArc_one (by omega) (by omega) ?_)
              refine TL.nil ?_
              refine S.n ?_
              refine TC.region ?_
              refine TL.v rfl (OpVal.moveI (.inl rfl) rfl) rfl rfl ?_
              refine TL.v rfl (OpVal.succ rfl rfl rfl (by omega)) rfl rfl ?_
              refine TL.v rfl (OpVal.moveI (.inr rfl) rfl) rfl rfl ?_
              refine TL.nil ?_
              refine B.n ?_
              refine S.n ?_
              refine ⟨by repeat (first | exact Agr.refl _ _ | exact Agr.mask | refine Agr.upd rfl ?_ | refine Agr.maskIn rfl ?_ | refine Agr.upds rfl ?_), (((l122.set k124 (nth l122 (k105 + k125) Arc.zero)), (k124 + 1)), ()), ⟨hh, hn133⟩, by repeat (first | exact trivial | refine ⟨rfl, ?_⟩), Sub.pre 1 rfl, rfl⟩
            · replace hh := iteO_f h131 hh
              replace h131 := of_decide_eq_false h131
              refine TC.skip ?_
              refine B.n ?_
              refine S.n ?_
              refine ⟨by repeat (first | exact Agr.refl _ _ | exact Agr.mask | refine Agr.upd rfl ?_ | refine Agr.maskIn rfl ?_ | refine Agr.upds rfl ?_), ((l122, k124), ()), ⟨hh, hn123⟩, by repeat (first | exact trivial | refine ⟨rfl, ?_⟩), Sub.pre 1 rfl, rfl⟩
          · skip
            obtain ⟨⟨l128, k130⟩, _⟩ := g
            obtain ⟨hh, hn129⟩ := hg
            try dsimp only at hn129
            show TC _ _ _ (upds (mask _ j _) [(3, .int .i64 ((k130 : Nat) : Int))]) _ [Res.rowS 41 8 encArc (.slice a0_1 x0.length c0_2) l128]
            dsimp only [compactA_j1] at hh
            have hn129b := hn129
            refine TC.isSl (i := 0) rfl (fun _ hb134 _ => ?_)
            refine TC.region ?_
            refine TL.v rfl (OpVal.moveI (.inl rfl) rfl) rfl rfl ?_
            refine TL.v rfl (OpVal.succ rfl rfl rfl (by omega)) rfl rfl ?_
            refine TL.v rfl (OpVal.moveI (.inr rfl) rfl) rfl rfl ?_
            refine TL.nil ?_
            refine S.n ?_
            obtain ⟨hh, hlt135⟩ := nxt_x hR2 hh
            refine ⟨by repeat (first | exact Agr.refl _ _ | exact Agr.mask | refine Agr.upd rfl ?_ | refine Agr.maskIn rfl ?_ | refine Agr.upds rfl ?_), ((l128, k130, (k125 + 1)), ()), hlt135, ⟨hh, hn129⟩, by repeat (first | exact trivial | refine ⟨rfl, ?_⟩), Sub.pre 1 rfl, rfl⟩
        · replace hh := iteO_f h127 hh
          replace h127 := of_decide_eq_false h127
          refine TC.exit ?_
          refine S.x ?_
          refine S.x ?_
          replace hh := fin_x hR2 hh
          refine TC.exitHere ?_
          refine S.n ?_
          refine TC.seq ?_
          refine TC.region ?_
          refine TL.v rfl (OpVal.moveSl (.inl rfl) rfl) rfl rfl ?_
          refine TL.v rfl (OpVal.moveI (.inl rfl) rfl) rfl rfl ?_
          have u57 := grd_c hh
          replace hh := grd_t hh
          refine TL.isSl (i := 0) rfl (fun hs136 _ _ => ?_)
          rw [hn123] at hs136
          obtain ⟨a136, c136, hv136, ho136⟩ := vw_of (k := k124) (size := 8) hs136 (by omega)
          refine TL.v rfl (ho136 rfl Try.underlying23 sz41 rfl rfl) rfl rfl ?_
          have hn137 : (l122.take k124 ++ List.replicate (l122.length - k124) Arc.zero).length = x0.length := by simp only [List.length_append, List.length_take, List.length_replicate]; omega
          refine TL.op rfl (OpOk.clearV (k := k124) Arc.zero rfl Try.underlying23 ze41 rfl rfl hv136 (by omega) (by omega) encArc_len (by decide) rfl encArc_one ?_)
          refine TL.nil ?_
          refine S.n ?_
          refine TC.seq ?_
          refine TC.region ?_
          refine TL.v rfl (OpVal.moveSl (.inl rfl) rfl) rfl rfl ?_
          refine TL.v rfl (OpVal.moveI (.inl rfl) rfl) rfl rfl ?_
          rw [← hn137]
          have u61 := grd_c hh
          replace hh := grd_t hh
          refine TL.op rfl (OpOk.cutS rfl Try.underlying23 sz41 rfl rfl rfl rfl rfl (by omega) encArc_len ?_)
          refine TL.v rfl (OpVal.moveSl (.inr rfl) rfl) rfl rfl ?_
          refine TL.nil ?_
          refine S.n ?_
          refine TC.ret ?_
          refine B.r ?_
          refine S.r ?_
          refine S.r ?_
          replace hh := fin_x hR1 hh
          refine B.r ?_
          refine S.r ?_
          obtain rfl := Option.some.inj hh
          exact RetOk.mk' (rs := [.tmp 2]) [Res.rowS 41 8 encArc (.slice a0_1 ((l122.take k124 ++ List.replicate (l122.length - k124) Arc.zero).take k124).length c0_2) ((l122.take k124 ++ List.replicate (l122.length - k124) Arc.zero).take k124)] rfl (.inl rfl) (RVs.tmp rfl RVs.nil) (List.sublist_append_left _ _) ⟨a0_1, c0_2, rfl, rfl, rfl⟩
      · replace hh := iteO_f h112 hh
        replace h112 := of_decide_eq_false h112
        refine TC.skip ?_
        refine B.n ?_
        refine S.n ?_
        refine TC.region ?_
        refine TL.v rfl (OpVal.moveI (.inl rfl) rfl) rfl rfl ?_
        refine TL.v rfl (OpVal.succ rfl rfl rfl (by omega)) rfl rfl ?_
        refine TL.v rfl (OpVal.moveI (.inr rfl) rfl) rfl rfl ?_
        refine TL.nil ?_
        refine S.n ?_
        obtain ⟨hh, hlt138⟩ := nxt_x hR1 hh
        refine ⟨by repeat (first | exact Agr.refl _ _ | exact Agr.mask | refine Agr.upd rfl ?_ | refine Agr.maskIn rfl ?_ | refine Agr.upds rfl ?_), ((k105 + 1), ()), hlt138, hh, by repeat (first | exact trivial | refine ⟨rfl, ?_⟩), Sub.pre 1 rfl, rfl⟩
    · replace hh := iteO_f h107 hh
      replace h107 := of_decide_eq_false h107
      refine TC.exit ?_
      refine S.x ?_
      refine S.x ?_
      replace hh := fin_x hR1 hh
      refine TC.exitHere ?_
      refine S.n ?_
      refine TC.seq ?_
      refine TC.region ?_
      refine TL.v rfl (OpVal.moveSl (.inl rfl) rfl) rfl rfl ?_
      refine TL.v rfl (OpVal.moveSl (.inr rfl) rfl) rfl rfl ?_
      refine TL.nil ?_
      refine S.n ?_
      refine TC.ret ?_
      obtain rfl := Option.some.inj hh
      exact RetOk.mk' (rs := [.tmp 2]) [Res.rowS 41 8 encArc (.slice a0_1 x0.length c0_2) x0] rfl (.inl rfl) (RVs.tmp rfl RVs.nil) (List.sublist_append_left _ _) ⟨a0_1, c0_2, rfl, rfl, rfl⟩

noncomputable def onceS (x0 : List (List UInt8)) : Option ((List (List UInt8))) :=
  grd (x0.length * 16 ≤ 140737488355328) (bnd (compactS (sortL Lib.compareBytes x0)) (fun v9 => some v9))
def onceS_P (σ : Store) (r : (List (List UInt8))) : Value → Store → List Res → Prop := fun v σ' H' =>
  ∃ (a1 : Option Addr), ∃ (c1 : Nat),  v = .slice a1 r.length c1 ∧ σ = σ' ∧ H' = [Res.rowS 9 1 encS (.slice a1 r.length c1) r]
theorem onceS_con {σ : Store} {x0 : List (List UInt8)} {a0_0 : Option Addr} {c0_0 : Nat} (f0_0 : RS σ 1 encS (.slice a0_0 x0.length c0_0) x0) {r : (List (List UInt8))} (hh : onceS x0 = some r) :
    Con Try.prog 22 #[.slice a0_0 x0.length c0_0, .func (.func 23) #[] #[]] σ [] (onceS_P σ r) := by
  dsimp only [onceS] at hh
  have f0_0b := f0_0.rv.big
  refine Con.mk (n := 13) Try.func22 rfl rfl rfl (fun w0 => ?_)
  refine TC.seq ?_
  refine TC.region ?_
  refine TL.v rfl (OpVal.moveSl (.inr rfl) rfl) rfl rfl ?_
  refine TL.nil ?_
  refine S.n ?_
  refine TC.seq ?_
  refine TC.region ?_
  refine TL.v rfl (OpVal.moveSl (.inl rfl) rfl) rfl rfl ?_
  have u3 := grd_c hh
  replace hh := grd_t hh
  refine TL.op rfl (OpOk.call (cloneS_con f0_0 u3) rfl rfl pf41 rfl rfl rfl rfl ?_)
  rintro _ _ _ _ ⟨⟨a101, c102, rfl⟩, rfl, rfl⟩
  refine TL.v rfl (OpVal.moveSl (.inr rfl) rfl) rfl rfl ?_
  refine TL.nil ?_
  refine S.n ?_
  refine TC.seq ?_
  refine TC.region ?_
  refine TL.v rfl (OpVal.moveSl (.inl rfl) rfl) rfl rfl ?_
  refine TL.v rfl (OpVal.moveFn (.inl rfl) rfl) rfl rfl ?_
  have hn104 : (sortL Lib.compareBytes x0).length = x0.length := List.length_mergeSort _
  refine TL.op rfl (OpOk.call (sortS_con (l := x0)) rfl rfl pf42 rfl rfl rfl rfl ?_)
  rintro _ _ _ _ ⟨rfl, rfl, rfl⟩
  refine TL.nil ?_
  refine S.n ?_
  refine TC.seq ?_
  refine TC.region ?_
  refine TL.v rfl (OpVal.moveSl (.inl rfl) rfl) rfl rfl ?_
  rw [← hn104]
  obtain ⟨v9, u9, hh⟩ := bnd_e hh
  refine TL.op rfl (OpOk.call (compactS_con u9) rfl rfl pf43 rfl rfl rfl rfl ?_)
  rintro _ _ _ hle105 ⟨a105_1, c105_2, rfl, rfl, rfl⟩
  refine TL.v rfl (OpVal.moveSl (.inr rfl) rfl) rfl rfl ?_
  refine TL.nil ?_
  refine S.n ?_
  refine TC.ret ?_
  obtain rfl := Option.some.inj hh
  exact RetOk.mk' (rs := [.tmp 4]) [Res.rowS 9 1 encS (.slice a105_1 v9.length c105_2) v9] rfl (.inl rfl) (RVs.tmp rfl RVs.nil) (List.sublist_append_left _ _) ⟨a105_1, c105_2, rfl, rfl, rfl⟩

noncomputable def onceI (x0 : List Int) : Option ((List Int)) :=
  grd (x0.length * 8 ≤ 140737488355328) (bnd (compactI (sortL cmpI x0)) (fun v9 => some v9))
def onceI_P (σ : Store) (r : (List Int)) : Value → Store → List Res → Prop := fun v σ' H' =>
  ∃ (a1 : Option Addr), ∃ (c1 : Nat),  v = .slice a1 r.length c1 ∧ σ = σ' ∧ H' = [Res.rowS 3 1 Go.E.encI (.slice a1 r.length c1) r]
theorem onceI_con {σ : Store} {x0 : List Int} {a0_0 : Option Addr} {c0_0 : Nat} (f0_0 : RS σ 1 Go.E.encI (.slice a0_0 x0.length c0_0) x0) {r : (List Int)} (hh : onceI x0 = some r) :
    Con Try.prog 59 #[.slice a0_0 x0.length c0_0, .func (.func 53) #[] #[]] σ [] (onceI_P σ r) := by
  dsimp only [onceI] at hh
  have f0_0b := f0_0.rv.big
  refine Con.mk (n := 13) Try.func59 rfl rfl rfl (fun w0 => ?_)
  refine TC.seq ?_
  refine TC.region ?_
  refine TL.v rfl (OpVal.moveSl (.inr rfl) rfl) rfl rfl ?_
  refine TL.nil ?_
  refine S.n ?_
  refine TC.seq ?_
  refine TC.region ?_
  refine TL.v rfl (OpVal.moveSl (.inl rfl) rfl) rfl rfl ?_
  have u3 := grd_c hh
  replace hh := grd_t hh
  refine TL.op rfl (OpOk.call (cloneI_con f0_0 u3) rfl rfl pf69 rfl rfl rfl rfl ?_)
  rintro _ _ _ _ ⟨⟨a101, c102, rfl⟩, rfl, rfl⟩
  refine TL.v rfl (OpVal.moveSl (.inr rfl) rfl) rfl rfl ?_
  refine TL.nil ?_
  refine S.n ?_
  refine TC.seq ?_
  refine TC.region ?_
  refine TL.v rfl (OpVal.moveSl (.inl rfl) rfl) rfl rfl ?_
  refine TL.v rfl (OpVal.moveFn (.inl rfl) rfl) rfl rfl ?_
  have hn104 : (sortL cmpI x0).length = x0.length := List.length_mergeSort _
  refine TL.op rfl (OpOk.call (sortI_con (l := x0)) rfl rfl pf70 rfl rfl rfl rfl ?_)
  rintro _ _ _ _ ⟨rfl, rfl, rfl⟩
  refine TL.nil ?_
  refine S.n ?_
  refine TC.seq ?_
  refine TC.region ?_
  refine TL.v rfl (OpVal.moveSl (.inl rfl) rfl) rfl rfl ?_
  rw [← hn104]
  obtain ⟨v9, u9, hh⟩ := bnd_e hh
  refine TL.op rfl (OpOk.call (compactI_con u9) rfl rfl pf71 rfl rfl rfl rfl ?_)
  rintro _ _ _ hle105 ⟨a105_1, c105_2, rfl, rfl, rfl⟩
  refine TL.v rfl (OpVal.moveSl (.inr rfl) rfl) rfl rfl ?_
  refine TL.nil ?_
  refine S.n ?_
  refine TC.ret ?_
  obtain rfl := Option.some.inj hh
  exact RetOk.mk' (rs := [.tmp 4]) [Res.rowS 3 1 Go.E.encI (.slice a105_1 v9.length c105_2) v9] rfl (.inl rfl) (RVs.tmp rfl RVs.nil) (List.sublist_append_left _ _) ⟨a105_1, c105_2, rfl, rfl, rfl⟩

noncomputable def onceT (x0 : List Tip) : Option ((List Tip)) :=
  grd (x0.length * 24 ≤ 140737488355328) (bnd (compactT (sortL cmpTip x0)) (fun v9 => some v9))
def onceT_P (σ : Store) (r : (List Tip)) : Value → Store → List Res → Prop := fun v σ' H' =>
  ∃ (a1 : Option Addr), ∃ (c1 : Nat),  v = .slice a1 r.length c1 ∧ σ = σ' ∧ H' = [Res.rowS 57 2 encTip (.slice a1 r.length c1) r]
theorem onceT_con {σ : Store} {x0 : List Tip} {a0_0 : Option Addr} {c0_0 : Nat} (f0_0 : RS σ 2 encTip (.slice a0_0 x0.length c0_0) x0) {r : (List Tip)} (hh : onceT x0 = some r) :
    Con Try.prog 32 #[.slice a0_0 x0.length c0_0, .func (.func 33) #[] #[]] σ [] (onceT_P σ r) := by
  dsimp only [onceT] at hh
  have f0_0b := f0_0.rv.big
  refine Con.mk (n := 13) Try.func32 rfl rfl rfl (fun w0 => ?_)
  refine TC.seq ?_
  refine TC.region ?_
  refine TL.v rfl (OpVal.moveSl (.inr rfl) rfl) rfl rfl ?_
  refine TL.nil ?_
  refine S.n ?_
  refine TC.seq ?_
  refine TC.region ?_
  refine TL.v rfl (OpVal.moveSl (.inl rfl) rfl) rfl rfl ?_
  have u3 := grd_c hh
  replace hh := grd_t hh
  refine TL.op rfl (OpOk.call (cloneT_con f0_0 u3) rfl rfl pf49 rfl rfl rfl rfl ?_)
  rintro _ _ _ _ ⟨⟨a101, c102, rfl⟩, rfl, rfl⟩
  refine TL.v rfl (OpVal.moveSl (.inr rfl) rfl) rfl rfl ?_
  refine TL.nil ?_
  refine S.n ?_
  refine TC.seq ?_
  refine TC.region ?_
  refine TL.v rfl (OpVal.moveSl (.inl rfl) rfl) rfl rfl ?_
  refine TL.v rfl (OpVal.moveFn (.inl rfl) rfl) rfl rfl ?_
  have hn104 : (sortL cmpTip x0).length = x0.length := List.length_mergeSort _
  refine TL.op rfl (OpOk.call (sortT_con (l := x0)) rfl rfl pf50 rfl rfl rfl rfl ?_)
  rintro _ _ _ _ ⟨rfl, rfl, rfl⟩
  refine TL.nil ?_
  refine S.n ?_
  refine TC.seq ?_
  refine TC.region ?_
  refine TL.v rfl (OpVal.moveSl (.inl rfl) rfl) rfl rfl ?_
  rw [← hn104]
  obtain ⟨v9, u9, hh⟩ := bnd_e hh
  refine TL.op rfl (OpOk.call (compactT_con u9) rfl rfl pf51 rfl rfl rfl rfl ?_)
  rintro _ _ _ hle105 ⟨a105_1, c105_2, rfl, rfl, rfl⟩
  refine TL.v rfl (OpVal.moveSl (.inr rfl) rfl) rfl rfl ?_
  refine TL.nil ?_
  refine S.n ?_
  refine TC.ret ?_
  obtain rfl := Option.some.inj hh
  exact RetOk.mk' (rs := [.tmp 4]) [Res.rowS 57 2 encTip (.slice a105_1 v9.length c105_2) v9] rfl (.inl rfl) (RVs.tmp rfl RVs.nil) (List.sublist_append_left _ _) ⟨a105_1, c105_2, rfl, rfl, rfl⟩

noncomputable def onceA (x0 : List Arc) : Option ((List Arc)) :=
  grd (x0.length * 72 ≤ 140737488355328) (bnd (compactA (sortL cmpArc x0)) (fun v9 => some v9))
def onceA_P (σ : Store) (r : (List Arc)) : Value → Store → List Res → Prop := fun v σ' H' =>
  ∃ (a1 : Option Addr), ∃ (c1 : Nat),  v = .slice a1 r.length c1 ∧ σ = σ' ∧ H' = [Res.rowS 41 8 encArc (.slice a1 r.length c1) r]
theorem onceA_con {σ : Store} {x0 : List Arc} {a0_0 : Option Addr} {c0_0 : Nat} (f0_0 : RS σ 8 encArc (.slice a0_0 x0.length c0_0) x0) {r : (List Arc)} (hh : onceA x0 = some r) :
    Con Try.prog 34 #[.slice a0_0 x0.length c0_0, .func (.func 35) #[] #[]] σ [] (onceA_P σ r) := by
  dsimp only [onceA] at hh
  have f0_0b := f0_0.rv.big
  refine Con.mk (n := 13) Try.func34 rfl rfl rfl (fun w0 => ?_)
  refine TC.seq ?_
  refine TC.region ?_
  refine TL.v rfl (OpVal.moveSl (.inr rfl) rfl) rfl rfl ?_
  refine TL.nil ?_
  refine S.n ?_
  refine TC.seq ?_
  refine TC.region ?_
  refine TL.v rfl (OpVal.moveSl (.inl rfl) rfl) rfl rfl ?_
  have u3 := grd_c hh
  replace hh := grd_t hh
  refine TL.op rfl (OpOk.call (cloneA_con f0_0 u3) rfl rfl pf54 rfl rfl rfl rfl ?_)
  rintro _ _ _ _ ⟨⟨a101, c102, rfl⟩, rfl, rfl⟩
  refine TL.v rfl (OpVal.moveSl (.inr rfl) rfl) rfl rfl ?_
  refine TL.nil ?_
  refine S.n ?_
  refine TC.seq ?_
  refine TC.region ?_
  refine TL.v rfl (OpVal.moveSl (.inl rfl) rfl) rfl rfl ?_
  refine TL.v rfl (OpVal.moveFn (.inl rfl) rfl) rfl rfl ?_
  have hn104 : (sortL cmpArc x0).length = x0.length := List.length_mergeSort _
  refine TL.op rfl (OpOk.call (sortA_con (l := x0)) rfl rfl pf55 rfl rfl rfl rfl ?_)
  rintro _ _ _ _ ⟨rfl, rfl, rfl⟩
  refine TL.nil ?_
  refine S.n ?_
  refine TC.seq ?_
  refine TC.region ?_
  refine TL.v rfl (OpVal.moveSl (.inl rfl) rfl) rfl rfl ?_
  rw [← hn104]
  obtain ⟨v9, u9, hh⟩ := bnd_e hh
  refine TL.op rfl (OpOk.call (compactA_con u9) rfl rfl pf56 rfl rfl rfl rfl ?_)
  rintro _ _ _ hle105 ⟨a105_1, c105_2, rfl, rfl, rfl⟩
  refine TL.v rfl (OpVal.moveSl (.inr rfl) rfl) rfl rfl ?_
  refine TL.nil ?_
  refine S.n ?_
  refine TC.ret ?_
  obtain rfl := Option.some.inj hh
  exact RetOk.mk' (rs := [.tmp 4]) [Res.rowS 41 8 encArc (.slice a105_1 v9.length c105_2) v9] rfl (.inl rfl) (RVs.tmp rfl RVs.nil) (List.sublist_append_left _ _) ⟨a105_1, c105_2, rfl, rfl, rfl⟩

noncomputable def fst_states_b1 (x0 : List Tip) (l112 : List Int) (k115 : Nat) : Option (((List Int) × Nat) ⊕ ((List Int))) :=
  iteO (decide (((k115 : Nat) : Int) < ((x0.length : Nat) : Int))) (grd ((l112.length + [(nth x0 k115 Tip.zero).state].length) * 8 ≤ 140737488355328) (nxt ((l112 ++ [(nth x0 k115 Tip.zero).state]), (k115 + 1)))) (fin (bnd (onceI l112) (fun v20 => some v20)))
noncomputable def fst_states (x0 : List Tip) : Option ((List Int)) :=
  iter (fun q : (List Int) × Nat => fst_states_b1 x0 q.1 q.2) (([] : List Int), 0)
def fst_states_P (σ : Store) (r : (List Int)) : Value → Store → List Res → Prop := fun v σ' H' =>
  ∃ (a1 : Option Addr), ∃ (c1 : Nat),  v = .slice a1 r.length c1 ∧ σ = σ' ∧ H' = [Res.rowS 3 1 Go.E.encI (.slice a1 r.length c1) r]
theorem fst_states_con {σ : Store} {x0 : List Tip} {a0_0 : Option Addr} {c0_0 : Nat} (f0_0 : RS σ 2 encTip (.slice a0_0 x0.length c0_0) x0) {r : (List Int)} (hh : fst_states x0 = some r) :
    Con Try.prog 37 #[.slice a0_0 x0.length c0_0] σ [] (fst_states_P σ r) := by
  dsimp only [fst_states] at hh
  have f0_0b := f0_0.rv.big
  refine Con.mk (n := 20) Try.func37 rfl rfl rfl (fun w0 => ?_)
  refine TC.seq ?_
  refine TC.region ?_
  refine TL.v rfl (OpVal.moveSl (.inr rfl) rfl) rfl rfl ?_
  refine TL.nil ?_
  refine S.n ?_
  refine TC.seq ?_
  refine TC.region ?_
  refine TL.v rfl (OpVal.moveSl (.inr rfl) rfl) rfl rfl ?_
  refine TL.nil ?_
  refine S.n ?_
  refine TC.seq ?_
  refine TC.seq ?_
  refine TC.region ?_
  refine TL.v rfl (OpVal.moveSl (.inl rfl) rfl) rfl rfl ?_
  refine TL.v rfl (OpVal.lenC rfl Try.underlying22 rfl) rfl rfl ?_
  refine TL.v rfl (OpVal.moveI (.inl rfl) rfl) rfl rfl ?_
  refine TL.nil ?_
  refine S.n ?_
  refine TC.block ?_
  refine TC.nilS 3 1 Go.E.encI ?_
  refine TC.loopG (α := ((List Int) × Nat) × ((Option Addr) × Nat)) [3, 5, 8, 9, 10, 11, 12, 13, 14, 15, 16, 17] (fun g => [(3, .slice g.2.1 g.1.1.length g.2.2), (8, .int .i64 ((g.1.2 : Nat) : Int))]) (fun g => [Res.rowS 3 1 Go.E.encI (.slice g.2.1 g.1.1.length g.2.2) g.1.1]) (fun g => σ) (fun g => iter (fun q : (List Int) × Nat => fst_states_b1 x0 q.1 q.2) g.1 = some r) (fun g => rounds (fun q : (List Int) × Nat => fst_states_b1 x0 q.1 q.2) g.1) ((([] : List Int), 0), (none, 0)) (Sub.pre 1 rfl) rfl (by repeat (first | exact trivial | refine ⟨rfl, ?_⟩)) hh (fun g1 j1 hg1 => ?_)
  obtain ⟨⟨l112, k115⟩, ⟨a113, c114⟩⟩ := g1
  have hh := hg1; clear hg1
  show TC _ _ _ (upds (mask _ j1 _) [(3, .slice a113 l112.length c114), (8, .int .i64 ((k115 : Nat) : Int))]) _ [Res.rowS 3 1 Go.E.encI (.slice a113 l112.length c114) l112]
  obtain ⟨z1, hh, hR1⟩ := iter_e hh
  dsimp only [fst_states_b1] at hh
  refine TC.isSl (i := 0) rfl (fun _ hb117 _ => ?_)
  refine TC.seq ?_
  refine TC.region ?_
  refine TL.v rfl (OpVal.lss rfl rfl rfl) rfl rfl ?_
  refine TL.nil ?_
  refine S.n ?_
  refine TC.seq ?_
  refine TC.cond rfl (fun h118 => ?_) (fun h118 => ?_)
  · replace hh := iteO_t h118 hh
    replace h118 := of_decide_eq_true h118
    refine TC.skip ?_
    refine S.n ?_
    refine TC.seq ?_
    refine TC.block ?_
    refine TC.seq ?_
    refine TC.region ?_
    refine TL.v rfl (OpVal.indexN rfl Try.underlying22 sz57 rfl rfl f0_0.rv.sl (by omega)) rfl rfl ?_
    refine TL.v rfl (OpVal.loadSA Tip.zero rfl ag57 sz57 rfl f0_0 (by omega) (by omega)) rfl rfl ?_
    refine TL.op rfl (OpOk.alloc rfl ze57 rfl rfl (fun b119 => ?_))
    refine TL.op rfl (OpOk.storeAll rfl sz57 rfl rfl rfl rfl rfl rfl ?_)
    refine TL.nil ?_
    refine S.n ?_
    refine TC.region ?_
    refine TL.v rfl (OpVal.moveSl (.inl rfl) rfl) rfl rfl ?_
    refine TL.v rfl (OpVal.fieldLoc rfl fo57_0 rfl) rfl rfl ?_
    refine TL.v rfl (OpVal.loadLoc rfl ag3 rfl (i := 0) rfl rfl) rfl rfl ?_
    refine TL.op rfl (OpOk.lit (enc := Go.E.encI) [(nth x0 k115 Tip.zero).state] rfl Try.underlying47 sz3 ze3 rfl rfl rfl Go.E.encI_len (by decide) (by decide) (0 : Int) rfl (by decide) rfl (by decide) Go.E.encI_one (fun a121 c122 => ?_))
    refine TL.front 2 rfl rfl ?_
    have u15 := grd_c hh
    replace hh := grd_t hh
    refine TL.op rfl (OpOk.appendS rfl rfl Try.underlying47 sz3 by3 ze3 rfl rfl (by decide) rfl rfl rfl (.inr ⟨_, 0, rfl⟩) (by simpa using u15) (by decide) (fun a124 c125 => ?_))
    refine TL.v rfl (OpVal.moveSl (.inr rfl) rfl) rfl rfl ?_
    refine TL.nil ?_
    refine B.n ?_
    refine S.n ?_
    refine TC.region ?_
    refine TL.v rfl (OpVal.succ rfl rfl rfl (by omega)) rfl rfl ?_
    refine TL.v rfl (OpVal.moveI (.inl rfl) rfl) rfl rfl ?_
    refine TL.nil ?_
    refine S.n ?_
    obtain ⟨hh, hlt126⟩ := nxt_x hR1 hh
    refine ⟨by repeat (first | exact Agr.refl _ _ | exact Agr.mask | refine Agr.upd rfl ?_ | refine Agr.maskIn rfl ?_ | refine Agr.upds rfl ?_), (((l112 ++ [(nth x0 k115 Tip.zero).state]), (k115 + 1)), (a124, c125)), hlt126, hh, by repeat (first | exact trivial | refine ⟨rfl, ?_⟩), Sub.pre 1 rfl, rfl⟩
  · replace hh := iteO_f h118 hh
    replace h118 := of_decide_eq_false h118
    refine TC.exit ?_
    refine S.x ?_
    refine S.x ?_
    replace hh := fin_x hR1 hh
    refine TC.exitHere ?_
    refine S.n ?_
    refine TC.seq ?_
    refine TC.region ?_
    refine TL.v rfl (OpVal.moveSl (.inl rfl) rfl) rfl rfl ?_
    refine TL.sealS Go.E.encI_len (fun τ129 hle128 hr127 => ?_)
    replace f0_0 := f0_0.mono hle128
    have hr127b := hr127.rv.big
    obtain ⟨v20, u20, hh⟩ := bnd_e hh
    refine TL.op rfl (OpOk.call (onceI_con hr127 u20) rfl rfl pf59 rfl rfl rfl rfl ?_)
    rintro _ _ _ hle130 ⟨a130_1, c130_1, rfl, rfl, rfl⟩
    refine TL.v rfl (OpVal.moveSl (.inr rfl) rfl) rfl rfl ?_
    refine TL.nil ?_
    refine S.n ?_
    refine TC.back ?_
    refine TC.ret ?_
    obtain rfl := Option.some.inj hh
    exact RetOk.mk' (rs := [.tmp 2]) [Res.rowS 3 1 Go.E.encI (.slice a130_1 v20.length c130_1) v20] rfl (.inl rfl) (RVs.tmp rfl RVs.nil) (List.sublist_append_left _ _) ⟨a130_1, c130_1, rfl, rfl, rfl⟩

noncomputable def fst_In_b1 (x0 : Fst) (l109 : List Int) (l113 : List Int) (l151 : List Arrow) (k154 : Nat) : Option (((List Arrow) × Nat) ⊕ (Nfa × Int)) :=
  iteO (decide (((k154 : Nat) : Int) < ((x0.arcs.length : Nat) : Int))) (grd ((l151.length + [(⟨(nth x0.arcs k154 Arc.zero).frm, (nth x0.arcs k154 Arc.zero).to, (nth x0.arcs k154 Arc.zero).set⟩ : Arrow)].length) * 48 ≤ 140737488355328) (nxt ((l151 ++ [(⟨(nth x0.arcs k154 Arc.zero).frm, (nth x0.arcs k154 Arc.zero).to, (nth x0.arcs k154 Arc.zero).set⟩ : Arrow)]), (k154 + 1)))) (fin (some ((⟨x0.states, l109, l113, l151⟩ : Nfa), 0)))
noncomputable def fst_In_j1 (x0 : Fst) (l109 : List Int) (l113 : List Int) : Option (Nfa × Int) :=
  iter (fun q : (List Arrow) × Nat => fst_In_b1 x0 l109 l113 q.1 q.2) (([] : List Arrow), 0)
noncomputable def fst_In (x0 : Fst) : Option (Nfa × Int) :=
  bnd (fst_Check x0) (fun v5 => iteO (decide (v5 ≠ 0)) (some ((⟨0, ([] : List Int), ([] : List Int), ([] : List Arrow)⟩ : Nfa), 1)) (bnd (fst_states x0.starts) (fun v14 => bnd (fst_states x0.ends) (fun v17 => fst_In_j1 x0 v14 v17))))
def fst_In_P (σ : Store) (r : Nfa × Int) : Value → Store → List Res → Prop := fun v σ' H' =>
  ∃ (a1 : Option Addr), ∃ (c1 : Nat), ∃ (a2 : Option Addr), ∃ (c2 : Nat), ∃ (a3 : Option Addr), ∃ (c3 : Nat),  v = .tuple #[.agg #[.int .i64 r.1.states, .slice a1 r.1.starts.length c1, .slice a2 r.1.ends.length c2, .slice a3 r.1.edges.length c3], .int .i64 r.2] ∧ RS σ' 1 Go.E.encI (.slice a1 r.1.starts.length c1) r.1.starts ∧ RS σ' 1 Go.E.encI (.slice a2 r.1.ends.length c2) r.1.ends ∧ RS σ' 6 encE (.slice a3 r.1.edges.length c3) r.1.edges ∧ H' = []
theorem fst_In_con {σ : Store} {x0 : Fst} {a0_0 : Option Addr} {c0_0 : Nat} {a0_1 : Option Addr} {c0_1 : Nat} {a0_2 : Option Addr} {c0_2 : Nat} (f0_0 : RS σ 2 encTip (.slice a0_0 x0.starts.length c0_0) x0.starts) (f0_1 : RS σ 2 encTip (.slice a0_1 x0.ends.length c0_1) x0.ends) (f0_2 : RS σ 8 encArc (.slice a0_2 x0.arcs.length c0_2) x0.arcs) {r : Nfa × Int} (hh : fst_In x0 = some r) :
    Con Try.prog 18 #[.agg #[.int .i64 x0.states, .slice a0_0 x0.starts.length c0_0, .slice a0_1 x0.ends.length c0_1, .slice a0_2 x0.arcs.length c0_2]] σ [] (fst_In_P σ r) := by
  dsimp only [fst_In] at hh
  have f0_0b := f0_0.rv.big
  have f0_1b := f0_1.rv.big
  have f0_2b := f0_2.rv.big
  refine Con.mk (n := 41) Try.func18 rfl rfl rfl (fun w0 => ?_)
  refine TC.seq ?_
  refine TC.region ?_
  refine TL.op rfl (OpOk.boxA rfl rfl rfl rfl (fun b101 => ?_))
  refine TL.op rfl (OpOk.alloc rfl ze50 rfl rfl (fun b103 => ?_))
  refine TL.v rfl (OpVal.moveI (.inr rfl) rfl) rfl rfl ?_
  refine TL.nil ?_
  refine S.n ?_
  refine TC.seq ?_
  refine TC.seq ?_
  refine TC.region ?_
  refine TL.v rfl (OpVal.loadAll rfl ag25 sz25 rfl (i := 1) rfl rfl) rfl rfl ?_
  obtain ⟨v5, u5, hh⟩ := bnd_e hh
  refine TL.op rfl (OpOk.callP (fst_Check_con (x0 := x0) f0_0 f0_1 f0_2 u5) rfl rfl pf13 rfl rfl rfl ?_)
  refine TL.v rfl (OpVal.neq rfl rfl rfl) rfl rfl ?_
  refine TL.nil ?_
  refine S.n ?_
  refine TC.cond rfl (fun h105 => ?_) (fun h105 => ?_)
  · replace hh := iteO_t h105 hh
    replace h105 := of_decide_eq_true h105
    refine TC.seq ?_
    refine TC.region ?_
    refine TL.v rfl (OpVal.buildL rfl pl50 ze50 rfl) rfl rfl ?_
    refine TL.op rfl (OpOk.storeAll rfl sz50 rfl rfl rfl rfl rfl rfl ?_)
    refine TL.v rfl (OpVal.moveI (.inr rfl) rfl) rfl rfl ?_
    refine TL.nil ?_
    refine S.n ?_
    refine TC.ofSub (Sub.pre 1 rfl) ?_
    refine TC.ret ?_
    refine S.r ?_
    obtain rfl := Option.some.inj hh
    exact RetOk.mk' (rs := [.cell 2 50, .tmp 3]) [] rfl (.inl rfl) (RVs.agg ag50 sz50 rfl (i := 0) rfl rfl (RVs.tmp rfl RVs.nil)) (List.sublist_append_left _ _) ⟨none, 0, none, 0, none, 0, rfl, (RS.nilF _ Go.E.encI Go.E.encI_len), (RS.nilF _ Go.E.encI Go.E.encI_len), (RS.nilF _ encE encE_len), rfl⟩
  · replace hh := iteO_f h105 hh
    replace h105 := of_decide_eq_false h105
    refine TC.skip ?_
    refine S.n ?_
    refine TC.cutG (α := ((List Int) × (List Int)) × (Nat × (Option Addr) × Nat × (Option Addr) × Nat)) [4, 11, 12, 13, 14, 15, 16, 17, 18, 19] (fun g => [(4, loc g.2.1 0)]) (fun g => [Res.cells b101 #[.int .i64 x0.states, .slice a0_0 x0.starts.length c0_0, .slice a0_1 x0.ends.length c0_1, .slice a0_2 x0.arcs.length c0_2] 25, Res.cells b103 #[.int .i64 0, .slice none 0 0, .slice none 0 0, .slice none 0 0] 50, Res.cells g.2.1 #[.int .i64 x0.states, .slice g.2.2.1 g.1.1.length g.2.2.2.1, .slice g.2.2.2.2.1 g.1.2.length g.2.2.2.2.2, .slice none 0 0] 50, Res.rowS 3 1 Go.E.encI (.slice g.2.2.1 g.1.1.length g.2.2.2.1) g.1.1, Res.rowS 3 1 Go.E.encI (.slice g.2.2.2.2.1 g.1.2.length g.2.2.2.2.2) g.1.2]) (fun g => σ) (fun g => fst_In_j1 x0 g.1.1 g.1.2 = some r) ?_ (fun g j hg => ?_)
    · skip
      obtain ⟨v14, u14, hh⟩ := bnd_e hh
      obtain ⟨v17, u17, hh⟩ := bnd_e hh
      refine TC.draw [10] (by kernel_rfl) ?_
      refine TA.takeP 0 rfl (by kernel_rfl) (by kernel_rfl) (by kernel_rfl) rfl (OpVal.fieldLoc rfl fo25_0 rfl) rfl rfl ?_
      refine TA.take 1 rfl (by kernel_rfl) (by kernel_rfl) (by kernel_rfl) (by kernel_rfl) rfl (OpVal.loadLoc rfl ag3 rfl (i := 1) rfl rfl) rfl rfl ?_
      refine TA.takeP 2 rfl (by kernel_rfl) (by kernel_rfl) (by kernel_rfl) rfl (OpVal.fieldLoc rfl fo25_1 rfl) rfl rfl ?_
      refine TA.take 3 rfl (by kernel_rfl) (by kernel_rfl) (by kernel_rfl) (by kernel_rfl) rfl (OpVal.loadLoc rfl ag22 rfl (i := 1) rfl rfl) rfl rfl ?_
      refine TA.takeP 5 rfl (by kernel_rfl) (by kernel_rfl) (by kernel_rfl) rfl (OpVal.fieldLoc rfl fo25_2 rfl) rfl rfl ?_
      refine TA.take 6 rfl (by kernel_rfl) (by kernel_rfl) (by kernel_rfl) (by kernel_rfl) rfl (OpVal.loadLoc rfl ag22 rfl (i := 1) rfl rfl) rfl rfl ?_
      refine TA.actN [4, 9] (by kernel_rfl) (And.intro (Exists.intro _ (And.intro rfl (And.intro rfl (OpOk.call (fst_states_con f0_0 u14) rfl rfl pf37 rfl rfl rfl rfl ?_)))) (And.intro (Exists.intro _ (And.intro rfl (And.intro rfl (OpOk.alloc rfl ze50 rfl rfl (fun b124 => ⟨(fun w h => sees_of (Store.le.refl _) (fun r hr => (List.mem_cons_of_mem _ hr)) w h), ?_⟩))))) (True.intro)))
      · skip
        rintro _ _ _ hle122 ⟨a122_1, c122_1, rfl, rfl, rfl⟩
        refine ⟨(fun w h => sees_of (Store.le.refl _) (fun r hr => (List.mem_cons_of_mem _ hr)) w h), ?_⟩
        refine TA.actN [7, 9] (by kernel_rfl) (And.intro (Exists.intro _ (And.intro rfl (And.intro rfl (OpOk.call (fst_states_con f0_1 u17) rfl rfl pf37 rfl rfl rfl rfl ?_)))) (And.intro (Exists.intro _ (And.intro rfl (And.intro rfl (OpOk.alloc rfl ze50 rfl rfl (fun b128 => ⟨(fun w h => sees_of (Store.le.refl _) (fun r hr => (List.mem_cons_of_mem _ (List.mem_cons_of_mem _ hr))) w h), ?_⟩))))) (True.intro)))
        · skip
          rintro _ _ _ hle126 ⟨a126_1, c126_1, rfl, rfl, rfl⟩
          refine ⟨(fun w h => sees_of (Store.le.refl _) (fun r hr => (List.mem_cons_of_mem _ (List.mem_cons_of_mem _ hr))) w h), ?_⟩
          refine TA.takeP 8 rfl (by kernel_rfl) (by kernel_rfl) (by kernel_rfl) rfl (OpVal.buildL rfl pl50 ze50 rfl) rfl rfl ?_
          refine TA.act 9 (by kernel_rfl) rfl rfl (OpOk.alloc rfl ze50 rfl rfl (fun b130 => ⟨(fun w h => sees_of (Store.le.refl _) (fun r hr => (List.mem_cons_of_mem _ (List.mem_cons_of_mem _ (List.mem_cons_of_mem _ hr)))) w h), ?_⟩))
          refine TA.last 10 (by kernel_rfl) rfl rfl rfl (OpOk.storeAll rfl sz50 rfl rfl rfl rfl rfl rfl ?_)
          refine TZ.done (by kernel_rfl) ?_
          refine S.n ?_
          refine ⟨by repeat (first | exact Agr.refl _ _ | exact Agr.mask | refine Agr.upd rfl ?_ | refine Agr.maskIn rfl ?_ | refine Agr.upds rfl ?_), ((v14, v17), (b130, a122_1, c122_1, a126_1, c126_1)), hh, by repeat (first | exact trivial | refine ⟨rfl, ?_⟩), Sub.front 1 rfl rfl (Sub.front 2 rfl rfl (Sub.front 2 rfl rfl (Sub.front 3 rfl rfl (Sub.front 4 rfl rfl (Sub.pre 5 rfl))))), rfl⟩
        · skip
          refine TA.act 7 (by kernel_rfl) rfl rfl (OpOk.call (fst_states_con f0_1 u17) rfl rfl pf37 rfl rfl rfl rfl ?_)
          rintro _ _ _ hle132 ⟨a132_1, c132_1, rfl, rfl, rfl⟩
          refine ⟨(fun w h => sees_of (Store.le.refl _) (fun r hr => (List.mem_cons_of_mem _ (List.mem_cons_of_mem _ (List.mem_cons_of_mem _ hr)))) w h), ?_⟩
          refine TA.takeP 8 rfl (by kernel_rfl) (by kernel_rfl) (by kernel_rfl) rfl (OpVal.buildL rfl pl50 ze50 rfl) rfl rfl ?_
          refine TA.front 1 rfl rfl ?_
          refine TA.last 10 (by kernel_rfl) rfl rfl rfl (OpOk.storeAll rfl sz50 rfl rfl rfl rfl rfl rfl ?_)
          refine TZ.done (by kernel_rfl) ?_
          refine S.n ?_
          refine ⟨by repeat (first | exact Agr.refl _ _ | exact Agr.mask | refine Agr.upd rfl ?_ | refine Agr.maskIn rfl ?_ | refine Agr.upds rfl ?_), ((v14, v17), (b128, a122_1, c122_1, a132_1, c132_1)), hh, by repeat (first | exact trivial | refine ⟨rfl, ?_⟩), Sub.front 1 rfl rfl (Sub.front 2 rfl rfl (Sub.front 2 rfl rfl (Sub.front 3 rfl rfl (Sub.front 4 rfl rfl (Sub.pre 5 rfl))))), rfl⟩
      · skip
        refine TA.act 4 (by kernel_rfl) rfl rfl (OpOk.call (fst_states_con f0_0 u14) rfl rfl pf37 rfl rfl rfl rfl ?_)
        rintro _ _ _ hle134 ⟨a134_1, c134_1, rfl, rfl, rfl⟩
        refine ⟨(fun w h => sees_of (Store.le.refl _) (fun r hr => (List.mem_cons_of_mem _ (List.mem_cons_of_mem _ hr))) w h), ?_⟩
        refine TA.act 7 (by kernel_rfl) rfl rfl (OpOk.call (fst_states_con f0_1 u17) rfl rfl pf37 rfl rfl rfl rfl ?_)
        rintro _ _ _ hle136 ⟨a136_1, c136_1, rfl, rfl, rfl⟩
        refine ⟨(fun w h => sees_of (Store.le.refl _) (fun r hr => (List.mem_cons_of_mem _ (List.mem_cons_of_mem _ (List.mem_cons_of_mem _ hr)))) w h), ?_⟩
        refine TA.takeP 8 rfl (by kernel_rfl) (by kernel_rfl) (by kernel_rfl) rfl (OpVal.buildL rfl pl50 ze50 rfl) rfl rfl ?_
        refine TA.front 2 rfl rfl ?_
        refine TA.last 10 (by kernel_rfl) rfl rfl rfl (OpOk.storeAll rfl sz50 rfl rfl rfl rfl rfl rfl ?_)
        refine TZ.done (by kernel_rfl) ?_
        refine S.n ?_
        refine ⟨by repeat (first | exact Agr.refl _ _ | exact Agr.mask | refine Agr.upd rfl ?_ | refine Agr.maskIn rfl ?_ | refine Agr.upds rfl ?_), ((v14, v17), (b124, a134_1, c134_1, a136_1, c136_1)), hh, by repeat (first | exact trivial | refine ⟨rfl, ?_⟩), Sub.front 1 rfl rfl (Sub.front 2 rfl rfl (Sub.front 2 rfl rfl (Sub.front 3 rfl rfl (Sub.front 4 rfl rfl (Sub.pre 5 rfl))))), rfl⟩
    · skip
      obtain ⟨⟨l109, l113⟩, ⟨b107, a110, c111, a114, c115⟩⟩ := g
      have hh := hg; clear hg
      show TC _ _ _ (upds (mask _ j _) [(4, loc b107 0)]) _ [Res.cells b101 #[.int .i64 x0.states, .slice a0_0 x0.starts.length c0_0, .slice a0_1 x0.ends.length c0_1, .slice a0_2 x0.arcs.length c0_2] 25, Res.cells b103 #[.int .i64 0, .slice none 0 0, .slice none 0 0, .slice none 0 0] 50, Res.cells b107 #[.int .i64 x0.states, .slice a110 l109.length c111, .slice a114 l113.length c115, .slice none 0 0] 50, Res.rowS 3 1 Go.E.encI (.slice a110 l109.length c111) l109, Res.rowS 3 1 Go.E.encI (.slice a114 l113.length c115) l113]
      dsimp only [fst_In_j1] at hh
      refine TC.isSl (i := 3) rfl (fun _ hb138 _ => ?_)
      refine TC.isSl (i := 4) rfl (fun _ hb139 _ => ?_)
      refine TC.seq ?_
      refine TC.seq ?_
      refine TC.region ?_
      refine TL.v rfl (OpVal.fieldLoc rfl fo25_3 rfl) rfl rfl ?_
      refine TL.v rfl (OpVal.loadLoc rfl ag23 rfl (i := 0) rfl rfl) rfl rfl ?_
      refine TL.v rfl (OpVal.lenC rfl Try.underlying23 rfl) rfl rfl ?_
      refine TL.v rfl (OpVal.moveI (.inl rfl) rfl) rfl rfl ?_
      refine TL.nil ?_
      refine S.n ?_
      refine TC.block ?_
      refine TC.nilS 82 6 encE ?_
      refine TC.loopG (α := ((List Arrow) × Nat) × ((Option Addr) × Nat)) [6, 23, 24, 25, 26, 27, 28, 29, 30, 31, 32, 33, 34, 35, 36, 37, 38, 39] (fun g => [(23, .int .i64 ((g.1.2 : Nat) : Int))]) (fun g => [Res.cells b103 #[.int .i64 0, .slice none 0 0, .slice none 0 0, .slice none 0 0] 50, Res.cells b107 #[.int .i64 x0.states, .slice a110 l109.length c111, .slice a114 l113.length c115, .slice g.2.1 g.1.1.length g.2.2] 50, Res.rowS 3 1 Go.E.encI (.slice a110 l109.length c111) l109, Res.rowS 3 1 Go.E.encI (.slice a114 l113.length c115) l113, Res.rowS 82 6 encE (.slice g.2.1 g.1.1.length g.2.2) g.1.1]) (fun g => σ) (fun g => iter (fun q : (List Arrow) × Nat => fst_In_b1 x0 l109 l113 q.1 q.2) g.1 = some r) (fun g => rounds (fun q : (List Arrow) × Nat => fst_In_b1 x0 l109 l113 q.1 q.2) g.1) ((([] : List Arrow), 0), (none, 0)) (Sub.front 5 rfl rfl (Sub.front 5 rfl rfl (Sub.front 5 rfl rfl (Sub.front 5 rfl rfl (Sub.pre 5 rfl))))) rfl (by repeat (first | exact trivial | refine ⟨rfl, ?_⟩)) hh (fun g1 j1 hg1 => ?_)
      obtain ⟨⟨l151, k154⟩, ⟨a152, c153⟩⟩ := g1
      have hh := hg1; clear hg1
      show TC _ _ _ (upds (mask _ j1 _) [(23, .int .i64 ((k154 : Nat) : Int))]) _ [Res.cells b103 #[.int .i64 0, .slice none 0 0, .slice none 0 0, .slice none 0 0] 50, Res.cells b107 #[.int .i64 x0.states, .slice a110 l109.length c111, .slice a114 l113.length c115, .slice a152 l151.length c153] 50, Res.rowS 3 1 Go.E.encI (.slice a110 l109.length c111) l109, Res.rowS 3 1 Go.E.encI (.slice a114 l113.length c115) l113, Res.rowS 82 6 encE (.slice a152 l151.length c153) l151]
      obtain ⟨z1, hh, hR1⟩ := iter_e hh
      dsimp only [fst_In_b1] at hh
      refine TC.isSl (i := 2) rfl (fun _ hb156 _ => ?_)
      refine TC.isSl (i := 3) rfl (fun _ hb157 _ => ?_)
      refine TC.isSl (i := 4) rfl (fun _ hb158 _ => ?_)
      refine TC.seq ?_
      refine TC.region ?_
      refine TL.v rfl (OpVal.lss rfl rfl rfl) rfl rfl ?_
      refine TL.nil ?_
      refine S.n ?_
      refine TC.seq ?_
      refine TC.cond rfl (fun h159 => ?_) (fun h159 => ?_)
      · replace hh := iteO_t h159 hh
        replace h159 := of_decide_eq_true h159
        refine TC.skip ?_
        refine S.n ?_
        refine TC.seq ?_
        refine TC.block ?_
        refine TC.seq ?_
        refine TC.region ?_
        refine TL.v rfl (OpVal.indexN rfl Try.underlying23 sz41 rfl rfl f0_2.rv.sl (by omega)) rfl rfl ?_
        refine TL.v rfl (OpVal.loadSA Arc.zero rfl ag41 sz41 rfl f0_2 (by omega) (by omega)) rfl rfl ?_
        refine TL.op rfl (OpOk.alloc rfl ze41 rfl rfl (fun b160 => ?_))
        refine TL.op rfl (OpOk.storeAll rfl sz41 rfl rfl rfl rfl rfl rfl ?_)
        refine TL.nil ?_
        refine S.n ?_
        refine TC.region ?_
        refine TL.v rfl (OpVal.fieldLoc rfl fo50_3 rfl) rfl rfl ?_
        refine TL.v rfl (OpVal.loadLoc rfl ag48 rfl (i := 2) rfl rfl) rfl rfl ?_
        refine TL.v rfl (OpVal.fieldLoc rfl fo41_0 rfl) rfl rfl ?_
        refine TL.v rfl (OpVal.loadLoc rfl ag3 rfl (i := 0) rfl rfl) rfl rfl ?_
        refine TL.v rfl (OpVal.fieldLoc rfl fo41_1 rfl) rfl rfl ?_
        refine TL.v rfl (OpVal.loadLoc rfl ag3 rfl (i := 0) rfl rfl) rfl rfl ?_
        refine TL.v rfl (OpVal.fieldLoc rfl fo41_2 rfl) rfl rfl ?_
        refine TL.v rfl (OpVal.loadLocA rfl ag39 sz39 rfl (i := 0) rfl rfl rfl) rfl rfl ?_
        refine TL.v rfl (OpVal.buildL rfl pl82 ze82 rfl) rfl rfl ?_
        refine TL.op rfl (OpOk.lit (enc := encE) [(⟨(nth x0.arcs k154 Arc.zero).frm, (nth x0.arcs k154 Arc.zero).to, (nth x0.arcs k154 Arc.zero).set⟩ : Arrow)] rfl Try.underlying48 sz82 ze82 rfl rfl rfl encE_len (by decide) (by decide) Arrow.zero rfl (by decide) rfl (by decide) encE_one (fun a162 c163 => ?_))
        refine TL.front 6 rfl rfl ?_
        have u40 := grd_c hh
        replace hh := grd_t hh
        refine TL.op rfl (OpOk.appendS rfl rfl Try.underlying48 sz82 by82 ze82 rfl rfl (by decide) rfl rfl rfl (.inr ⟨_, 0, rfl⟩) (by simpa using u40) (by decide) (fun a165 c166 => ?_))
        refine TL.v rfl (OpVal.fieldLoc rfl fo50_3 rfl) rfl rfl ?_
        refine TL.front 4 rfl rfl ?_
        refine TL.op rfl (OpOk.storeSl rfl sz48 rfl rfl rfl rfl rfl ?_)
        refine TL.nil ?_
        refine B.n ?_
        refine S.n ?_
        refine TC.region ?_
        refine TL.v rfl (OpVal.succ rfl rfl rfl (by omega)) rfl rfl ?_
        refine TL.v rfl (OpVal.moveI (.inl rfl) rfl) rfl rfl ?_
        refine TL.nil ?_
        refine S.n ?_
        obtain ⟨hh, hlt167⟩ := nxt_x hR1 hh
        refine ⟨by repeat (first | exact Agr.refl _ _ | exact Agr.mask | refine Agr.upd rfl ?_ | refine Agr.maskIn rfl ?_ | refine Agr.upds rfl ?_), (((l151 ++ [(⟨(nth x0.arcs k154 Arc.zero).frm, (nth x0.arcs k154 Arc.zero).to, (nth x0.arcs k154 Arc.zero).set⟩ : Arrow)]), (k154 + 1)), (a165, c166)), hlt167, hh, by repeat (first | exact trivial | refine ⟨rfl, ?_⟩), Sub.front 1 rfl rfl (Sub.front 6 rfl rfl (Sub.front 6 rfl rfl (Sub.front 3 rfl rfl (Sub.front 6 rfl rfl (Sub.pre 5 rfl))))), rfl⟩
      · replace hh := iteO_f h159 hh
        replace h159 := of_decide_eq_false h159
        refine TC.exit ?_
        refine S.x ?_
        refine S.x ?_
        replace hh := fin_x hR1 hh
        refine TC.exitHere ?_
        refine S.n ?_
        refine TC.seq ?_
        refine TC.region ?_
        refine TL.v rfl (OpVal.loadAll rfl ag50 sz50 rfl (i := 1) rfl rfl) rfl rfl ?_
        refine TL.op rfl (OpOk.storeAll rfl sz50 rfl rfl rfl rfl rfl rfl ?_)
        refine TL.v rfl (OpVal.moveI (.inr rfl) rfl) rfl rfl ?_
        refine TL.nil ?_
        refine S.n ?_
        refine TC.front 2 rfl rfl ?_
        refine TC.sealS Go.E.encI_len (fun τ170 hle169 hr168 => ?_)
        replace f0_0 := f0_0.mono hle169
        replace f0_1 := f0_1.mono hle169
        replace f0_2 := f0_2.mono hle169
        have hr168b := hr168.rv.big
        refine TC.front 2 rfl rfl ?_
        refine TC.sealS Go.E.encI_len (fun τ173 hle172 hr171 => ?_)
        replace f0_0 := f0_0.mono hle172
        replace f0_1 := f0_1.mono hle172
        replace f0_2 := f0_2.mono hle172
        replace hr168 := hr168.mono hle172
        have hr171b := hr171.rv.big
        refine TC.front 2 rfl rfl ?_
        refine TC.sealS encE_len (fun τ176 hle175 hr174 => ?_)
        replace f0_0 := f0_0.mono hle175
        replace f0_1 := f0_1.mono hle175
        replace f0_2 := f0_2.mono hle175
        replace hr168 := hr168.mono hle175
        replace hr171 := hr171.mono hle175
        have hr174b := hr174.rv.big
        refine TC.ofSub (Sub.pre 1 rfl) ?_
        refine TC.ret ?_
        obtain rfl := Option.some.inj hh
        exact RetOk.mk' (rs := [.cell 2 50, .tmp 3]) [] rfl (.inl rfl) (RVs.agg ag50 sz50 rfl (i := 0) rfl rfl (RVs.tmp rfl RVs.nil)) (List.sublist_append_left _ _) ⟨a110, c111, a114, c115, a152, c153, rfl, hr168, hr171, hr174, rfl⟩

noncomputable def fst_Sort (x0 : Fst) : Option (Fst × Int) :=
  bnd (fst_Check x0) (fun v5 => iteO (decide (v5 ≠ 0)) (some ((⟨0, ([] : List Tip), ([] : List Tip), ([] : List Arc)⟩ : Fst), 1)) (bnd (onceT x0.starts) (fun v14 => bnd (onceT x0.ends) (fun v17 => bnd (onceA x0.arcs) (fun v20 => some ((⟨x0.states, v14, v17, v20⟩ : Fst), 0))))))
def fst_Sort_P (σ : Store) (r : Fst × Int) : Value → Store → List Res → Prop := fun v σ' H' =>
  ∃ (a1 : Option Addr), ∃ (c1 : Nat), ∃ (a2 : Option Addr), ∃ (c2 : Nat), ∃ (a3 : Option Addr), ∃ (c3 : Nat),  v = .tuple #[.agg #[.int .i64 r.1.states, .slice a1 r.1.starts.length c1, .slice a2 r.1.ends.length c2, .slice a3 r.1.arcs.length c3], .int .i64 r.2] ∧ RS σ' 2 encTip (.slice a1 r.1.starts.length c1) r.1.starts ∧ RS σ' 2 encTip (.slice a2 r.1.ends.length c2) r.1.ends ∧ RS σ' 8 encArc (.slice a3 r.1.arcs.length c3) r.1.arcs ∧ H' = []
theorem fst_Sort_con {σ : Store} {x0 : Fst} {a0_0 : Option Addr} {c0_0 : Nat} {a0_1 : Option Addr} {c0_1 : Nat} {a0_2 : Option Addr} {c0_2 : Nat} (f0_0 : RS σ 2 encTip (.slice a0_0 x0.starts.length c0_0) x0.starts) (f0_1 : RS σ 2 encTip (.slice a0_1 x0.ends.length c0_1) x0.ends) (f0_2 : RS σ 8 encArc (.slice a0_2 x0.arcs.length c0_2) x0.arcs) {r : Fst × Int} (hh : fst_Sort x0 = some r) :
    Con Try.prog 16 #[.agg #[.int .i64 x0.states, .slice a0_0 x0.starts.length c0_0, .slice a0_1 x0.ends.length c0_1, .slice a0_2 x0.arcs.length c0_2]] σ [] (fst_Sort_P σ r) := by
  dsimp only [fst_Sort] at hh
  have f0_0b := f0_0.rv.big
  have f0_1b := f0_1.rv.big
  have f0_2b := f0_2.rv.big
  refine Con.mk (n := 20) Try.func16 rfl rfl rfl (fun w0 => ?_)
  refine TC.seq ?_
  refine TC.region ?_
  refine TL.op rfl (OpOk.boxA rfl rfl rfl rfl (fun b101 => ?_))
  refine TL.op rfl (OpOk.alloc rfl ze25 rfl rfl (fun b103 => ?_))
  refine TL.v rfl (OpVal.moveI (.inr rfl) rfl) rfl rfl ?_
  refine TL.nil ?_
  refine S.n ?_
  refine TC.seq ?_
  refine TC.seq ?_
  refine TC.region ?_
  refine TL.v rfl (OpVal.loadAll rfl ag25 sz25 rfl (i := 1) rfl rfl) rfl rfl ?_
  obtain ⟨v5, u5, hh⟩ := bnd_e hh
  refine TL.op rfl (OpOk.callP (fst_Check_con (x0 := x0) f0_0 f0_1 f0_2 u5) rfl rfl pf13 rfl rfl rfl ?_)
  refine TL.v rfl (OpVal.neq rfl rfl rfl) rfl rfl ?_
  refine TL.nil ?_
  refine S.n ?_
  refine TC.cond rfl (fun h105 => ?_) (fun h105 => ?_)
  · replace hh := iteO_t h105 hh
    replace h105 := of_decide_eq_true h105
    refine TC.seq ?_
    refine TC.region ?_
    refine TL.v rfl (OpVal.buildL rfl pl25 ze25 rfl) rfl rfl ?_
    refine TL.op rfl (OpOk.storeAll rfl sz25 rfl rfl rfl rfl rfl rfl ?_)
    refine TL.v rfl (OpVal.moveI (.inr rfl) rfl) rfl rfl ?_
    refine TL.nil ?_
    refine S.n ?_
    refine TC.ofSub (Sub.pre 1 rfl) ?_
    refine TC.ret ?_
    refine S.r ?_
    obtain rfl := Option.some.inj hh
    exact RetOk.mk' (rs := [.cell 2 25, .tmp 3]) [] rfl (.inl rfl) (RVs.agg ag25 sz25 rfl (i := 0) rfl rfl (RVs.tmp rfl RVs.nil)) (List.sublist_append_left _ _) ⟨none, 0, none, 0, none, 0, rfl, (RS.nilF _ encTip encTip_len), (RS.nilF _ encTip encTip_len), (RS.nilF _ encArc encArc_len), rfl⟩
  · replace hh := iteO_f h105 hh
    replace h105 := of_decide_eq_false h105
    refine TC.skip ?_
    refine S.n ?_
    refine TC.seq ?_
    obtain ⟨v14, u14, hh⟩ := bnd_e hh
    obtain ⟨v17, u17, hh⟩ := bnd_e hh
    obtain ⟨v20, u20, hh⟩ := bnd_e hh
    refine TC.draw [12, 13] (by kernel_rfl) ?_
    refine TA.takeP 0 rfl (by kernel_rfl) (by kernel_rfl) (by kernel_rfl) rfl (OpVal.fieldLoc rfl fo25_0 rfl) rfl rfl ?_
    refine TA.take 1 rfl (by kernel_rfl) (by kernel_rfl) (by kernel_rfl) (by kernel_rfl) rfl (OpVal.loadLoc rfl ag3 rfl (i := 1) rfl rfl) rfl rfl ?_
    refine TA.takeP 2 rfl (by kernel_rfl) (by kernel_rfl) (by kernel_rfl) rfl (OpVal.fieldLoc rfl fo25_1 rfl) rfl rfl ?_
    refine TA.take 3 rfl (by kernel_rfl) (by kernel_rfl) (by kernel_rfl) (by kernel_rfl) rfl (OpVal.loadLoc rfl ag22 rfl (i := 1) rfl rfl) rfl rfl ?_
    refine TA.takeP 5 rfl (by kernel_rfl) (by kernel_rfl) (by kernel_rfl) rfl (OpVal.fieldLoc rfl fo25_2 rfl) rfl rfl ?_
    refine TA.take 6 rfl (by kernel_rfl) (by kernel_rfl) (by kernel_rfl) (by kernel_rfl) rfl (OpVal.loadLoc rfl ag22 rfl (i := 1) rfl rfl) rfl rfl ?_
    refine TA.takeP 8 rfl (by kernel_rfl) (by kernel_rfl) (by kernel_rfl) rfl (OpVal.fieldLoc rfl fo25_3 rfl) rfl rfl ?_
    refine TA.take 9 rfl (by kernel_rfl) (by kernel_rfl) (by kernel_rfl) (by kernel_rfl) rfl (OpVal.loadLoc rfl ag23 rfl (i := 1) rfl rfl) rfl rfl ?_
    refine TA.act 4 (by kernel_rfl) rfl rfl (OpOk.call (onceT_con f0_0 u14) rfl rfl pf32 rfl rfl rfl rfl ?_)
    rintro _ _ _ hle112 ⟨a112_1, c112_1, rfl, rfl, rfl⟩
    refine ⟨(fun w h => sees_of (Store.le.refl _) (fun r hr => (List.mem_cons_of_mem _ hr)) w h), ?_⟩
    refine TA.act 7 (by kernel_rfl) rfl rfl (OpOk.call (onceT_con f0_1 u17) rfl rfl pf32 rfl rfl rfl rfl ?_)
    rintro _ _ _ hle114 ⟨a114_1, c114_1, rfl, rfl, rfl⟩
    refine ⟨(fun w h => sees_of (Store.le.refl _) (fun r hr => (List.mem_cons_of_mem _ (List.mem_cons_of_mem _ hr))) w h), ?_⟩
    refine TA.act 10 (by kernel_rfl) rfl rfl (OpOk.call (onceA_con f0_2 u20) rfl rfl pf34 rfl rfl rfl rfl ?_)
    rintro _ _ _ hle116 ⟨a116_1, c116_1, rfl, rfl, rfl⟩
    refine ⟨(fun w h => sees_of (Store.le.refl _) (fun r hr => (List.mem_cons_of_mem _ (List.mem_cons_of_mem _ (List.mem_cons_of_mem _ hr)))) w h), ?_⟩
    refine TA.takeP 11 rfl (by kernel_rfl) (by kernel_rfl) (by kernel_rfl) rfl (OpVal.buildL rfl pl25 ze25 rfl) rfl rfl ?_
    refine TA.front 3 rfl rfl ?_
    refine TA.last 12 (by kernel_rfl) rfl rfl rfl (OpOk.storeAll rfl sz25 rfl rfl rfl rfl rfl rfl ?_)
    refine TZ.v 13 (by kernel_rfl) rfl rfl rfl (OpVal.moveI (.inr rfl) rfl) rfl rfl ?_
    refine TZ.done (by kernel_rfl) ?_
    refine S.n ?_
    refine TC.front 3 rfl rfl ?_
    refine TC.sealS encTip_len (fun τ120 hle119 hr118 => ?_)
    replace f0_0 := f0_0.mono hle119
    replace f0_1 := f0_1.mono hle119
    replace f0_2 := f0_2.mono hle119
    have hr118b := hr118.rv.big
    refine TC.front 2 rfl rfl ?_
    refine TC.sealS encTip_len (fun τ123 hle122 hr121 => ?_)
    replace f0_0 := f0_0.mono hle122
    replace f0_1 := f0_1.mono hle122
    replace f0_2 := f0_2.mono hle122
    replace hr118 := hr118.mono hle122
    have hr121b := hr121.rv.big
    refine TC.front 1 rfl rfl ?_
    refine TC.sealS encArc_len (fun τ126 hle125 hr124 => ?_)
    replace f0_0 := f0_0.mono hle125
    replace f0_1 := f0_1.mono hle125
    replace f0_2 := f0_2.mono hle125
    replace hr118 := hr118.mono hle125
    replace hr121 := hr121.mono hle125
    have hr124b := hr124.rv.big
    refine TC.ofSub (Sub.pre 1 rfl) ?_
    refine TC.ret ?_
    obtain rfl := Option.some.inj hh
    exact RetOk.mk' (rs := [.cell 2 25, .tmp 3]) [] rfl (.inl rfl) (RVs.agg ag25 sz25 rfl (i := 0) rfl rfl (RVs.tmp rfl RVs.nil)) (List.sublist_append_left _ _) ⟨a112_1, c112_1, a114_1, c114_1, a116_1, c116_1, rfl, hr118, hr121, hr124, rfl⟩

noncomputable def fst_Outs_j1 (l120 : List (List Arc)) (x0 : Fst) (k124 : Nat) : Option (((List (List Arc)) × Nat) ⊕ ((List (List UInt8)) × Int)) :=
  nxt ((l120.set (((nth x0.arcs k124 Arc.zero).frm).toNat) ((nth l120 (((nth x0.arcs k124 Arc.zero).frm).toNat) ([] : List Arc)) ++ [(nth x0.arcs k124 Arc.zero)])), (k124 + 1))
noncomputable def fst_Outs_j2 (l229 : List (List (List UInt8))) (x0 : Fst) (k233 : Nat) : Option (((List (List (List UInt8))) × Nat) ⊕ ((List (List UInt8)) × Int)) :=
  nxt ((l229.set (((nth x0.ends k233 Tip.zero).state).toNat) ((nth l229 (((nth x0.ends k233 Tip.zero).state).toNat) ([] : List (List UInt8))) ++ [(nth x0.ends k233 Tip.zero).out])), (k233 + 1))
noncomputable def fst_Outs_b6 (l229 : List (List (List UInt8))) (v120c : FPair × Unit) (l338 : List (List UInt8)) (k341 : Nat) : Option (((List (List UInt8)) × Nat) ⊕ (((List (List UInt8))) ⊕ ((List (List UInt8)) × Int))) :=
  iteO (decide (((k341 : Nat) : Int) < (((nth l229 v120c.1.state.toNat ([] : List (List UInt8))).length : Nat) : Int))) (grd (v120c.1.out.length + (nth (nth l229 v120c.1.state.toNat ([] : List (List UInt8))) k341 ([] : List UInt8)).length ≤ 9223372036854775807) (grd ((l338.length + [(v120c.1.out ++ (nth (nth l229 v120c.1.state.toNat ([] : List (List UInt8))) k341 ([] : List UInt8)))].length) * 16 ≤ 140737488355328) (nxt ((l338 ++ [(v120c.1.out ++ (nth (nth l229 v120c.1.state.toNat ([] : List (List UInt8))) k341 ([] : List UInt8)))]), (k341 + 1))))) (fin (nxt l338))
noncomputable def fst_Outs_b5 (l229 : List (List (List UInt8))) (l299 : List (List UInt8)) (oE : Option (FPair × Unit)) : Option (((List (List UInt8))) ⊕ ((List (List UInt8)) × Int)) :=
  optE oE (fin (bnd (onceS l299) (fun v148 => some (v148, 0)))) (fun v120c => grd (0 ≤ v120c.1.state ∧ v120c.1.state < (l229.length : Int)) (iter (fun q : (List (List UInt8)) × Nat => fst_Outs_b6 l229 v120c q.1 q.2) (l299, 0)))
noncomputable def fst_Outs_b4 (x0 : Fst) (m201 : FM FPair Unit) (l229 : List (List (List UInt8))) (k233 : Nat) : Option (((List (List (List UInt8))) × Nat) ⊕ ((List (List UInt8)) × Int)) :=
  iteO (decide (((k233 : Nat) : Int) < ((x0.ends.length : Nat) : Int))) (grd (0 ≤ ((nth x0.ends k233 Tip.zero).state) ∧ ((nth x0.ends k233 Tip.zero).state) < (l229.length : Int)) (grd (((nth l229 (((nth x0.ends k233 Tip.zero).state).toNat) ([] : List (List UInt8))).length + [(nth x0.ends k233 Tip.zero).out].length) * 16 ≤ 140737488355328) (grd (0 ≤ ((nth x0.ends k233 Tip.zero).state) ∧ ((nth x0.ends k233 Tip.zero).state) < (l229.length : Int)) (fst_Outs_j2 l229 x0 k233)))) (fin (allP (fun q => Rep q m201) (fun q => runL (fun (q : (List (List UInt8))) (oE : Option (FPair × Unit)) => fst_Outs_b5 l229 q oE) q ([] : List (List UInt8)))))
noncomputable def fst_Outs_b3 (x1 : List UInt8) (l120 : List (List Arc)) (x0 : Fst) (m201 : FM FPair Unit) (k203 : Nat) : Option (((FM FPair Unit) × Nat) ⊕ ((List (List UInt8)) × Int)) :=
  iteO (decide (((k203 : Nat) : Int) < ((x1.length : Nat) : Int))) (bnd (fst_step l120 m201 (nth x1 k203 (0 : UInt8))) (fun v74 => iteO (!v74.2) (fin (some (([] : List (List UInt8)), 2))) (nxt (v74.1, (k203 + 1))))) (fin (grd (0 ≤ x0.states ∧ 24 * x0.states.toNat ≤ 281474976710656) (iter (fun q : (List (List (List UInt8))) × Nat => fst_Outs_b4 x0 m201 q.1 q.2) ((List.replicate x0.states.toNat ([] : List (List UInt8))), 0))))
noncomputable def fst_Outs_b2 (x0 : Fst) (x1 : List UInt8) (l120 : List (List Arc)) (m180 : FM FPair Unit) (k181 : Nat) : Option (((FM FPair Unit) × Nat) ⊕ ((List (List UInt8)) × Int)) :=
  iteO (decide (((k181 : Nat) : Int) < ((x0.starts.length : Nat) : Int))) (nxt ((m180.put (⟨(nth x0.starts k181 Tip.zero).state, (nth x0.starts k181 Tip.zero).out⟩ : FPair) ()), (k181 + 1))) (fin (iter (fun q : (FM FPair Unit) × Nat => fst_Outs_b3 x1 l120 x0 q.1 q.2) (m180, 0)))
noncomputable def fst_Outs_b1 (x0 : Fst) (x1 : List UInt8) (l120 : List (List Arc)) (k124 : Nat) : Option (((List (List Arc)) × Nat) ⊕ ((List (List UInt8)) × Int)) :=
  iteO (decide (((k124 : Nat) : Int) < ((x0.arcs.length : Nat) : Int))) (grd (0 ≤ ((nth x0.arcs k124 Arc.zero).frm) ∧ ((nth x0.arcs k124 Arc.zero).frm) < (l120.length : Int)) (grd (((nth l120 (((nth x0.arcs k124 Arc.zero).frm).toNat) ([] : List Arc)).length + [(nth x0.arcs k124 Arc.zero)].length) * 72 ≤ 140737488355328) (grd (0 ≤ ((nth x0.arcs k124 Arc.zero).frm) ∧ ((nth x0.arcs k124 Arc.zero).frm) < (l120.length : Int)) (fst_Outs_j1 l120 x0 k124)))) (fin (iter (fun q : (FM FPair Unit) × Nat => fst_Outs_b2 x0 x1 l120 q.1 q.2) ((FM.emp : FM FPair Unit), 0)))
noncomputable def fst_Outs (x0 : Fst) (x1 : List UInt8) : Option ((List (List UInt8)) × Int) :=
  grd (x1.length ≤ 281474976710656) (bnd (fst_Check x0) (fun v5 => iteO (decide (v5 ≠ 0)) (some (([] : List (List UInt8)), 1)) (iteO (decide (256 < ((x1.length : Nat) : Int))) (some (([] : List (List UInt8)), 2)) (grd (0 ≤ x0.states ∧ 24 * x0.states.toNat ≤ 281474976710656) (iter (fun q : (List (List Arc)) × Nat => fst_Outs_b1 x0 x1 q.1 q.2) ((List.replicate x0.states.toNat ([] : List Arc)), 0))))))
def fst_Outs_P (σ : Store) (r : (List (List UInt8)) × Int) : Value → Store → List Res → Prop := fun v σ' H' =>
  ∃ (a1 : Option Addr), ∃ (c1 : Nat),  v = .tuple #[.slice a1 r.1.length c1, .int .i64 r.2] ∧ RS σ' 1 encS (.slice a1 r.1.length c1) r.1 ∧ H' = []
theorem fst_Outs_con {σ : Store} {x0 : Fst} {a0_0 : Option Addr} {c0_0 : Nat} {a0_1 : Option Addr} {c0_1 : Nat} {a0_2 : Option Addr} {c0_2 : Nat} {x1 : List UInt8} (f0_0 : RS σ 2 encTip (.slice a0_0 x0.starts.length c0_0) x0.starts) (f0_1 : RS σ 2 encTip (.slice a0_1 x0.ends.length c0_1) x0.ends) (f0_2 : RS σ 8 encArc (.slice a0_2 x0.arcs.length c0_2) x0.arcs) {r : (List (List UInt8)) × Int} (hh : fst_Outs x0 x1 = some r) :
    Con Try.prog 8 #[.agg #[.int .i64 x0.states, .slice a0_0 x0.starts.length c0_0, .slice a0_1 x0.ends.length c0_1, .slice a0_2 x0.arcs.length c0_2], .string (bs x1)] σ [] (fst_Outs_P σ r) := by
  dsimp only [fst_Outs] at hh
  have f0_0b := f0_0.rv.big
  have f0_1b := f0_1.rv.big
  have f0_2b := f0_2.rv.big
  refine Con.mk (n := 135) Try.func8 rfl rfl rfl (fun w0 => ?_)
  have x1b := grd_c hh
  replace hh := grd_t hh
  refine TC.seq ?_
  refine TC.region ?_
  refine TL.op rfl (OpOk.boxA rfl rfl rfl rfl (fun b101 => ?_))
  refine TL.v rfl (OpVal.moveSl (.inr rfl) rfl) rfl rfl ?_
  refine TL.v rfl (OpVal.moveI (.inr rfl) rfl) rfl rfl ?_
  refine TL.nil ?_
  refine S.n ?_
  refine TC.seq ?_
  refine TC.seq ?_
  refine TC.region ?_
  refine TL.v rfl (OpVal.loadAll rfl ag25 sz25 rfl (i := 0) rfl rfl) rfl rfl ?_
  obtain ⟨v5, u5, hh⟩ := bnd_e hh
  refine TL.op rfl (OpOk.callP (fst_Check_con (x0 := x0) f0_0 f0_1 f0_2 u5) rfl rfl pf13 rfl rfl rfl ?_)
  refine TL.v rfl (OpVal.neq rfl rfl rfl) rfl rfl ?_
  refine TL.nil ?_
  refine S.n ?_
  refine TC.cond rfl (fun h103 => ?_) (fun h103 => ?_)
  · replace hh := iteO_t h103 hh
    replace h103 := of_decide_eq_true h103
    refine TC.seq ?_
    refine TC.region ?_
    refine TL.v rfl (OpVal.moveSl (.inr rfl) rfl) rfl rfl ?_
    refine TL.v rfl (OpVal.moveI (.inr rfl) rfl) rfl rfl ?_
    refine TL.nil ?_
    refine S.n ?_
    refine TC.ofSub (Sub.pre 0 rfl) ?_
    refine TC.ret ?_
    refine S.r ?_
    obtain rfl := Option.some.inj hh
    exact RetOk.mk' (rs := [.tmp 4, .tmp 5]) [] rfl (.inl rfl) (RVs.tmp rfl (RVs.tmp rfl RVs.nil)) (List.sublist_append_left _ _) ⟨none, 0, rfl, (RS.nilF _ encS encS_len), rfl⟩
  · replace hh := iteO_f h103 hh
    replace h103 := of_decide_eq_false h103
    refine TC.skip ?_
    refine S.n ?_
    refine TC.seq ?_
    refine TC.seq ?_
    refine TC.region ?_
    refine TL.v rfl (OpVal.moveStr (.inl rfl) rfl) rfl rfl ?_
    refine TL.v rfl (OpVal.lenBs rfl Try.underlying9 rfl) rfl rfl ?_
    refine TL.v rfl (OpVal.gtr rfl rfl rfl) rfl rfl ?_
    refine TL.nil ?_
    refine S.n ?_
    refine TC.cond rfl (fun h104 => ?_) (fun h104 => ?_)
    · replace hh := iteO_t h104 hh
      replace h104 := of_decide_eq_true h104
      refine TC.seq ?_
      refine TC.region ?_
      refine TL.v rfl (OpVal.moveSl (.inr rfl) rfl) rfl rfl ?_
      refine TL.v rfl (OpVal.moveI (.inr rfl) rfl) rfl rfl ?_
      refine TL.nil ?_
      refine S.n ?_
      refine TC.ofSub (Sub.pre 0 rfl) ?_
      refine TC.ret ?_
      refine S.r ?_
      obtain rfl := Option.some.inj hh
      exact RetOk.mk' (rs := [.tmp 4, .tmp 5]) [] rfl (.inl rfl) (RVs.tmp rfl (RVs.tmp rfl RVs.nil)) (List.sublist_append_left _ _) ⟨none, 0, rfl, (RS.nilF _ encS encS_len), rfl⟩
    · replace hh := iteO_f h104 hh
      replace h104 := of_decide_eq_false h104
      refine TC.skip ?_
      refine S.n ?_
      refine TC.seq ?_
      refine TC.region ?_
      refine TL.v rfl (OpVal.fieldLoc rfl fo25_0 rfl) rfl rfl ?_
      refine TL.v rfl (OpVal.loadLoc rfl ag3 rfl (i := 0) rfl rfl) rfl rfl ?_
      have u16 := grd_c hh
      replace hh := grd_t hh
      refine TL.op rfl (OpOk.makeN (q := x0.states.toNat) (E := 41) (size := 8) (enc := encArc) rfl Try.underlying58 sz23 by23 ze23 rfl rfl (by show Value.int _ _ = _; rw [Int.toNat_of_nonneg u16.1]) (by show Value.int _ _ = _; rw [Int.toNat_of_nonneg u16.1]) (by omega) (by decide) rfl (fun a105 c106 zf107 => ?_))
      refine TL.v rfl (OpVal.moveSl (.inr rfl) rfl) rfl rfl ?_
      refine TL.nil ?_
      refine S.n ?_
      refine TC.seq ?_
      refine TC.seq ?_
      refine TC.region ?_
      refine TL.v rfl (OpVal.fieldLoc rfl fo25_3 rfl) rfl rfl ?_
      refine TL.v rfl (OpVal.loadLoc rfl ag23 rfl (i := 1) rfl rfl) rfl rfl ?_
      refine TL.v rfl (OpVal.lenC rfl Try.underlying23 rfl) rfl rfl ?_
      refine TL.v rfl (OpVal.moveI (.inl rfl) rfl) rfl rfl ?_
      refine TL.nil ?_
      refine S.n ?_
      refine TC.block ?_
      refine TC.loopG (α := ((List (List Arc)) × Nat) × ((List (NP Arc)))) [8, 34, 35, 36, 37, 38, 39, 40, 41, 42, 43, 44, 45, 46, 47, 48, 49, 50] (fun g => [(34, .int .i64 ((g.1.2 : Nat) : Int))]) (fun g => [Res.cells b101 #[.int .i64 x0.states, .slice a0_0 x0.starts.length c0_0, .slice a0_1 x0.ends.length c0_1, .slice a0_2 x0.arcs.length c0_2] 25, Res.nest 23 41 8 encArc (.slice a105 (List.replicate x0.states.toNat ([] : List Arc)).length c106) g.2]) (fun g => σ) (fun g => iter (fun q : (List (List Arc)) × Nat => fst_Outs_b1 x0 x1 q.1 q.2) g.1 = some r ∧ g.1.1.length = (List.replicate x0.states.toNat ([] : List Arc)).length ∧ Zn g.2 g.1.1) (fun g => rounds (fun q : (List (List Arc)) × Nat => fst_Outs_b1 x0 x1 q.1 q.2) g.1) (((List.replicate x0.states.toNat ([] : List Arc)), 0), (List.replicate x0.states.toNat (nilN : NP Arc))) (Sub.front 1 rfl rfl (Sub.pre 2 rfl)) rfl (by repeat (first | exact trivial | refine ⟨rfl, ?_⟩)) ⟨hh, rfl, zf107⟩ (fun g1 j1 hg1 => ?_)
      obtain ⟨⟨l120, k124⟩, z122⟩ := g1
      obtain ⟨hh, hn121, zf123⟩ := hg1
      try dsimp only at hn121
      try dsimp only at zf123
      show TC _ _ _ (upds (mask _ j1 _) [(34, .int .i64 ((k124 : Nat) : Int))]) _ [Res.cells b101 #[.int .i64 x0.states, .slice a0_0 x0.starts.length c0_0, .slice a0_1 x0.ends.length c0_1, .slice a0_2 x0.arcs.length c0_2] 25, Res.nest 23 41 8 encArc (.slice a105 (List.replicate x0.states.toNat ([] : List Arc)).length c106) z122]
      obtain ⟨z1, hh, hR1⟩ := iter_e hh
      dsimp only [fst_Outs_b1] at hh
      have hn121b := hn121
      have zf123b := zf123.len
      refine TC.know (isSl_nest (q := 1) rfl zf123) (fun ⟨_, hb125⟩ => ?_)
      refine TC.seq ?_
      refine TC.region ?_
      refine TL.v rfl (OpVal.lss rfl rfl rfl) rfl rfl ?_
      refine TL.nil ?_
      refine S.n ?_
      refine TC.seq ?_
      refine TC.cond rfl (fun h126 => ?_) (fun h126 => ?_)
      · replace hh := iteO_t h126 hh
        replace h126 := of_decide_eq_true h126
        refine TC.skip ?_
        refine S.n ?_
        refine TC.cutG (α := (Unit) × ((List (NP Arc)))) [8, 36, 37, 38, 39, 40, 41, 42, 43, 44, 45, 46, 47, 48, 49] (fun g => []) (fun g => [Res.cells b101 #[.int .i64 x0.states, .slice a0_0 x0.starts.length c0_0, .slice a0_1 x0.ends.length c0_1, .slice a0_2 x0.arcs.length c0_2] 25, Res.nest 23 41 8 encArc (.slice a105 (List.replicate x0.states.toNat ([] : List Arc)).length c106) g.2]) (fun g => σ) (fun g => fst_Outs_j1 l120 x0 k124 = some z1 ∧ (l120.set (((nth x0.arcs k124 Arc.zero).frm).toNat) ((nth l120 (((nth x0.arcs k124 Arc.zero).frm).toNat) ([] : List Arc)) ++ [(nth x0.arcs k124 Arc.zero)])).length = (List.replicate x0.states.toNat ([] : List Arc)).length ∧ Zn g.2 (l120.set (((nth x0.arcs k124 Arc.zero).frm).toNat) ((nth l120 (((nth x0.arcs k124 Arc.zero).frm).toNat) ([] : List Arc)) ++ [(nth x0.arcs k124 Arc.zero)]))) ?_ (fun g j hg => ?_)
        · skip
          refine TC.block ?_
          refine TC.seq ?_
          refine TC.region ?_
          refine TL.v rfl (OpVal.indexN rfl Try.underlying23 sz41 rfl rfl f0_2.rv.sl (by omega)) rfl rfl ?_
          refine TL.v rfl (OpVal.loadSA Arc.zero rfl ag41 sz41 rfl f0_2 (by omega) (by omega)) rfl rfl ?_
          refine TL.op rfl (OpOk.alloc rfl ze41 rfl rfl (fun b130 => ?_))
          refine TL.op rfl (OpOk.storeAll rfl sz41 rfl rfl rfl rfl rfl rfl ?_)
          refine TL.nil ?_
          refine S.n ?_
          have u33 := grd_c hh
          replace hh := grd_t hh
          have u37 := grd_c hh
          replace hh := grd_t hh
          have u38 := grd_c hh
          replace hh := grd_t hh
          refine TC.drawR (Hr := [Res.cells b130 #[.int .i64 ((nth x0.arcs k124 Arc.zero).frm), .int .i64 ((nth x0.arcs k124 Arc.zero).to), .int .u64 ((((nth x0.arcs k124 Arc.zero).set).a : Nat) : Int), .int .u64 ((((nth x0.arcs k124 Arc.zero).set).b : Nat) : Int), .int .u64 ((((nth x0.arcs k124 Arc.zero).set).c : Nat) : Int), .int .u64 ((((nth x0.arcs k124 Arc.zero).set).d : Nat) : Int), .string (bs ((nth x0.arcs k124 Arc.zero).out)), .bool ((nth x0.arcs k124 Arc.zero).copy)] 41, Res.cells b101 #[.int .i64 x0.states, .slice a0_0 x0.starts.length c0_0, .slice a0_1 x0.ends.length c0_1, .slice a0_2 x0.arcs.length c0_2] 25]) (fun r hr => mem_pick [0, 1] rfl hr) [] (by kernel_rfl) ?_
          refine TA.takeP 0 rfl (by kernel_rfl) (by kernel_rfl) (by kernel_rfl) rfl (OpVal.moveSl (.inl rfl) rfl) rfl rfl ?_
          refine TA.takeP 1 rfl (by kernel_rfl) (by kernel_rfl) (by kernel_rfl) rfl (OpVal.fieldLoc rfl fo41_0 rfl) rfl rfl ?_
          refine TA.take 2 rfl (by kernel_rfl) (by kernel_rfl) (by kernel_rfl) (by kernel_rfl) rfl (OpVal.loadLoc rfl ag3 rfl (i := 0) rfl rfl) rfl rfl ?_
          refine TA.takeP 3 rfl (by kernel_rfl) (by kernel_rfl) (by kernel_rfl) rfl (OpVal.moveSl (.inl rfl) rfl) rfl rfl ?_
          refine TA.takeP 4 rfl (by kernel_rfl) (by kernel_rfl) (by kernel_rfl) rfl (OpVal.fieldLoc rfl fo41_0 rfl) rfl rfl ?_
          refine TA.take 5 rfl (by kernel_rfl) (by kernel_rfl) (by kernel_rfl) (by kernel_rfl) rfl (OpVal.loadLoc rfl ag3 rfl (i := 0) rfl rfl) rfl rfl ?_
          refine TA.know (isSl_nest (q := 2) rfl zf123) (fun ⟨hs143, hs143b⟩ => ?_)
          refine TA.take 6 rfl (by kernel_rfl) (by kernel_rfl) (by kernel_rfl) (by kernel_rfl) rfl (OpVal.index rfl Try.underlying58 sz23 rfl rfl hs143 u33.1 u33.2) rfl rfl ?_
          refine TA.take 8 rfl (by kernel_rfl) (by kernel_rfl) (by kernel_rfl) (by kernel_rfl) rfl (OpVal.loadAll rfl ag41 sz41 rfl (i := 0) rfl rfl) rfl rfl ?_
          obtain ⟨p144, hz144, hm144⟩ := Zn.at zf123 (i := ((nth x0.arcs k124 Arc.zero).frm).toNat) (by omega)
          refine TA.actN [7, 9] (by kernel_rfl) (And.intro (Exists.intro _ (And.intro rfl (And.intro rfl (OpVal.ok (OpVal.loadN rfl ag23 rfl (q := 2) rfl hz144 hm144) rfl rfl ⟨(fun w h => sees_of (Store.le.refl _) (fun r hr => mem_pick [0, 1] rfl hr) w h), ?_⟩)))) (And.intro (Exists.intro _ (And.intro rfl (And.intro rfl (OpOk.lit (enc := encArc) [(nth x0.arcs k124 Arc.zero)] rfl Try.underlying23 sz41 ze41 rfl rfl rfl encArc_len (by decide) (by decide) Arc.zero rfl (by decide) rfl (by decide) encArc_one (fun a145 c146 => ⟨(fun w h => sees_of (Store.le.refl _) (fun r hr => mem_pick [1, 2] rfl hr) w h), ?_⟩))))) (True.intro)))
          · skip
            refine TA.act 9 (by kernel_rfl) rfl rfl (OpOk.lit (enc := encArc) [(nth x0.arcs k124 Arc.zero)] rfl Try.underlying23 sz41 ze41 rfl rfl rfl encArc_len (by decide) (by decide) Arc.zero rfl (by decide) rfl (by decide) encArc_one (fun a148 c149 => ⟨(fun w h => sees_of (Store.le.refl _) (fun r hr => mem_pick [1, 2] rfl hr) w h), ?_⟩))
            refine TA.front 3 rfl rfl ?_
            refine TA.by (fun w h => Reach.takeN hz144 hm144 h) ?_
            refine TA.act 10 (by kernel_rfl) rfl rfl (OpOk.appendS rfl rfl Try.underlying23 sz41 by41 ze41 rfl rfl (by decide) rfl rfl rfl (.inr ⟨_, 1, rfl⟩) (by simpa using u37) (by decide) (fun a152 c153 => ⟨(fun w h => sees_of (Store.le.refl _) (fun r hr => (List.mem_cons_of_mem _ (List.mem_cons_of_mem _ (List.mem_cons_of_mem _ hr)))) w h), ?_⟩))
            refine TA.know (isSl_nestX (q := 1) rfl zf123) (fun ⟨hs154, hs154b⟩ => ?_)
            refine TA.take 11 rfl (by kernel_rfl) (by kernel_rfl) (by kernel_rfl) (by kernel_rfl) rfl (OpVal.index rfl Try.underlying58 sz23 rfl rfl hs154 u38.1 u38.2) rfl rfl ?_
            refine TA.front 1 rfl rfl ?_
            refine TA.front 1 rfl rfl ?_
            have hn156 : (l120.set (((nth x0.arcs k124 Arc.zero).frm).toNat) ((nth l120 (((nth x0.arcs k124 Arc.zero).frm).toNat) ([] : List Arc)) ++ [(nth x0.arcs k124 Arc.zero)])).length = (List.replicate x0.states.toNat ([] : List Arc)).length := (List.length_set ..).trans hn121
            refine TA.act 12 (by kernel_rfl) rfl rfl (OpOk.storeX (l' := ((nth l120 (((nth x0.arcs k124 Arc.zero).frm).toNat) ([] : List Arc)) ++ [(nth x0.arcs k124 Arc.zero)])) rfl sz23 rfl rfl rfl rfl rfl (by rw [zf123.len]; omega) zf123 (fun zf155 => ⟨(fun w h => sees_of (Store.le.refl _) (fun r hr => (List.mem_cons_of_mem _ (List.mem_cons_of_mem _ hr))) w h), ?_⟩))
            refine TA.done (by kernel_rfl) ?_
            refine B.n ?_
            refine S.n ?_
            refine ⟨by repeat (first | exact Agr.refl _ _ | exact Agr.mask | refine Agr.upd rfl ?_ | refine Agr.maskIn rfl ?_ | refine Agr.upds rfl ?_), ((), (z122.set (((nth x0.arcs k124 Arc.zero).frm).toNat) (((nth l120 (((nth x0.arcs k124 Arc.zero).frm).toNat) ([] : List Arc)) ++ [(nth x0.arcs k124 Arc.zero)]), (a152, c153)))), ⟨hh, hn156, zf155⟩, by repeat (first | exact trivial | refine ⟨rfl, ?_⟩), Sub.front 3 rfl rfl (Sub.pre 2 rfl), rfl⟩
          · skip
            obtain ⟨p157, hz157, hm157⟩ := Zn.at zf123 (i := ((nth x0.arcs k124 Arc.zero).frm).toNat) (by omega)
            refine TA.act 7 (by kernel_rfl) rfl rfl (OpVal.ok (OpVal.loadN rfl ag23 rfl (q := 3) rfl hz157 hm157) rfl rfl ⟨(fun w h => sees_of (Store.le.refl _) (fun r hr => mem_pick [1, 2] rfl hr) w h), ?_⟩)
            refine TA.front 3 rfl rfl ?_
            refine TA.by (fun w h => Reach.takeN hz157 hm157 h) ?_
            refine TA.act 10 (by kernel_rfl) rfl rfl (OpOk.appendS rfl rfl Try.underlying23 sz41 by41 ze41 rfl rfl (by decide) rfl rfl rfl (.inr ⟨_, 1, rfl⟩) (by simpa using u37) (by decide) (fun a159 c160 => ⟨(fun w h => sees_of (Store.le.refl _) (fun r hr => (List.mem_cons_of_mem _ (List.mem_cons_of_mem _ (List.mem_cons_of_mem _ hr)))) w h), ?_⟩))
            refine TA.know (isSl_nestX (q := 1) rfl zf123) (fun ⟨hs161, hs161b⟩ => ?_)
            refine TA.take 11 rfl (by kernel_rfl) (by kernel_rfl) (by kernel_rfl) (by kernel_rfl) rfl (OpVal.index rfl Try.underlying58 sz23 rfl rfl hs161 u38.1 u38.2) rfl rfl ?_
            refine TA.front 1 rfl rfl ?_
            refine TA.front 1 rfl rfl ?_
            have hn163 : (l120.set (((nth x0.arcs k124 Arc.zero).frm).toNat) ((nth l120 (((nth x0.arcs k124 Arc.zero).frm).toNat) ([] : List Arc)) ++ [(nth x0.arcs k124 Arc.zero)])).length = (List.replicate x0.states.toNat ([] : List Arc)).length := (List.length_set ..).trans hn121
            refine TA.act 12 (by kernel_rfl) rfl rfl (OpOk.storeX (l' := ((nth l120 (((nth x0.arcs k124 Arc.zero).frm).toNat) ([] : List Arc)) ++ [(nth x0.arcs k124 Arc.zero)])) rfl sz23 rfl rfl rfl rfl rfl (by rw [zf123.len]; omega) zf123 (fun zf162 => ⟨(fun w h => sees_of (Store.le.refl _) (fun r hr => (List.mem_cons_of_mem _ (List.mem_cons_of_mem _ hr))) w h), ?_⟩))
            refine TA.done (by kernel_rfl) ?_
            refine B.n ?_
            refine S.n ?_
            refine ⟨by repeat (first | exact Agr.refl _ _ | exact Agr.mask | refine Agr.upd rfl ?_ | refine Agr.maskIn rfl ?_ | refine Agr.upds rfl ?_), ((), (z122.set (((nth x0.arcs k124 Arc.zero).frm).toNat) (((nth l120 (((nth x0.arcs k124 Arc.zero).frm).toNat) ([] : List Arc)) ++ [(nth x0.arcs k124 Arc.zero)]), (a159, c160)))), ⟨hh, hn163, zf162⟩, by repeat (first | exact trivial | refine ⟨rfl, ?_⟩), Sub.front 3 rfl rfl (Sub.pre 2 rfl), rfl⟩
        · skip
          obtain ⟨_, z128⟩ := g
          obtain ⟨hh, hn127, zf129⟩ := hg
          try dsimp only at hn127
          try dsimp only at zf129
          show TC _ _ _ (upds (mask _ j _) []) _ [Res.cells b101 #[.int .i64 x0.states, .slice a0_0 x0.starts.length c0_0, .slice a0_1 x0.ends.length c0_1, .slice a0_2 x0.arcs.length c0_2] 25, Res.nest 23 41 8 encArc (.slice a105 (List.replicate x0.states.toNat ([] : List Arc)).length c106) z128]
          dsimp only [fst_Outs_j1] at hh
          have hn127b := hn127
          have zf129b := zf129.len
          refine TC.know (isSl_nest (q := 1) rfl zf129) (fun ⟨_, hb164⟩ => ?_)
          refine TC.region ?_
          refine TL.v rfl (OpVal.succ rfl rfl rfl (by omega)) rfl rfl ?_
          refine TL.v rfl (OpVal.moveI (.inl rfl) rfl) rfl rfl ?_
          refine TL.nil ?_
          refine S.n ?_
          obtain ⟨hh, hlt165⟩ := nxt_x hR1 hh
          refine ⟨by repeat (first | exact Agr.refl _ _ | exact Agr.mask | refine Agr.upd rfl ?_ | refine Agr.maskIn rfl ?_ | refine Agr.upds rfl ?_), (((l120.set (((nth x0.arcs k124 Arc.zero).frm).toNat) ((nth l120 (((nth x0.arcs k124 Arc.zero).frm).toNat) ([] : List Arc)) ++ [(nth x0.arcs k124 Arc.zero)])), (k124 + 1)), z128), hlt165, ⟨hh, hn127, zf129⟩, by repeat (first | exact trivial | refine ⟨rfl, ?_⟩), Sub.front 1 rfl rfl (Sub.front 1 rfl rfl (Sub.pre 2 rfl)), rfl⟩
      · replace hh := iteO_f h126 hh
        replace h126 := of_decide_eq_false h126
        refine TC.exit ?_
        refine S.x ?_
        refine S.x ?_
        replace hh := fin_x hR1 hh
        refine TC.exitHere ?_
        refine S.n ?_
        refine TC.seq ?_
        refine TC.region ?_
        refine TL.op rfl (OpOk.makeMapB (enc := (fun x => Value.agg (encFPair x).toArray)) (encV := unitV) rfl rfl rfl (fun b166 => ?_))
        refine TL.v rfl (OpVal.moveMap (.inr rfl) rfl) rfl rfl ?_
        refine TL.nil ?_
        refine S.n ?_
        refine TC.seq ?_
        refine TC.seq ?_
        refine TC.region ?_
        refine TL.v rfl (OpVal.fieldLoc rfl fo25_1 rfl) rfl rfl ?_
        refine TL.v rfl (OpVal.loadLoc rfl ag22 rfl (i := 1) rfl rfl) rfl rfl ?_
        refine TL.v rfl (OpVal.lenC rfl Try.underlying22 rfl) rfl rfl ?_
        refine TL.v rfl (OpVal.moveI (.inl rfl) rfl) rfl rfl ?_
        refine TL.nil ?_
        refine S.n ?_
        refine TC.block ?_
        refine TC.loopG (α := ((FM FPair Unit) × Nat) × (Unit)) [11, 55, 56, 57, 58, 59, 60, 61, 62, 63, 64, 65, 66] (fun g => [(55, .int .i64 ((g.1.2 : Nat) : Int))]) (fun g => [Res.cells b101 #[.int .i64 x0.states, .slice a0_0 x0.starts.length c0_0, .slice a0_1 x0.ends.length c0_1, .slice a0_2 x0.arcs.length c0_2] 25, Res.nest 23 41 8 encArc (.slice a105 (List.replicate x0.states.toNat ([] : List Arc)).length c106) z122, Res.mapB (fun x => Value.agg (encFPair x).toArray) unitV (some b166) g.1.1]) (fun g => σ) (fun g => iter (fun q : (FM FPair Unit) × Nat => fst_Outs_b2 x0 x1 l120 q.1 q.2) g.1 = some r ∧ l120.length = (List.replicate x0.states.toNat ([] : List Arc)).length ∧ Zn z122 l120) (fun g => rounds (fun q : (FM FPair Unit) × Nat => fst_Outs_b2 x0 x1 l120 q.1 q.2) g.1) (((FM.emp : FM FPair Unit), 0), ()) (Sub.front 2 rfl rfl (Sub.front 2 rfl rfl (Sub.pre 3 rfl))) rfl (by repeat (first | exact trivial | refine ⟨rfl, ?_⟩)) ⟨hh, hn121, zf123⟩ (fun g2 j2 hg2 => ?_)
        obtain ⟨⟨m180, k181⟩, _⟩ := g2
        obtain ⟨hh, hn178, zf179⟩ := hg2
        try dsimp only at hn178
        try dsimp only at zf179
        show TC _ _ _ (upds (mask _ j2 _) [(55, .int .i64 ((k181 : Nat) : Int))]) _ [Res.cells b101 #[.int .i64 x0.states, .slice a0_0 x0.starts.length c0_0, .slice a0_1 x0.ends.length c0_1, .slice a0_2 x0.arcs.length c0_2] 25, Res.nest 23 41 8 encArc (.slice a105 (List.replicate x0.states.toNat ([] : List Arc)).length c106) z122, Res.mapB (fun x => Value.agg (encFPair x).toArray) unitV (some b166) m180]
        obtain ⟨z1, hh, hR1⟩ := iter_e hh
        dsimp only [fst_Outs_b2] at hh
        have hn178b := hn178
        have zf179b := zf179.len
        refine TC.know (isSl_nest (q := 1) rfl zf179) (fun ⟨_, hb182⟩ => ?_)
        refine TC.seq ?_
        refine TC.region ?_
        refine TL.v rfl (OpVal.lss rfl rfl rfl) rfl rfl ?_
        refine TL.nil ?_
        refine S.n ?_
        refine TC.seq ?_
        refine TC.cond rfl (fun h183 => ?_) (fun h183 => ?_)
        · replace hh := iteO_t h183 hh
          replace h183 := of_decide_eq_true h183
          refine TC.skip ?_
          refine S.n ?_
          refine TC.seq ?_
          refine TC.block ?_
          refine TC.seq ?_
          refine TC.region ?_
          refine TL.v rfl (OpVal.indexN rfl Try.underlying22 sz57 rfl rfl f0_0.rv.sl (by omega)) rfl rfl ?_
          refine TL.v rfl (OpVal.loadSA Tip.zero rfl ag57 sz57 rfl f0_0 (by omega) (by omega)) rfl rfl ?_
          refine TL.op rfl (OpOk.alloc rfl ze57 rfl rfl (fun b184 => ?_))
          refine TL.op rfl (OpOk.storeAll rfl sz57 rfl rfl rfl rfl rfl rfl ?_)
          refine TL.nil ?_
          refine S.n ?_
          refine TC.region ?_
          refine TL.v rfl (OpVal.moveMap (.inl rfl) rfl) rfl rfl ?_
          refine TL.v rfl (OpVal.fieldLoc rfl fo57_0 rfl) rfl rfl ?_
          refine TL.v rfl (OpVal.loadLoc rfl ag3 rfl (i := 0) rfl rfl) rfl rfl ?_
          refine TL.v rfl (OpVal.fieldLoc rfl fo57_1 rfl) rfl rfl ?_
          refine TL.v rfl (OpVal.loadLoc rfl ag9 rfl (i := 0) rfl rfl) rfl rfl ?_
          refine TL.v rfl (OpVal.buildL rfl pl62 ze62 rfl) rfl rfl ?_
          refine TL.v rfl (OpVal.buildL rfl pl60 ze60 rfl) rfl rfl ?_
          refine TL.front 3 rfl rfl ?_
          refine TL.op rfl (OpOk.updB (⟨(nth x0.starts k181 Tip.zero).state, (nth x0.starts k181 Tip.zero).out⟩ : FPair) () rfl Try.underlying59 rfl rfl rfl rfl kl62 ?_)
          refine TL.nil ?_
          refine B.n ?_
          refine S.n ?_
          refine TC.region ?_
          refine TL.v rfl (OpVal.succ rfl rfl rfl (by omega)) rfl rfl ?_
          refine TL.v rfl (OpVal.moveI (.inl rfl) rfl) rfl rfl ?_
          refine TL.nil ?_
          refine S.n ?_
          obtain ⟨hh, hlt186⟩ := nxt_x hR1 hh
          refine ⟨by repeat (first | exact Agr.refl _ _ | exact Agr.mask | refine Agr.upd rfl ?_ | refine Agr.maskIn rfl ?_ | refine Agr.upds rfl ?_), (((m180.put (⟨(nth x0.starts k181 Tip.zero).state, (nth x0.starts k181 Tip.zero).out⟩ : FPair) ()), (k181 + 1)), ()), hlt186, ⟨hh, hn178, zf179⟩, by repeat (first | exact trivial | refine ⟨rfl, ?_⟩), Sub.front 3 rfl rfl (Sub.front 3 rfl rfl (Sub.pre 3 rfl)), rfl⟩
        · replace hh := iteO_f h183 hh
          replace h183 := of_decide_eq_false h183
          refine TC.exit ?_
          refine S.x ?_
          refine S.x ?_
          replace hh := fin_x hR1 hh
          refine TC.exitHere ?_
          refine S.n ?_
          refine TC.seq ?_
          refine TC.seq ?_
          refine TC.region ?_
          refine TL.v rfl (OpVal.moveStr (.inl rfl) rfl) rfl rfl ?_
          refine TL.v rfl (OpVal.lenBs rfl Try.underlying9 rfl) rfl rfl ?_
          refine TL.v rfl (OpVal.moveI (.inl rfl) rfl) rfl rfl ?_
          refine TL.nil ?_
          refine S.n ?_
          refine TC.block ?_
          rw [← hn178]
          refine TC.front 1 rfl rfl ?_
          refine TC.seals (fun w h => Reach.sealNest encArc_len zf179 h) (fun τ206 hle205 hr204 => ?_)
          replace f0_0 := f0_0.mono hle205
          replace f0_1 := f0_1.mono hle205
          replace f0_2 := f0_2.mono hle205
          have hr204b := hr204.big
          refine TC.loopG (α := ((FM FPair Unit) × Nat) × ((Option Nat) × Store)) [4, 5, 9, 12, 13, 14, 69, 70, 71, 72, 73, 74, 75, 76, 77, 78, 79, 80, 81, 82, 83, 84] (fun g => [(9, .map g.2.1), (69, .int .i64 ((g.1.2 : Nat) : Int))]) (fun g => [Res.cells b101 #[.int .i64 x0.states, .slice a0_0 x0.starts.length c0_0, .slice a0_1 x0.ends.length c0_1, .slice a0_2 x0.arcs.length c0_2] 25, Res.mapB (fun x => Value.agg (encFPair x).toArray) unitV g.2.1 g.1.1]) (fun g => g.2.2) (fun g => iter (fun q : (FM FPair Unit) × Nat => fst_Outs_b3 x1 l120 x0 q.1 q.2) g.1 = some r ∧ RZ g.2.2 (pkSl 8 encArc encArc_len) (.slice a105 l120.length c106) l120 ∧ Store.le τ206 g.2.2) (fun g => rounds (fun q : (FM FPair Unit) × Nat => fst_Outs_b3 x1 l120 x0 q.1 q.2) g.1) ((m180, 0), ((some b166), τ206)) (Sub.front 1 rfl rfl (Sub.front 1 rfl rfl (Sub.pre 2 rfl))) rfl (by repeat (first | exact trivial | refine ⟨rfl, ?_⟩)) ⟨hh, hr204, (Store.le.refl _)⟩ (fun g3 j3 hg3 => ?_)
          obtain ⟨⟨m201, k203⟩, ⟨b202, τ207⟩⟩ := g3
          obtain ⟨hh, hr199, hle208⟩ := hg3
          try dsimp only at hr199
          dsimp only at hle208
          replace f0_0 := f0_0.mono hle208
          replace f0_1 := f0_1.mono hle208
          replace f0_2 := f0_2.mono hle208
          replace hr204 := hr204.mono hle208
          show TC _ _ _ (upds (mask _ j3 _) [(9, .map b202), (69, .int .i64 ((k203 : Nat) : Int))]) τ207 [Res.cells b101 #[.int .i64 x0.states, .slice a0_0 x0.starts.length c0_0, .slice a0_1 x0.ends.length c0_1, .slice a0_2 x0.arcs.length c0_2] 25, Res.mapB (fun x => Value.agg (encFPair x).toArray) unitV b202 m201]
          obtain ⟨z1, hh, hR1⟩ := iter_e hh
          dsimp only [fst_Outs_b3] at hh
          have hr199b := hr199.big
          refine TC.seq ?_
          refine TC.region ?_
          refine TL.v rfl (OpVal.lss rfl rfl rfl) rfl rfl ?_
          refine TL.nil ?_
          refine S.n ?_
          refine TC.seq ?_
          refine TC.cond rfl (fun h209 => ?_) (fun h209 => ?_)
          · replace hh := iteO_t h209 hh
            replace h209 := of_decide_eq_true h209
            refine TC.skip ?_
            refine S.n ?_
            refine TC.seq ?_
            refine TC.block ?_
            refine TC.seq ?_
            refine TC.region ?_
            refine TL.v rfl (OpVal.moveI (.inl rfl) rfl) rfl rfl ?_
            refine TL.v rfl (OpVal.moveI (.inr rfl) rfl) rfl rfl ?_
            refine TL.nil ?_
            refine S.n ?_
            refine TC.seq ?_
            refine TC.region ?_
            refine TL.v rfl (OpVal.moveSl (.inl rfl) rfl) rfl rfl ?_
            refine TL.v rfl (OpVal.moveMap (.inl rfl) rfl) rfl rfl ?_
            refine TL.v rfl (OpVal.moveStr (.inl rfl) rfl) rfl rfl ?_
            refine TL.v rfl (OpVal.moveI (.inl rfl) rfl) rfl rfl ?_
            refine TL.v rfl (OpVal.indexBs rfl Try.underlying9 rfl rfl (by omega)) rfl rfl ?_
            refine TL.front 1 rfl rfl ?_
            obtain ⟨v74, u74, hh⟩ := bnd_e hh
            refine TL.op rfl (OpOk.call (fst_step_con hr199 u74) rfl rfl pf21 rfl rfl rfl rfl ?_)
            rintro _ _ _ hle210 ⟨b210_1, rfl, rfl, rfl⟩
            refine TL.v rfl (OpVal.moveT (.inl rfl) rfl) rfl rfl ?_
            refine TL.v rfl (OpVal.extract rfl rfl rfl) rfl rfl ?_
            refine TL.v rfl (OpVal.extract rfl rfl rfl) rfl rfl ?_
            refine TL.v rfl (OpVal.moveMap (.inr rfl) rfl) rfl rfl ?_
            refine TL.v rfl (OpVal.moveB (.inr rfl) rfl) rfl rfl ?_
            refine TL.nil ?_
            refine S.n ?_
            refine TC.seq ?_
            refine TC.seq ?_
            refine TC.region ?_
            refine TL.v rfl (OpVal.moveB (.inl rfl) rfl) rfl rfl ?_
            refine TL.v rfl (OpVal.not rfl rfl) rfl rfl ?_
            refine TL.nil ?_
            refine S.n ?_
            refine TC.cond rfl (fun h212 => ?_) (fun h212 => ?_)
            · replace hh := iteO_t h212 hh
              refine TC.seq ?_
              refine TC.region ?_
              refine TL.v rfl (OpVal.moveSl (.inr rfl) rfl) rfl rfl ?_
              refine TL.v rfl (OpVal.moveI (.inr rfl) rfl) rfl rfl ?_
              refine TL.nil ?_
              refine S.n ?_
              refine TC.ofSub (Sub.pre 0 rfl) ?_
              refine TC.ret ?_
              refine S.r ?_
              refine B.r ?_
              refine S.r ?_
              refine S.r ?_
              replace hh := fin_x hR1 hh
              refine B.r ?_
              refine S.r ?_
              obtain rfl := Option.some.inj hh
              exact RetOk.mk' (rs := [.tmp 4, .tmp 5]) [] rfl (.inl rfl) (RVs.tmp rfl (RVs.tmp rfl RVs.nil)) (List.sublist_append_left _ _) ⟨none, 0, rfl, (RS.nilF _ encS encS_len), rfl⟩
            · replace hh := iteO_f h212 hh
              refine TC.skip ?_
              refine S.n ?_
              refine TC.region ?_
              refine TL.v rfl (OpVal.moveMap (.inl rfl) rfl) rfl rfl ?_
              refine TL.v rfl (OpVal.moveMap (.inr rfl) rfl) rfl rfl ?_
              refine TL.nil ?_
              refine B.n ?_
              refine S.n ?_
              refine TC.region ?_
              refine TL.v rfl (OpVal.succ rfl rfl rfl (by omega)) rfl rfl ?_
              refine TL.v rfl (OpVal.moveI (.inl rfl) rfl) rfl rfl ?_
              refine TL.nil ?_
              refine S.n ?_
              obtain ⟨hh, hlt213⟩ := nxt_x hR1 hh
              refine ⟨by repeat (first | exact Agr.refl _ _ | exact Agr.mask | refine Agr.upd rfl ?_ | refine Agr.maskIn rfl ?_ | refine Agr.upds rfl ?_), ((v74.1, (k203 + 1)), (b210_1, τ207)), hlt213, ⟨hh, hr199, hle208⟩, by repeat (first | exact trivial | refine ⟨rfl, ?_⟩), Sub.front 1 rfl rfl (Sub.pre 2 rfl), rfl⟩
          · replace hh := iteO_f h209 hh
            replace h209 := of_decide_eq_false h209
            refine TC.exit ?_
            refine S.x ?_
            refine S.x ?_
            replace hh := fin_x hR1 hh
            refine TC.exitHere ?_
            refine S.n ?_
            refine TC.seq ?_
            refine TC.region ?_
            refine TL.v rfl (OpVal.fieldLoc rfl fo25_0 rfl) rfl rfl ?_
            refine TL.v rfl (OpVal.loadLoc rfl ag3 rfl (i := 0) rfl rfl) rfl rfl ?_
            have u90 := grd_c hh
            replace hh := grd_t hh
            refine TL.op rfl (OpOk.makeN (q := x0.states.toNat) (E := 9) (size := 1) (enc := encS) rfl Try.underlying65 sz27 by27 ze27 rfl rfl (by show Value.int _ _ = _; rw [Int.toNat_of_nonneg u90.1]) (by show Value.int _ _ = _; rw [Int.toNat_of_nonneg u90.1]) (by omega) (by decide) rfl (fun a214 c215 zf216 => ?_))
            refine TL.v rfl (OpVal.moveSl (.inr rfl) rfl) rfl rfl ?_
            refine TL.nil ?_
            refine S.n ?_
            refine TC.seq ?_
            refine TC.seq ?_
            refine TC.region ?_
            refine TL.v rfl (OpVal.fieldLoc rfl fo25_2 rfl) rfl rfl ?_
            refine TL.v rfl (OpVal.loadLoc rfl ag22 rfl (i := 1) rfl rfl) rfl rfl ?_
            refine TL.v rfl (OpVal.lenC rfl Try.underlying22 rfl) rfl rfl ?_
            refine TL.v rfl (OpVal.moveI (.inl rfl) rfl) rfl rfl ?_
            refine TL.nil ?_
            refine S.n ?_
            refine TC.block ?_
            refine TC.loopG (α := ((List (List (List UInt8))) × Nat) × ((List (NP (List UInt8))))) [17, 91, 92, 93, 94, 95, 96, 97, 98, 99, 100, 101, 102, 103, 104, 105, 106, 107, 108] (fun g => [(91, .int .i64 ((g.1.2 : Nat) : Int))]) (fun g => [Res.mapB (fun x => Value.agg (encFPair x).toArray) unitV b202 m201, Res.nest 27 9 1 encS (.slice a214 (List.replicate x0.states.toNat ([] : List (List UInt8))).length c215) g.2]) (fun g => τ207) (fun g => iter (fun q : (List (List (List UInt8))) × Nat => fst_Outs_b4 x0 m201 q.1 q.2) g.1 = some r ∧ g.1.1.length = (List.replicate x0.states.toNat ([] : List (List UInt8))).length ∧ Zn g.2 g.1.1) (fun g => rounds (fun q : (List (List (List UInt8))) × Nat => fst_Outs_b4 x0 m201 q.1 q.2) g.1) (((List.replicate x0.states.toNat ([] : List (List UInt8))), 0), (List.replicate x0.states.toNat (nilN : NP (List UInt8)))) (Sub.front 2 rfl rfl (Sub.pre 2 rfl)) rfl (by repeat (first | exact trivial | refine ⟨rfl, ?_⟩)) ⟨hh, rfl, zf216⟩ (fun g4 j4 hg4 => ?_)
            obtain ⟨⟨l229, k233⟩, z231⟩ := g4
            obtain ⟨hh, hn230, zf232⟩ := hg4
            try dsimp only at hn230
            try dsimp only at zf232
            show TC _ _ _ (upds (mask _ j4 _) [(91, .int .i64 ((k233 : Nat) : Int))]) _ [Res.mapB (fun x => Value.agg (encFPair x).toArray) unitV b202 m201, Res.nest 27 9 1 encS (.slice a214 (List.replicate x0.states.toNat ([] : List (List UInt8))).length c215) z231]
            obtain ⟨z1, hh, hR1⟩ := iter_e hh
            dsimp only [fst_Outs_b4] at hh
            have hn230b := hn230
            have zf232b := zf232.len
            refine TC.know (isSl_nest (q := 1) rfl zf232) (fun ⟨_, hb234⟩ => ?_)
            refine TC.seq ?_
            refine TC.region ?_
            refine TL.v rfl (OpVal.lss rfl rfl rfl) rfl rfl ?_
            refine TL.nil ?_
            refine S.n ?_
            refine TC.seq ?_
            refine TC.cond rfl (fun h235 => ?_) (fun h235 => ?_)
            · replace hh := iteO_t h235 hh
              replace h235 := of_decide_eq_true h235
              refine TC.skip ?_
              refine S.n ?_
              refine TC.cutG (α := (Unit) × ((List (NP (List UInt8))))) [17, 93, 94, 95, 96, 97, 98, 99, 100, 101, 102, 103, 104, 105, 106, 107] (fun g => []) (fun g => [Res.mapB (fun x => Value.agg (encFPair x).toArray) unitV b202 m201, Res.nest 27 9 1 encS (.slice a214 (List.replicate x0.states.toNat ([] : List (List UInt8))).length c215) g.2]) (fun g => τ207) (fun g => fst_Outs_j2 l229 x0 k233 = some z1 ∧ (l229.set (((nth x0.ends k233 Tip.zero).state).toNat) ((nth l229 (((nth x0.ends k233 Tip.zero).state).toNat) ([] : List (List UInt8))) ++ [(nth x0.ends k233 Tip.zero).out])).length = (List.replicate x0.states.toNat ([] : List (List UInt8))).length ∧ Zn g.2 (l229.set (((nth x0.ends k233 Tip.zero).state).toNat) ((nth l229 (((nth x0.ends k233 Tip.zero).state).toNat) ([] : List (List UInt8))) ++ [(nth x0.ends k233 Tip.zero).out]))) ?_ (fun g j hg => ?_)
              · skip
                refine TC.block ?_
                refine TC.seq ?_
                refine TC.region ?_
                refine TL.v rfl (OpVal.indexN rfl Try.underlying22 sz57 rfl rfl f0_1.rv.sl (by omega)) rfl rfl ?_
                refine TL.v rfl (OpVal.loadSA Tip.zero rfl ag57 sz57 rfl f0_1 (by omega) (by omega)) rfl rfl ?_
                refine TL.op rfl (OpOk.alloc rfl ze57 rfl rfl (fun b239 => ?_))
                refine TL.op rfl (OpOk.storeAll rfl sz57 rfl rfl rfl rfl rfl rfl ?_)
                refine TL.nil ?_
                refine S.n ?_
                have u107 := grd_c hh
                replace hh := grd_t hh
                have u112 := grd_c hh
                replace hh := grd_t hh
                have u113 := grd_c hh
                replace hh := grd_t hh
                refine TC.drawR (Hr := [Res.cells b239 #[.int .i64 ((nth x0.ends k233 Tip.zero).state), .string (bs ((nth x0.ends k233 Tip.zero).out))] 57, Res.mapB (fun x => Value.agg (encFPair x).toArray) unitV b202 m201]) (fun r hr => mem_pick [0, 1] rfl hr) [] (by kernel_rfl) ?_
                refine TA.takeP 0 rfl (by kernel_rfl) (by kernel_rfl) (by kernel_rfl) rfl (OpVal.moveSl (.inl rfl) rfl) rfl rfl ?_
                refine TA.takeP 1 rfl (by kernel_rfl) (by kernel_rfl) (by kernel_rfl) rfl (OpVal.fieldLoc rfl fo57_0 rfl) rfl rfl ?_
                refine TA.take 2 rfl (by kernel_rfl) (by kernel_rfl) (by kernel_rfl) (by kernel_rfl) rfl (OpVal.loadLoc rfl ag3 rfl (i := 0) rfl rfl) rfl rfl ?_
                refine TA.takeP 3 rfl (by kernel_rfl) (by kernel_rfl) (by kernel_rfl) rfl (OpVal.moveSl (.inl rfl) rfl) rfl rfl ?_
                refine TA.takeP 4 rfl (by kernel_rfl) (by kernel_rfl) (by kernel_rfl) rfl (OpVal.fieldLoc rfl fo57_0 rfl) rfl rfl ?_
                refine TA.take 5 rfl (by kernel_rfl) (by kernel_rfl) (by kernel_rfl) (by kernel_rfl) rfl (OpVal.loadLoc rfl ag3 rfl (i := 0) rfl rfl) rfl rfl ?_
                refine TA.know (isSl_nest (q := 2) rfl zf232) (fun ⟨hs252, hs252b⟩ => ?_)
                refine TA.take 6 rfl (by kernel_rfl) (by kernel_rfl) (by kernel_rfl) (by kernel_rfl) rfl (OpVal.index rfl Try.underlying65 sz27 rfl rfl hs252 u107.1 u107.2) rfl rfl ?_
                refine TA.takeP 8 rfl (by kernel_rfl) (by kernel_rfl) (by kernel_rfl) rfl (OpVal.fieldLoc rfl fo57_1 rfl) rfl rfl ?_
                refine TA.take 9 rfl (by kernel_rfl) (by kernel_rfl) (by kernel_rfl) (by kernel_rfl) rfl (OpVal.loadLoc rfl ag9 rfl (i := 0) rfl rfl) rfl rfl ?_
                obtain ⟨p253, hz253, hm253⟩ := Zn.at zf232 (i := ((nth x0.ends k233 Tip.zero).state).toNat) (by omega)
                refine TA.actN [7, 10] (by kernel_rfl) (And.intro (Exists.intro _ (And.intro rfl (And.intro rfl (OpVal.ok (OpVal.loadN rfl ag27 rfl (q := 2) rfl hz253 hm253) rfl rfl ⟨(fun w h => sees_of (Store.le.refl _) (fun r hr => mem_pick [0, 1] rfl hr) w h), ?_⟩)))) (And.intro (Exists.intro _ (And.intro rfl (And.intro rfl (OpOk.lit (enc := encS) [(nth x0.ends k233 Tip.zero).out] rfl Try.underlying27 sz9 ze9 rfl rfl rfl encS_len (by decide) (by decide) ([] : List UInt8) rfl (by decide) rfl (by decide) encS_one (fun a254 c255 => ⟨(fun w h => sees_of (Store.le.refl _) (fun r hr => mem_pick [1, 2] rfl hr) w h), ?_⟩))))) (True.intro)))
                · skip
                  refine TA.act 10 (by kernel_rfl) rfl rfl (OpOk.lit (enc := encS) [(nth x0.ends k233 Tip.zero).out] rfl Try.underlying27 sz9 ze9 rfl rfl rfl encS_len (by decide) (by decide) ([] : List UInt8) rfl (by decide) rfl (by decide) encS_one (fun a257 c258 => ⟨(fun w h => sees_of (Store.le.refl _) (fun r hr => mem_pick [1, 2] rfl hr) w h), ?_⟩))
                  refine TA.front 3 rfl rfl ?_
                  refine TA.by (fun w h => Reach.takeN hz253 hm253 h) ?_
                  refine TA.act 11 (by kernel_rfl) rfl rfl (OpOk.appendS rfl rfl Try.underlying27 sz9 by9 ze9 rfl rfl (by decide) rfl rfl rfl (.inr ⟨_, 1, rfl⟩) (by simpa using u112) (by decide) (fun a261 c262 => ⟨(fun w h => sees_of (Store.le.refl _) (fun r hr => (List.mem_cons_of_mem _ (List.mem_cons_of_mem _ (List.mem_cons_of_mem _ hr)))) w h), ?_⟩))
                  refine TA.know (isSl_nestX (q := 1) rfl zf232) (fun ⟨hs263, hs263b⟩ => ?_)
                  refine TA.take 12 rfl (by kernel_rfl) (by kernel_rfl) (by kernel_rfl) (by kernel_rfl) rfl (OpVal.index rfl Try.underlying65 sz27 rfl rfl hs263 u113.1 u113.2) rfl rfl ?_
                  refine TA.front 1 rfl rfl ?_
                  refine TA.front 1 rfl rfl ?_
                  have hn265 : (l229.set (((nth x0.ends k233 Tip.zero).state).toNat) ((nth l229 (((nth x0.ends k233 Tip.zero).state).toNat) ([] : List (List UInt8))) ++ [(nth x0.ends k233 Tip.zero).out])).length = (List.replicate x0.states.toNat ([] : List (List UInt8))).length := (List.length_set ..).trans hn230
                  refine TA.act 13 (by kernel_rfl) rfl rfl (OpOk.storeX (l' := ((nth l229 (((nth x0.ends k233 Tip.zero).state).toNat) ([] : List (List UInt8))) ++ [(nth x0.ends k233 Tip.zero).out])) rfl sz27 rfl rfl rfl rfl rfl (by rw [zf232.len]; omega) zf232 (fun zf264 => ⟨(fun w h => sees_of (Store.le.refl _) (fun r hr => (List.mem_cons_of_mem _ (List.mem_cons_of_mem _ hr))) w h), ?_⟩))
                  refine TA.done (by kernel_rfl) ?_
                  refine B.n ?_
                  refine S.n ?_
                  refine ⟨by repeat (first | exact Agr.refl _ _ | exact Agr.mask | refine Agr.upd rfl ?_ | refine Agr.maskIn rfl ?_ | refine Agr.upds rfl ?_), ((), (z231.set (((nth x0.ends k233 Tip.zero).state).toNat) (((nth l229 (((nth x0.ends k233 Tip.zero).state).toNat) ([] : List (List UInt8))) ++ [(nth x0.ends k233 Tip.zero).out]), (a261, c262)))), ⟨hh, hn265, zf264⟩, by repeat (first | exact trivial | refine ⟨rfl, ?_⟩), Sub.front 3 rfl rfl (Sub.pre 2 rfl), rfl⟩
                · skip
                  obtain ⟨p266, hz266, hm266⟩ := Zn.at zf232 (i := ((nth x0.ends k233 Tip.zero).state).toNat) (by omega)
                  refine TA.act 7 (by kernel_rfl) rfl rfl (OpVal.ok (OpVal.loadN rfl ag27 rfl (q := 3) rfl hz266 hm266) rfl rfl ⟨(fun w h => sees_of (Store.le.refl _) (fun r hr => mem_pick [1, 2] rfl hr) w h), ?_⟩)
                  refine TA.front 3 rfl rfl ?_
                  refine TA.by (fun w h => Reach.takeN hz266 hm266 h) ?_
                  refine TA.act 11 (by kernel_rfl) rfl rfl (OpOk.appendS rfl rfl Try.underlying27 sz9 by9 ze9 rfl rfl (by decide) rfl rfl rfl (.inr ⟨_, 1, rfl⟩) (by simpa using u112) (by decide) (fun a268 c269 => ⟨(fun w h => sees_of (Store.le.refl _) (fun r hr => (List.mem_cons_of_mem _ (List.mem_cons_of_mem _ (List.mem_cons_of_mem _ hr)))) w h), ?_⟩))
                  refine TA.know (isSl_nestX (q := 1) rfl zf232) (fun ⟨hs270, hs270b⟩ => ?_)
                  refine TA.take 12 rfl (by kernel_rfl) (by kernel_rfl) (by kernel_rfl) (by kernel_rfl) rfl (OpVal.index rfl Try.underlying65 sz27 rfl rfl hs270 u113.1 u113.2) rfl rfl ?_
                  refine TA.front 1 rfl rfl ?_
                  refine TA.front 1 rfl rfl ?_
                  have hn272 : (l229.set (((nth x0.ends k233 Tip.zero).state).toNat) ((nth l229 (((nth x0.ends k233 Tip.zero).state).toNat) ([] : List (List UInt8))) ++ [(nth x0.ends k233 Tip.zero).out])).length = (List.replicate x0.states.toNat ([] : List (List UInt8))).length := (List.length_set ..).trans hn230
                  refine TA.act 13 (by kernel_rfl) rfl rfl (OpOk.storeX (l' := ((nth l229 (((nth x0.ends k233 Tip.zero).state).toNat) ([] : List (List UInt8))) ++ [(nth x0.ends k233 Tip.zero).out])) rfl sz27 rfl rfl rfl rfl rfl (by rw [zf232.len]; omega) zf232 (fun zf271 => ⟨(fun w h => sees_of (Store.le.refl _) (fun r hr => (List.mem_cons_of_mem _ (List.mem_cons_of_mem _ hr))) w h), ?_⟩))
                  refine TA.done (by kernel_rfl) ?_
                  refine B.n ?_
                  refine S.n ?_
                  refine ⟨by repeat (first | exact Agr.refl _ _ | exact Agr.mask | refine Agr.upd rfl ?_ | refine Agr.maskIn rfl ?_ | refine Agr.upds rfl ?_), ((), (z231.set (((nth x0.ends k233 Tip.zero).state).toNat) (((nth l229 (((nth x0.ends k233 Tip.zero).state).toNat) ([] : List (List UInt8))) ++ [(nth x0.ends k233 Tip.zero).out]), (a268, c269)))), ⟨hh, hn272, zf271⟩, by repeat (first | exact trivial | refine ⟨rfl, ?_⟩), Sub.front 3 rfl rfl (Sub.pre 2 rfl), rfl⟩
              · skip
                obtain ⟨_, z237⟩ := g
                obtain ⟨hh, hn236, zf238⟩ := hg
                try dsimp only at hn236
                try dsimp only at zf238
                show TC _ _ _ (upds (mask _ j _) []) _ [Res.mapB (fun x => Value.agg (encFPair x).toArray) unitV b202 m201, Res.nest 27 9 1 encS (.slice a214 (List.replicate x0.states.toNat ([] : List (List UInt8))).length c215) z237]
                dsimp only [fst_Outs_j2] at hh
                have hn236b := hn236
                have zf238b := zf238.len
                refine TC.know (isSl_nest (q := 1) rfl zf238) (fun ⟨_, hb273⟩ => ?_)
                refine TC.region ?_
                refine TL.v rfl (OpVal.succ rfl rfl rfl (by omega)) rfl rfl ?_
                refine TL.v rfl (OpVal.moveI (.inl rfl) rfl) rfl rfl ?_
                refine TL.nil ?_
                refine S.n ?_
                obtain ⟨hh, hlt274⟩ := nxt_x hR1 hh
                refine ⟨by repeat (first | exact Agr.refl _ _ | exact Agr.mask | refine Agr.upd rfl ?_ | refine Agr.maskIn rfl ?_ | refine Agr.upds rfl ?_), (((l229.set (((nth x0.ends k233 Tip.zero).state).toNat) ((nth l229 (((nth x0.ends k233 Tip.zero).state).toNat) ([] : List (List UInt8))) ++ [(nth x0.ends k233 Tip.zero).out])), (k233 + 1)), z237), hlt274, ⟨hh, hn236, zf238⟩, by repeat (first | exact trivial | refine ⟨rfl, ?_⟩), Sub.front 1 rfl rfl (Sub.front 1 rfl rfl (Sub.pre 2 rfl)), rfl⟩
            · replace hh := iteO_f h235 hh
              replace h235 := of_decide_eq_false h235
              refine TC.exit ?_
              refine S.x ?_
              refine S.x ?_
              replace hh := fin_x hR1 hh
              refine TC.exitHere ?_
              refine S.n ?_
              refine TC.seq ?_
              refine TC.region ?_
              refine TL.v rfl (OpVal.moveSl (.inr rfl) rfl) rfl rfl ?_
              refine TL.nil ?_
              refine S.n ?_
              refine TC.seq ?_
              refine TC.seq ?_
              refine TC.region ?_
              refine TL.v rfl (OpVal.moveMap (.inl rfl) rfl) rfl rfl ?_
              refine TL.op rfl (OpOk.rangeB rfl Try.underlying59 rfl rfl rfl (fun it275 l276 hl277 => ?_))
              refine TL.nil ?_
              refine S.n ?_
              refine TC.block ?_
              refine TC.nilS 9 1 encS ?_
              refine TC.loopG (α := ((List (List UInt8))) × ((Option Addr) × Nat × (List (FPair × Unit)) × (Option (FPair × Unit)))) [18, 19, 21, 111, 112, 113, 114, 115, 116, 117, 118, 119, 120, 121, 122, 123, 124, 125, 126, 127, 128, 129, 130, 131, 132] (fun g => [(18, .slice g.2.1 g.1.length g.2.2.1)]) (fun g => [Res.nest 27 9 1 encS (.slice a214 (List.replicate x0.states.toNat ([] : List (List UInt8))).length c215) z231, Res.rowS 9 1 encS (.slice g.2.1 g.1.length g.2.2.1) g.1, Res.rng (fun x => Value.agg (encFPair x).toArray) unitV b202 it275 m201 g.2.2.2.1 g.2.2.2.2]) (fun g => τ207) (fun g => runA (fun (q : (List (List UInt8))) (oE : Option (FPair × Unit)) => fst_Outs_b5 l229 q oE) g.2.2.2.1 g.1 = some r ∧ l229.length = (List.replicate x0.states.toNat ([] : List (List UInt8))).length ∧ Zn z231 l229) (fun g => List.length g.2.2.2.1) (([] : List (List UInt8)), (none, 0, l276, none)) (Sub.front 1 rfl rfl (Sub.front 1 rfl rfl (Sub.front 2 rfl rfl (Sub.pre 3 rfl)))) rfl (by repeat (first | exact trivial | refine ⟨rfl, ?_⟩)) ⟨(runA_of hh hl277), hn230, zf232⟩ (fun g5 j5 hg5 => ?_)
              obtain ⟨l299, ⟨a300, c301, l302, o303⟩⟩ := g5
              obtain ⟨hh, hn296, zf297⟩ := hg5
              try dsimp only at hn296
              try dsimp only at zf297
              show TC _ _ _ (upds (mask _ j5 _) [(18, .slice a300 l299.length c301)]) _ [Res.nest 27 9 1 encS (.slice a214 (List.replicate x0.states.toNat ([] : List (List UInt8))).length c215) z231, Res.rowS 9 1 encS (.slice a300 l299.length c301) l299, Res.rng (fun x => Value.agg (encFPair x).toArray) unitV b202 it275 m201 l302 o303]
              have hn296b := hn296
              have zf297b := zf297.len
              refine TC.know (isSl_nest (q := 0) rfl zf297) (fun ⟨_, hb305⟩ => ?_)
              refine TC.isSl (i := 1) rfl (fun _ hb306 _ => ?_)
              refine TC.seq ?_
              refine TC.region ?_
              refine TL.front 2 rfl rfl ?_
              refine TL.op rfl (OpOk.nextB (T := 0) rfl rfl rfl rfl rfl (fun hl307 => ?_) (fun l308 v120c l309 hl307 => ?_))
              · subst hl307
                obtain ⟨z1, hh, hR1⟩ := runA_end hh
                dsimp only [fst_Outs_b5, optE_none] at hh
                refine TL.by (fun w h => Reach.unrng h) ?_
                refine TL.v rfl (OpVal.extract rfl rfl rfl) rfl rfl ?_
                refine TL.nil ?_
                refine S.n ?_
                refine TC.seq ?_
                refine TC.cond rfl (fun h => Bool.noConfusion h) (fun _ => ?_)
                refine TC.exit ?_
                refine S.x ?_
                refine S.x ?_
                replace hh := finE_x hR1 hh
                refine TC.exitHere ?_
                refine S.n ?_
                refine TC.seq ?_
                refine TC.region ?_
                refine TL.v rfl (OpVal.moveSl (.inl rfl) rfl) rfl rfl ?_
                refine TL.front 2 rfl rfl ?_
                refine TL.sealS encS_len (fun τ312 hle311 hr310 => ?_)
                replace f0_0 := f0_0.mono hle311
                replace f0_1 := f0_1.mono hle311
                replace f0_2 := f0_2.mono hle311
                replace hr204 := hr204.mono hle311
                replace hr199 := hr199.mono hle311
                have hr310b := hr310.rv.big
                obtain ⟨v148, u148, hh⟩ := bnd_e hh
                refine TL.op rfl (OpOk.call (onceS_con hr310 u148) rfl rfl pf22 rfl rfl rfl rfl ?_)
                rintro _ _ _ hle313 ⟨a313_1, c313_1, rfl, rfl, rfl⟩
                refine TL.v rfl (OpVal.moveSl (.inr rfl) rfl) rfl rfl ?_
                refine TL.v rfl (OpVal.moveI (.inr rfl) rfl) rfl rfl ?_
                refine TL.nil ?_
                refine S.n ?_
                refine TC.sealS encS_len (fun τ317 hle316 hr315 => ?_)
                replace f0_0 := f0_0.mono hle316
                replace f0_1 := f0_1.mono hle316
                replace f0_2 := f0_2.mono hle316
                replace hr204 := hr204.mono hle316
                replace hr199 := hr199.mono hle316
                replace hr310 := hr310.mono hle316
                have hr315b := hr315.rv.big
                refine TC.ofSub (Sub.pre 0 rfl) ?_
                refine TC.ret ?_
                obtain rfl := Option.some.inj hh
                exact RetOk.mk' (rs := [.tmp 4, .tmp 5]) [] rfl (.inl rfl) (RVs.tmp rfl (RVs.tmp rfl RVs.nil)) (List.sublist_append_left _ _) ⟨a313_1, c313_1, rfl, hr315, rfl⟩
              · subst hl307
                obtain ⟨z1, hh, hR1⟩ := runA_step hh
                dsimp only [fst_Outs_b5, optE_some] at hh
                refine TL.v rfl (OpVal.extract rfl rfl rfl) rfl rfl ?_
                refine TL.nil ?_
                refine S.n ?_
                refine TC.seq ?_
                refine TC.cond rfl (fun _ => ?_) (fun h => Bool.noConfusion h)
                refine TC.skip ?_
                refine S.n ?_
                refine TC.block ?_
                refine TC.seq ?_
                refine TC.region ?_
                refine TL.v rfl (OpVal.of (OpVal.entryB rfl rfl (i := 0) rfl) (v' := .tuple #[.agg #[.int .i64 v120c.1.state, .string (bs v120c.1.out)], .agg #[]]) rfl) rfl rfl ?_
                refine TL.v rfl (OpVal.extract rfl rfl rfl) rfl rfl ?_
                refine TL.op rfl (OpOk.alloc rfl ze62 rfl rfl (fun b318 => ?_))
                refine TL.op rfl (OpOk.storeAll rfl sz62 rfl rfl rfl rfl rfl rfl ?_)
                refine TL.nil ?_
                refine S.n ?_
                refine TC.seq ?_
                refine TC.region ?_
                refine TL.v rfl (OpVal.moveSl (.inl rfl) rfl) rfl rfl ?_
                refine TL.v rfl (OpVal.fieldLoc rfl fo62_0 rfl) rfl rfl ?_
                refine TL.v rfl (OpVal.loadLoc rfl ag3 rfl (i := 0) rfl rfl) rfl rfl ?_
                have u129 := grd_c hh
                replace hh := grd_t hh
                refine TL.know (isSl_nest (q := 2) rfl zf297) (fun ⟨hs320, hs320b⟩ => ?_)
                refine TL.v rfl (OpVal.index rfl Try.underlying65 sz27 rfl rfl hs320 u129.1 u129.2) rfl rfl ?_
                obtain ⟨p321, hz321, hm321⟩ := Zn.at zf297 (i := v120c.1.state.toNat) (by omega)
                refine TL.v rfl (OpVal.loadN rfl ag27 rfl (q := 2) rfl hz321 hm321) rfl rfl ?_
                refine TL.v rfl (OpVal.lenC rfl Try.underlying27 rfl) rfl rfl ?_
                refine TL.v rfl (OpVal.moveI (.inl rfl) rfl) rfl rfl ?_
                refine TL.nil ?_
                refine S.n ?_
                refine TC.block ?_
                refine TC.loopG (α := ((List (List UInt8)) × Nat) × ((Option Addr) × Nat)) [18, 21, 121, 122, 123, 124, 125, 126, 127, 128, 129, 130, 131, 132] (fun g => [(18, .slice g.2.1 g.1.1.length g.2.2), (121, .int .i64 ((g.1.2 : Nat) : Int))]) (fun g => [Res.nest 27 9 1 encS (.slice a214 (List.replicate x0.states.toNat ([] : List (List UInt8))).length c215) z231, Res.rowS 9 1 encS (.slice g.2.1 g.1.1.length g.2.2) g.1.1, Res.cells b318 #[.int .i64 v120c.1.state, .string (bs v120c.1.out)] 62, Res.rng (fun x => Value.agg (encFPair x).toArray) unitV b202 it275 m201 (l308 ++ l309) (some v120c)]) (fun g => τ207) (fun g => iter (fun q : (List (List UInt8)) × Nat => fst_Outs_b6 l229 v120c q.1 q.2) g.1 = some z1 ∧ l229.length = (List.replicate x0.states.toNat ([] : List (List UInt8))).length ∧ Zn z231 l229) (fun g => rounds (fun q : (List (List UInt8)) × Nat => fst_Outs_b6 l229 v120c q.1 q.2) g.1) ((l299, 0), (a300, c301)) (Sub.front 1 rfl rfl (Sub.front 1 rfl rfl (Sub.front 3 rfl rfl (Sub.front 3 rfl rfl (Sub.pre 4 rfl))))) rfl (by repeat (first | exact trivial | refine ⟨rfl, ?_⟩)) ⟨hh, hn296, zf297⟩ (fun g6 j6 hg6 => ?_)
                obtain ⟨⟨l338, k341⟩, ⟨a339, c340⟩⟩ := g6
                obtain ⟨hh, hn336, zf337⟩ := hg6
                try dsimp only at hn336
                try dsimp only at zf337
                show TC _ _ _ (upds (mask _ j6 _) [(18, .slice a339 l338.length c340), (121, .int .i64 ((k341 : Nat) : Int))]) _ [Res.nest 27 9 1 encS (.slice a214 (List.replicate x0.states.toNat ([] : List (List UInt8))).length c215) z231, Res.rowS 9 1 encS (.slice a339 l338.length c340) l338, Res.cells b318 #[.int .i64 v120c.1.state, .string (bs v120c.1.out)] 62, Res.rng (fun x => Value.agg (encFPair x).toArray) unitV b202 it275 m201 (l308 ++ l309) (some v120c)]
                obtain ⟨z2, hh, hR2⟩ := iter_e hh
                dsimp only [fst_Outs_b6] at hh
                have hn336b := hn336
                have zf337b := zf337.len
                refine TC.know (isSl_nest (q := 0) rfl zf337) (fun ⟨_, hb342⟩ => ?_)
                refine TC.isSl (i := 1) rfl (fun _ hb343 _ => ?_)
                refine TC.seq ?_
                refine TC.region ?_
                refine TL.v rfl (OpVal.lss rfl rfl rfl) rfl rfl ?_
                refine TL.nil ?_
                refine S.n ?_
                refine TC.seq ?_
                refine TC.cond rfl (fun h344 => ?_) (fun h344 => ?_)
                · replace hh := iteO_t h344 hh
                  replace h344 := of_decide_eq_true h344
                  refine TC.skip ?_
                  refine S.n ?_
                  refine TC.seq ?_
                  refine TC.block ?_
                  refine TC.seq ?_
                  refine TC.region ?_
                  refine TL.know (isSl_inner (q := 0) rfl hz321 hm321) (fun ⟨hs345, hs345b⟩ => ?_)
                  refine TL.v rfl (OpVal.indexN rfl Try.underlying27 sz9 rfl rfl hs345 (by omega)) rfl rfl ?_
                  refine TL.v rfl (OpVal.seen (sees_inner (q := 0) rfl hz321 hm321) (OpVal.loadO1 ([] : List UInt8) rfl ag9 rfl (q := 0) rfl encS_len (by omega) rfl)) rfl rfl ?_
                  refine TL.v rfl (OpVal.moveStr (.inr rfl) rfl) rfl rfl ?_
                  refine TL.nil ?_
                  refine S.n ?_
                  refine TC.region ?_
                  refine TL.v rfl (OpVal.moveSl (.inl rfl) rfl) rfl rfl ?_
                  refine TL.v rfl (OpVal.fieldLoc rfl fo62_1 rfl) rfl rfl ?_
                  refine TL.v rfl (OpVal.loadLoc rfl ag9 rfl (i := 2) rfl rfl) rfl rfl ?_
                  refine TL.v rfl (OpVal.moveStr (.inl rfl) rfl) rfl rfl ?_
                  have u141 := grd_c hh
                  replace hh := grd_t hh
                  refine TL.v rfl (OpVal.catBs rfl rfl rfl u141) rfl rfl ?_
                  refine TL.op rfl (OpOk.lit (enc := encS) [(v120c.1.out ++ (nth (nth l229 v120c.1.state.toNat ([] : List (List UInt8))) k341 ([] : List UInt8)))] rfl Try.underlying27 sz9 ze9 rfl rfl rfl encS_len (by decide) (by decide) ([] : List UInt8) rfl (by decide) rfl (by decide) encS_one (fun a346 c347 => ?_))
                  refine TL.front 2 rfl rfl ?_
                  have u143 := grd_c hh
                  replace hh := grd_t hh
                  refine TL.op rfl (OpOk.appendS rfl rfl Try.underlying27 sz9 by9 ze9 rfl rfl (by decide) rfl rfl rfl (.inr ⟨_, 0, rfl⟩) (by simpa using u143) (by decide) (fun a349 c350 => ?_))
                  refine TL.v rfl (OpVal.moveSl (.inr rfl) rfl) rfl rfl ?_
                  refine TL.nil ?_
                  refine B.n ?_
                  refine S.n ?_
                  refine TC.region ?_
                  refine TL.v rfl (OpVal.succ rfl rfl rfl (by omega)) rfl rfl ?_
                  refine TL.v rfl (OpVal.moveI (.inl rfl) rfl) rfl rfl ?_
                  refine TL.nil ?_
                  refine S.n ?_
                  obtain ⟨hh, hlt351⟩ := nxt_x hR2 hh
                  refine ⟨by repeat (first | exact Agr.refl _ _ | exact Agr.mask | refine Agr.upd rfl ?_ | refine Agr.maskIn rfl ?_ | refine Agr.upds rfl ?_), (((l338 ++ [(v120c.1.out ++ (nth (nth l229 v120c.1.state.toNat ([] : List (List UInt8))) k341 ([] : List UInt8)))]), (k341 + 1)), (a349, c350)), hlt351, ⟨hh, hn336, zf337⟩, by repeat (first | exact trivial | refine ⟨rfl, ?_⟩), Sub.front 4 rfl rfl (Sub.front 4 rfl rfl (Sub.front 2 rfl rfl (Sub.front 4 rfl rfl (Sub.pre 4 rfl)))), rfl⟩
                · replace hh := iteO_f h344 hh
                  replace h344 := of_decide_eq_false h344
                  refine TC.exit ?_
                  refine S.x ?_
                  refine S.x ?_
                  replace hh := fin_x hR2 hh
                  refine TC.exitHere ?_
                  refine B.n ?_
                  refine S.n ?_
                  replace hh := nxtA_x hR1 hh
                  refine ⟨by repeat (first | exact Agr.refl _ _ | exact Agr.mask | refine Agr.upd rfl ?_ | refine Agr.maskIn rfl ?_ | refine Agr.upds rfl ?_), (l338, (a339, c340, (l308 ++ l309), (some v120c))), (by simp), ⟨hh, hn336, zf337⟩, by repeat (first | exact trivial | refine ⟨rfl, ?_⟩), Sub.front 3 rfl rfl (Sub.front 2 rfl rfl (Sub.front 2 rfl rfl (Sub.pre 3 rfl))), rfl⟩

end Go.Proofs.Ytpijipnmfkehcaa
