/- Decompiled: Has; the law's own looks. -/
import Derived.Test.YtpijipnmfkehcaaF3
set_option linter.unusedVariables false
set_option linter.unusedSimpArgs false
namespace Go.Proofs.Ytpijipnmfkehcaa
open Go Go.E
set_option maxRecDepth 100000
private theorem ag22 : Go.E.aggOf Try.prog 22 = some false := by kernel_rfl
private theorem ag23 : Go.E.aggOf Try.prog 23 = some false := by kernel_rfl
private theorem ag25 : Go.E.aggOf Try.prog 25 = some true := by kernel_rfl
private theorem ag41 : Go.E.aggOf Try.prog 41 = some true := by kernel_rfl
private theorem ag57 : Go.E.aggOf Try.prog 57 = some true := by kernel_rfl
private theorem ag9 : Go.E.aggOf Try.prog 9 = some false := by kernel_rfl
private theorem by41 : Go.E.byOf Try.prog 41 = some 72 := by kernel_rfl
private theorem eg41 : Try.prog.eqGuardType Try.prog.depth 41 = false := by kernel_rfl
private theorem eg57 : Try.prog.eqGuardType Try.prog.depth 57 = false := by kernel_rfl
private theorem es41 (x y : Arc) : Go.E.EqAt Try.prog 3 41 (.agg (Go.E.encArc x).toArray) (.agg (Go.E.encArc y).toArray) (decide (x = y)) :=
  (EqAt.struct (ts := [(false, 3, 0), (false, 3, 1), (false, 39, 2), (false, 9, 6), (false, 4, 7)]) (by kernel_rfl) (by kernel_rfl) (by kernel_rfl) (EqC.one (by kernel_rfl) rfl rfl (EqAt.int Try.underlying3 x.frm y.frm |>.up (by decide)) (EqC.one (by kernel_rfl) rfl rfl (EqAt.int Try.underlying3 x.to y.to |>.up (by decide)) (EqC.agg (s := 4) (us := Go.E.setA x.set) (vs := Go.E.setA y.set) (by kernel_rfl) (by kernel_rfl) rfl rfl (EqAt.set Try.underlying39 Try.underlying37 (by kernel_rfl) (by kernel_rfl) x.set y.set) (EqC.one (by kernel_rfl) rfl rfl (EqAt.str Try.underlying9 x.out y.out |>.up (by decide)) (EqC.one (by kernel_rfl) rfl rfl (EqAt.bool Try.underlying4 x.copy y.copy |>.up (by decide)) EqC.nil)))))).of (by rw [Bool.eq_iff_iff]; cases x; cases y; simp)
private theorem es57 (x y : Tip) : Go.E.EqAt Try.prog 2 57 (.agg (Go.E.encTip x).toArray) (.agg (Go.E.encTip y).toArray) (decide (x = y)) :=
  (EqAt.struct (ts := [(false, 3, 0), (false, 9, 1)]) (by kernel_rfl) (by kernel_rfl) (by kernel_rfl) (EqC.one (by kernel_rfl) rfl rfl (EqAt.int Try.underlying3 x.state y.state) (EqC.one (by kernel_rfl) rfl rfl (EqAt.str Try.underlying9 x.out y.out) EqC.nil))).of (by rw [Bool.eq_iff_iff]; cases x; cases y; simp)
private theorem fo25_0 : Go.E.foOf Try.prog 25 0 = some 0 := by kernel_rfl
private theorem fo25_1 : Go.E.foOf Try.prog 25 1 = some 1 := by kernel_rfl
private theorem fo25_2 : Go.E.foOf Try.prog 25 2 = some 2 := by kernel_rfl
private theorem fo25_3 : Go.E.foOf Try.prog 25 3 = some 3 := by kernel_rfl
private theorem fo41_3 : Go.E.foOf Try.prog 41 3 = some 6 := by kernel_rfl
private theorem fo57_1 : Go.E.foOf Try.prog 57 1 = some 1 := by kernel_rfl
private theorem pf10 : Go.E.plainF Try.prog 10 = true := by kernel_rfl
private theorem pf12 : Go.E.plainF Try.prog 12 = true := by kernel_rfl
private theorem pf13 : Go.E.plainF Try.prog 13 = true := by kernel_rfl
private theorem pf15 : Go.E.plainF Try.prog 15 = true := by kernel_rfl
private theorem pf16 : Go.E.plainF Try.prog 16 = true := by kernel_rfl
private theorem pf17 : Go.E.plainF Try.prog 17 = true := by kernel_rfl
private theorem pf28 : Go.E.plainF Try.prog 28 = true := by kernel_rfl
private theorem pf29 : Go.E.plainF Try.prog 29 = true := by kernel_rfl
private theorem pf36 : Go.E.plainF Try.prog 36 = true := by kernel_rfl
private theorem pf48 : Go.E.plainF Try.prog 48 = true := by kernel_rfl
private theorem pf7 : Go.E.plainF Try.prog 7 = true := by kernel_rfl
private theorem pf8 : Go.E.plainF Try.prog 8 = true := by kernel_rfl
private theorem pl25 : Go.E.plOf Try.prog 25 = some #[(0, 1), (1, 1), (2, 1), (3, 1)] := by kernel_rfl
private theorem pl41 : Go.E.plOf Try.prog 41 = some #[(0, 1), (1, 1), (2, 4), (6, 1), (7, 1)] := by kernel_rfl
private theorem pl57 : Go.E.plOf Try.prog 57 = some #[(0, 1), (1, 1)] := by kernel_rfl
private theorem sz23 : Go.E.szOf Try.prog 23 = some 1 := by kernel_rfl
private theorem sz25 : Go.E.szOf Try.prog 25 = some 4 := by kernel_rfl
private theorem sz41 : Go.E.szOf Try.prog 41 = some 8 := by kernel_rfl
private theorem sz57 : Go.E.szOf Try.prog 57 = some 2 := by kernel_rfl
private theorem sz9 : Go.E.szOf Try.prog 9 = some 1 := by kernel_rfl
private theorem ze25 : Go.E.zeroOf Try.prog 25 = some (.agg #[.int .i64 0, .slice none 0 0, .slice none 0 0, .slice none 0 0]) := by kernel_rfl
private theorem ze41 : Go.E.zeroOf Try.prog 41 = some (.agg #[.int .i64 0, .int .i64 0, .int .u64 0, .int .u64 0, .int .u64 0, .int .u64 0, .string ByteArray.empty, .bool false]) := by kernel_rfl
private theorem ze5 : Go.E.zeroOf Try.prog 5 = some (.int .u8 0) := by kernel_rfl
private theorem ze57 : Go.E.zeroOf Try.prog 57 = some (.agg #[.int .i64 0, .string ByteArray.empty]) := by kernel_rfl
private theorem ze9 : Go.E.zeroOf Try.prog 9 = some (.string ByteArray.empty) := by kernel_rfl

noncomputable def indexS_b1 (x0 : List (List UInt8)) (x1 : List UInt8) (k103 : Nat) : Option ((Nat) ⊕ (Int)) :=
  iteO (decide (((k103 : Nat) : Int) < ((x0.length : Nat) : Int))) (iteO (decide (x1 = (nth x0 k103 ([] : List UInt8)))) (fin (some ((k103 : Nat) : Int))) (nxt (k103 + 1))) (fin (some (-1)))
noncomputable def indexS (x0 : List (List UInt8)) (x1 : List UInt8) : Option (Int) :=
  grd (x1.length ≤ 281474976710656) (iter (fun q : Nat => indexS_b1 x0 x1 q) 0)
theorem indexS_con {σ : Store} {x0 : List (List UInt8)} {a0_0 : Option Addr} {c0_0 : Nat} {x1 : List UInt8} (f0_0 : RS σ 1 encS (.slice a0_0 x0.length c0_0) x0) {r : Int} (hh : indexS x0 x1 = some r) :
    Con Try.prog 48 #[.slice a0_0 x0.length c0_0, .string (bs x1)] σ [] (PureP (.int .i64 r) σ) := by
  dsimp only [indexS] at hh
  have f0_0b := f0_0.rv.big
  refine Con.mk (n := 19) Try.func48 rfl rfl rfl (fun w0 => ?_)
  have x1b := grd_c hh
  replace hh := grd_t hh
  refine TC.seq ?_
  refine TC.region ?_
  refine TL.v rfl (OpVal.moveI (.inr rfl) rfl) rfl rfl ?_
  refine TL.nil ?_
  refine S.n ?_
  refine TC.seq ?_
  refine TC.seq ?_
  refine TC.region ?_
  refine TL.v rfl (OpVal.moveSl (.inl rfl) rfl) rfl rfl ?_
  refine TL.v rfl (OpVal.lenC rfl Try.underlying27 rfl) rfl rfl ?_
  refine TL.v rfl (OpVal.moveI (.inl rfl) rfl) rfl rfl ?_
  refine TL.nil ?_
  refine S.n ?_
  refine TC.block ?_
  refine TC.loopG (α := (Nat) × (Unit)) [4, 5, 8, 9, 10, 11, 12, 13, 14, 15, 16, 17, 18] (fun g => [(8, .int .i64 ((g.1 : Nat) : Int))]) (fun g => []) (fun g => σ) (fun g => iter (fun q : Nat => indexS_b1 x0 x1 q) g.1 = some r) (fun g => rounds (fun q : Nat => indexS_b1 x0 x1 q) g.1) (0, ()) (Sub.pre 0 rfl) rfl (by repeat (first | exact trivial | refine ⟨rfl, ?_⟩)) hh (fun g1 j1 hg1 => ?_)
  obtain ⟨k103, _⟩ := g1
  have hh := hg1; clear hg1
  show TC _ _ _ (upds (mask _ j1 _) [(8, .int .i64 ((k103 : Nat) : Int))]) _ []
  obtain ⟨z1, hh, hR1⟩ := iter_e hh
  dsimp only [indexS_b1] at hh
  refine TC.seq ?_
  refine TC.region ?_
  refine TL.v rfl (OpVal.lss rfl rfl rfl) rfl rfl ?_
  refine TL.nil ?_
  refine S.n ?_
  refine TC.seq ?_
  refine TC.cond rfl (fun h104 => ?_) (fun h104 => ?_)
  · replace hh := iteO_t h104 hh
    replace h104 := of_decide_eq_true h104
    refine TC.skip ?_
    refine S.n ?_
    refine TC.seq ?_
    refine TC.block ?_
    refine TC.seq ?_
    refine TC.region ?_
    refine TL.v rfl (OpVal.moveI (.inl rfl) rfl) rfl rfl ?_
    refine TL.v rfl (OpVal.moveI (.inr rfl) rfl) rfl rfl ?_
    refine TL.nil ?_
    refine S.n ?_
    refine TC.seq ?_
    refine TC.region ?_
    refine TL.v rfl (OpVal.moveStr (.inl rfl) rfl) rfl rfl ?_
    refine TL.v rfl (OpVal.moveSl (.inl rfl) rfl) rfl rfl ?_
    refine TL.v rfl (OpVal.moveI (.inl rfl) rfl) rfl rfl ?_
    refine TL.v rfl (OpVal.indexN rfl Try.underlying27 sz9 rfl rfl f0_0.rv.sl (by omega)) rfl rfl ?_
    refine TL.v rfl (OpVal.loadS1 ([] : List UInt8) rfl ag9 rfl f0_0 (by omega) rfl) rfl rfl ?_
    refine TL.v rfl (OpVal.eqlBs rfl rfl rfl) rfl rfl ?_
    refine TL.nil ?_
    refine S.n ?_
    refine TC.cond rfl (fun h105 => ?_) (fun h105 => ?_)
    · replace hh := iteO_t h105 hh
      replace h105 := of_decide_eq_true h105
      refine TC.seq ?_
      refine TC.region ?_
      refine TL.v rfl (OpVal.moveI (.inl rfl) rfl) rfl rfl ?_
      refine TL.v rfl (OpVal.moveI (.inr rfl) rfl) rfl rfl ?_
      refine TL.nil ?_
      refine S.n ?_
      refine TC.ret ?_
      refine B.r ?_
      refine S.r ?_
      refine S.r ?_
      replace hh := fin_x hR1 hh
      refine B.r ?_
      refine S.r ?_
      obtain rfl := Option.some.inj hh
      exact RetOk.mk' (rs := [.tmp 4]) [] rfl (.inl rfl) (RVs.tmp rfl RVs.nil) (List.sublist_append_left _ _) ⟨rfl, rfl, rfl⟩
    · replace hh := iteO_f h105 hh
      replace h105 := of_decide_eq_false h105
      refine TC.skip ?_
      refine B.n ?_
      refine S.n ?_
      refine TC.region ?_
      refine TL.v rfl (OpVal.succ rfl rfl rfl (by omega)) rfl rfl ?_
      refine TL.v rfl (OpVal.moveI (.inl rfl) rfl) rfl rfl ?_
      refine TL.nil ?_
      refine S.n ?_
      obtain ⟨hh, hlt106⟩ := nxt_x hR1 hh
      refine ⟨by repeat (first | exact Agr.refl _ _ | exact Agr.mask | refine Agr.upd rfl ?_ | refine Agr.maskIn rfl ?_ | refine Agr.upds rfl ?_), ((k103 + 1), ()), hlt106, hh, by repeat (first | exact trivial | refine ⟨rfl, ?_⟩), Sub.pre 0 rfl, rfl⟩
  · replace hh := iteO_f h104 hh
    replace h104 := of_decide_eq_false h104
    refine TC.exit ?_
    refine S.x ?_
    refine S.x ?_
    replace hh := fin_x hR1 hh
    refine TC.exitHere ?_
    refine S.n ?_
    refine TC.seq ?_
    refine TC.region ?_
    refine TL.v rfl (OpVal.moveI (.inr rfl) rfl) rfl rfl ?_
    refine TL.nil ?_
    refine S.n ?_
    refine TC.ret ?_
    obtain rfl := Option.some.inj hh
    exact RetOk.mk' (rs := [.tmp 4]) [] rfl (.inl rfl) (RVs.tmp rfl RVs.nil) (List.sublist_append_left _ _) ⟨rfl, rfl, rfl⟩

noncomputable def containsS (x0 : List (List UInt8)) (x1 : List UInt8) : Option (Bool) :=
  grd (x1.length ≤ 281474976710656) (bnd (indexS x0 x1) (fun v4 => some (decide (0 ≤ v4))))
theorem containsS_con {σ : Store} {x0 : List (List UInt8)} {a0_0 : Option Addr} {c0_0 : Nat} {x1 : List UInt8} (f0_0 : RS σ 1 encS (.slice a0_0 x0.length c0_0) x0) {r : Bool} (hh : containsS x0 x1 = some r) :
    Con Try.prog 28 #[.slice a0_0 x0.length c0_0, .string (bs x1)] σ [] (PureP (.bool r) σ) := by
  dsimp only [containsS] at hh
  have f0_0b := f0_0.rv.big
  refine Con.mk (n := 9) Try.func28 rfl rfl rfl (fun w0 => ?_)
  have x1b := grd_c hh
  replace hh := grd_t hh
  refine TC.seq ?_
  refine TC.region ?_
  refine TL.v rfl (OpVal.moveB (.inr rfl) rfl) rfl rfl ?_
  refine TL.nil ?_
  refine S.n ?_
  refine TC.seq ?_
  refine TC.region ?_
  refine TL.v rfl (OpVal.moveSl (.inl rfl) rfl) rfl rfl ?_
  refine TL.v rfl (OpVal.moveStr (.inl rfl) rfl) rfl rfl ?_
  obtain ⟨v4, u4, hh⟩ := bnd_e hh
  refine TL.op rfl (OpOk.callP (indexS_con f0_0 u4) rfl rfl pf48 rfl rfl rfl ?_)
  refine TL.v rfl (OpVal.geq rfl rfl rfl) rfl rfl ?_
  refine TL.v rfl (OpVal.moveB (.inr rfl) rfl) rfl rfl ?_
  refine TL.nil ?_
  refine S.n ?_
  refine TC.ret ?_
  obtain rfl := Option.some.inj hh
  exact RetOk.mk' (rs := [.tmp 4]) [] rfl (.inl rfl) (RVs.tmp rfl RVs.nil) (List.sublist_append_left _ _) ⟨rfl, rfl, rfl⟩

noncomputable def fst_Has (x0 : Fst) (x1 : List UInt8) (x2 : List UInt8) : Option (Bool × Int) :=
  grd (x1.length ≤ 281474976710656) (grd (x2.length ≤ 281474976710656) (bnd (fst_Outs x0 x1) (fun v6 => iteO (decide (v6.2 ≠ 0)) (some (false, v6.2)) (bnd (containsS v6.1 x2) (fun v19 => some (v19, 0))))))
theorem fst_Has_con {σ : Store} {x0 : Fst} {a0_0 : Option Addr} {c0_0 : Nat} {a0_1 : Option Addr} {c0_1 : Nat} {a0_2 : Option Addr} {c0_2 : Nat} {x1 : List UInt8} {x2 : List UInt8} (f0_0 : RS σ 2 encTip (.slice a0_0 x0.starts.length c0_0) x0.starts) (f0_1 : RS σ 2 encTip (.slice a0_1 x0.ends.length c0_1) x0.ends) (f0_2 : RS σ 8 encArc (.slice a0_2 x0.arcs.length c0_2) x0.arcs) {r : Bool × Int} (hh : fst_Has x0 x1 x2 = some r) :
    Con Try.prog 10 #[.agg #[.int .i64 x0.states, .slice a0_0 x0.starts.length c0_0, .slice a0_1 x0.ends.length c0_1, .slice a0_2 x0.arcs.length c0_2], .string (bs x1), .string (bs x2)] σ [] (PureP (.tuple #[.bool r.1, .int .i64 r.2]) σ) := by
  dsimp only [fst_Has] at hh
  have f0_0b := f0_0.rv.big
  have f0_1b := f0_1.rv.big
  have f0_2b := f0_2.rv.big
  refine Con.mk (n := 22) Try.func10 rfl rfl rfl (fun w0 => ?_)
  have x1b := grd_c hh
  replace hh := grd_t hh
  have x2b := grd_c hh
  replace hh := grd_t hh
  refine TC.seq ?_
  refine TC.region ?_
  refine TL.op rfl (OpOk.boxA rfl rfl rfl rfl (fun b101 => ?_))
  refine TL.v rfl (OpVal.moveB (.inr rfl) rfl) rfl rfl ?_
  refine TL.v rfl (OpVal.moveI (.inr rfl) rfl) rfl rfl ?_
  refine TL.nil ?_
  refine S.n ?_
  refine TC.seq ?_
  refine TC.region ?_
  refine TL.v rfl (OpVal.loadAll rfl ag25 sz25 rfl (i := 0) rfl rfl) rfl rfl ?_
  refine TL.v rfl (OpVal.moveStr (.inl rfl) rfl) rfl rfl ?_
  obtain ⟨v6, u6, hh⟩ := bnd_e hh
  refine TL.op rfl (OpOk.call (fst_Outs_con (x0 := x0) f0_0 f0_1 f0_2 u6) rfl rfl pf8 rfl rfl rfl rfl ?_)
  rintro _ τ103 _ hle103 ⟨a103_1, c103_1, rfl, hr103_0, rfl⟩
  replace f0_0 := f0_0.mono hle103
  replace f0_1 := f0_1.mono hle103
  replace f0_2 := f0_2.mono hle103
  have hr103_0b := hr103_0.rv.big
  refine TL.v rfl (OpVal.moveT (.inl rfl) rfl) rfl rfl ?_
  refine TL.v rfl (OpVal.extract rfl rfl rfl) rfl rfl ?_
  refine TL.v rfl (OpVal.extract rfl rfl rfl) rfl rfl ?_
  refine TL.v rfl (OpVal.moveSl (.inr rfl) rfl) rfl rfl ?_
  refine TL.v rfl (OpVal.moveI (.inr rfl) rfl) rfl rfl ?_
  refine TL.nil ?_
  refine S.n ?_
  refine TC.seq ?_
  refine TC.seq ?_
  refine TC.region ?_
  refine TL.v rfl (OpVal.moveI (.inl rfl) rfl) rfl rfl ?_
  refine TL.v rfl (OpVal.neq rfl rfl rfl) rfl rfl ?_
  refine TL.nil ?_
  refine S.n ?_
  refine TC.cond rfl (fun h104 => ?_) (fun h104 => ?_)
  · replace hh := iteO_t h104 hh
    replace h104 := of_decide_eq_true h104
    refine TC.seq ?_
    refine TC.region ?_
    refine TL.v rfl (OpVal.moveI (.inl rfl) rfl) rfl rfl ?_
    refine TL.v rfl (OpVal.moveB (.inr rfl) rfl) rfl rfl ?_
    refine TL.v rfl (OpVal.moveI (.inr rfl) rfl) rfl rfl ?_
    refine TL.nil ?_
    refine S.n ?_
    refine TC.ofSub (Sub.pre 0 rfl) ?_
    refine TC.back ?_
    refine TC.ret ?_
    refine S.r ?_
    obtain rfl := Option.some.inj hh
    exact RetOk.mk' (rs := [.tmp 6, .tmp 7]) [] rfl (.inl rfl) (RVs.tmp rfl (RVs.tmp rfl RVs.nil)) (List.sublist_append_left _ _) ⟨rfl, rfl, rfl⟩
  · replace hh := iteO_f h104 hh
    replace h104 := of_decide_eq_false h104
    refine TC.skip ?_
    refine S.n ?_
    refine TC.seq ?_
    refine TC.region ?_
    refine TL.v rfl (OpVal.moveSl (.inl rfl) rfl) rfl rfl ?_
    refine TL.v rfl (OpVal.moveStr (.inl rfl) rfl) rfl rfl ?_
    obtain ⟨v19, u19, hh⟩ := bnd_e hh
    refine TL.op rfl (OpOk.callP (containsS_con hr103_0 u19) rfl rfl pf28 rfl rfl rfl ?_)
    refine TL.v rfl (OpVal.moveB (.inr rfl) rfl) rfl rfl ?_
    refine TL.v rfl (OpVal.moveI (.inr rfl) rfl) rfl rfl ?_
    refine TL.nil ?_
    refine S.n ?_
    refine TC.ofSub (Sub.pre 0 rfl) ?_
    refine TC.back ?_
    refine TC.ret ?_
    obtain rfl := Option.some.inj hh
    exact RetOk.mk' (rs := [.tmp 6, .tmp 7]) [] rfl (.inl rfl) (RVs.tmp rfl (RVs.tmp rfl RVs.nil)) (List.sublist_append_left _ _) ⟨rfl, rfl, rfl⟩

noncomputable def whittleref03_Texts_b1 (x0 : List (List UInt8)) (x1 : List (List UInt8)) (k104 : Nat) : Option ((Nat) ⊕ (Bool)) :=
  iteO (decide (((k104 : Nat) : Int) < ((x0.length : Nat) : Int))) (grd (k104 < x1.length) (iteO (decide ((nth x0 k104 ([] : List UInt8)) ≠ (nth x1 k104 ([] : List UInt8)))) (fin (some false)) (nxt (k104 + 1)))) (fin (some true))
noncomputable def whittleref03_Texts (x0 : List (List UInt8)) (x1 : List (List UInt8)) : Option (Bool) :=
  iteO (decide (((x0.length : Nat) : Int) ≠ ((x1.length : Nat) : Int))) (some false) (iter (fun q : Nat => whittleref03_Texts_b1 x0 x1 q) 0)
theorem whittleref03_Texts_con {σ : Store} {x0 : List (List UInt8)} {a0_0 : Option Addr} {c0_0 : Nat} {x1 : List (List UInt8)} {a1_0 : Option Addr} {c1_0 : Nat} (f0_0 : RS σ 1 encS (.slice a0_0 x0.length c0_0) x0) (f1_0 : RS σ 1 encS (.slice a1_0 x1.length c1_0) x1) {r : Bool} (hh : whittleref03_Texts x0 x1 = some r) :
    Con Try.prog 15 #[.slice a0_0 x0.length c0_0, .slice a1_0 x1.length c1_0] σ [] (PureP (.bool r) σ) := by
  dsimp only [whittleref03_Texts] at hh
  have f0_0b := f0_0.rv.big
  have f1_0b := f1_0.rv.big
  refine Con.mk (n := 26) Try.func15 rfl rfl rfl (fun w0 => ?_)
  refine TC.seq ?_
  refine TC.region ?_
  refine TL.v rfl (OpVal.moveB (.inr rfl) rfl) rfl rfl ?_
  refine TL.nil ?_
  refine S.n ?_
  refine TC.seq ?_
  refine TC.seq ?_
  refine TC.region ?_
  refine TL.v rfl (OpVal.moveSl (.inl rfl) rfl) rfl rfl ?_
  refine TL.v rfl (OpVal.lenC rfl Try.underlying27 rfl) rfl rfl ?_
  refine TL.v rfl (OpVal.moveSl (.inl rfl) rfl) rfl rfl ?_
  refine TL.v rfl (OpVal.lenC rfl Try.underlying27 rfl) rfl rfl ?_
  refine TL.v rfl (OpVal.neq rfl rfl rfl) rfl rfl ?_
  refine TL.nil ?_
  refine S.n ?_
  refine TC.cond rfl (fun h101 => ?_) (fun h101 => ?_)
  · replace hh := iteO_t h101 hh
    replace h101 := of_decide_eq_true h101
    refine TC.seq ?_
    refine TC.region ?_
    refine TL.v rfl (OpVal.moveB (.inr rfl) rfl) rfl rfl ?_
    refine TL.nil ?_
    refine S.n ?_
    refine TC.ret ?_
    refine S.r ?_
    obtain rfl := Option.some.inj hh
    exact RetOk.mk' (rs := [.tmp 4]) [] rfl (.inl rfl) (RVs.tmp rfl RVs.nil) (List.sublist_append_left _ _) ⟨rfl, rfl, rfl⟩
  · replace hh := iteO_f h101 hh
    replace h101 := of_decide_eq_false h101
    refine TC.skip ?_
    refine S.n ?_
    refine TC.seq ?_
    refine TC.seq ?_
    refine TC.region ?_
    refine TL.v rfl (OpVal.moveI (.inr rfl) rfl) rfl rfl ?_
    refine TL.nil ?_
    refine S.n ?_
    refine TC.block ?_
    refine TC.loopG (α := (Nat) × (Unit)) [4, 5, 11, 12, 13, 14, 15, 16, 17, 18, 19, 20, 21, 22, 23, 24, 25] (fun g => [(5, .int .i64 ((g.1 : Nat) : Int))]) (fun g => []) (fun g => σ) (fun g => iter (fun q : Nat => whittleref03_Texts_b1 x0 x1 q) g.1 = some r) (fun g => rounds (fun q : Nat => whittleref03_Texts_b1 x0 x1 q) g.1) (0, ()) (Sub.pre 0 rfl) rfl (by repeat (first | exact trivial | refine ⟨rfl, ?_⟩)) hh (fun g1 j1 hg1 => ?_)
    obtain ⟨k104, _⟩ := g1
    have hh := hg1; clear hg1
    show TC _ _ _ (upds (mask _ j1 _) [(5, .int .i64 ((k104 : Nat) : Int))]) _ []
    obtain ⟨z1, hh, hR1⟩ := iter_e hh
    dsimp only [whittleref03_Texts_b1] at hh
    refine TC.seq ?_
    refine TC.seq ?_
    refine TC.region ?_
    refine TL.v rfl (OpVal.moveI (.inl rfl) rfl) rfl rfl ?_
    refine TL.v rfl (OpVal.moveSl (.inl rfl) rfl) rfl rfl ?_
    refine TL.v rfl (OpVal.lenC rfl Try.underlying27 rfl) rfl rfl ?_
    refine TL.v rfl (OpVal.lss rfl rfl rfl) rfl rfl ?_
    refine TL.nil ?_
    refine S.n ?_
    refine TC.cond rfl (fun h105 => ?_) (fun h105 => ?_)
    · replace hh := iteO_t h105 hh
      replace h105 := of_decide_eq_true h105
      refine TC.skip ?_
      refine S.n ?_
      refine TC.seq ?_
      refine TC.block ?_
      refine TC.seq ?_
      have u19 := grd_c hh
      replace hh := grd_t hh
      refine TC.draw [] (by kernel_rfl) ?_
      refine TA.takeP 0 rfl (by kernel_rfl) (by kernel_rfl) (by kernel_rfl) rfl (OpVal.moveSl (.inl rfl) rfl) rfl rfl ?_
      refine TA.takeP 1 rfl (by kernel_rfl) (by kernel_rfl) (by kernel_rfl) rfl (OpVal.moveI (.inl rfl) rfl) rfl rfl ?_
      refine TA.take 2 rfl (by kernel_rfl) (by kernel_rfl) (by kernel_rfl) (by kernel_rfl) rfl (OpVal.indexN rfl Try.underlying27 sz9 rfl rfl f0_0.rv.sl (by omega)) rfl rfl ?_
      refine TA.take 3 rfl (by kernel_rfl) (by kernel_rfl) (by kernel_rfl) (by kernel_rfl) rfl (OpVal.loadS1 ([] : List UInt8) rfl ag9 rfl f0_0 (by omega) rfl) rfl rfl ?_
      refine TA.takeP 4 rfl (by kernel_rfl) (by kernel_rfl) (by kernel_rfl) rfl (OpVal.moveSl (.inl rfl) rfl) rfl rfl ?_
      refine TA.takeP 5 rfl (by kernel_rfl) (by kernel_rfl) (by kernel_rfl) rfl (OpVal.moveI (.inl rfl) rfl) rfl rfl ?_
      refine TA.take 6 rfl (by kernel_rfl) (by kernel_rfl) (by kernel_rfl) (by kernel_rfl) rfl (OpVal.indexN rfl Try.underlying27 sz9 rfl rfl f1_0.rv.sl (by omega)) rfl rfl ?_
      refine TA.take 7 rfl (by kernel_rfl) (by kernel_rfl) (by kernel_rfl) (by kernel_rfl) rfl (OpVal.loadS1 ([] : List UInt8) rfl ag9 rfl f1_0 (by omega) rfl) rfl rfl ?_
      refine TA.takeP 8 rfl (by kernel_rfl) (by kernel_rfl) (by kernel_rfl) rfl (OpVal.neqBs rfl rfl rfl) rfl rfl ?_
      refine TA.done (by kernel_rfl) ?_
      refine S.n ?_
      refine TC.cond rfl (fun h106 => ?_) (fun h106 => ?_)
      · replace hh := iteO_t h106 hh
        replace h106 := of_decide_eq_true h106
        refine TC.seq ?_
        refine TC.region ?_
        refine TL.v rfl (OpVal.moveB (.inr rfl) rfl) rfl rfl ?_
        refine TL.nil ?_
        refine S.n ?_
        refine TC.ret ?_
        refine B.r ?_
        refine S.r ?_
        refine S.r ?_
        replace hh := fin_x hR1 hh
        refine B.r ?_
        refine S.r ?_
        obtain rfl := Option.some.inj hh
        exact RetOk.mk' (rs := [.tmp 4]) [] rfl (.inl rfl) (RVs.tmp rfl RVs.nil) (List.sublist_append_left _ _) ⟨rfl, rfl, rfl⟩
      · replace hh := iteO_f h106 hh
        replace h106 := of_decide_eq_false h106
        refine TC.skip ?_
        refine B.n ?_
        refine S.n ?_
        refine TC.region ?_
        refine TL.v rfl (OpVal.moveI (.inl rfl) rfl) rfl rfl ?_
        refine TL.v rfl (OpVal.succ rfl rfl rfl (by omega)) rfl rfl ?_
        refine TL.v rfl (OpVal.moveI (.inr rfl) rfl) rfl rfl ?_
        refine TL.nil ?_
        refine S.n ?_
        obtain ⟨hh, hlt107⟩ := nxt_x hR1 hh
        refine ⟨by repeat (first | exact Agr.refl _ _ | exact Agr.mask | refine Agr.upd rfl ?_ | refine Agr.maskIn rfl ?_ | refine Agr.upds rfl ?_), ((k104 + 1), ()), hlt107, hh, by repeat (first | exact trivial | refine ⟨rfl, ?_⟩), Sub.pre 0 rfl, rfl⟩
    · replace hh := iteO_f h105 hh
      replace h105 := of_decide_eq_false h105
      refine TC.exit ?_
      refine S.x ?_
      refine S.x ?_
      replace hh := fin_x hR1 hh
      refine TC.exitHere ?_
      refine S.n ?_
      refine TC.seq ?_
      refine TC.region ?_
      refine TL.v rfl (OpVal.moveB (.inr rfl) rfl) rfl rfl ?_
      refine TL.nil ?_
      refine S.n ?_
      refine TC.ret ?_
      obtain rfl := Option.some.inj hh
      exact RetOk.mk' (rs := [.tmp 4]) [] rfl (.inl rfl) (RVs.tmp rfl RVs.nil) (List.sublist_append_left _ _) ⟨rfl, rfl, rfl⟩

noncomputable def whittleref15_SameTips_b1 (x0 : List Tip) (x1 : List Tip) (k104 : Nat) : Option ((Nat) ⊕ (Bool)) :=
  iteO (decide (((k104 : Nat) : Int) < ((x0.length : Nat) : Int))) (grd (k104 < x1.length) (iteO (decide (¬ ((nth x0 k104 Tip.zero) = (nth x1 k104 Tip.zero)))) (fin (some false)) (nxt (k104 + 1)))) (fin (some true))
noncomputable def whittleref15_SameTips (x0 : List Tip) (x1 : List Tip) : Option (Bool) :=
  iteO (decide (((x0.length : Nat) : Int) ≠ ((x1.length : Nat) : Int))) (some false) (iter (fun q : Nat => whittleref15_SameTips_b1 x0 x1 q) 0)
theorem whittleref15_SameTips_con {σ : Store} {x0 : List Tip} {a0_0 : Option Addr} {c0_0 : Nat} {x1 : List Tip} {a1_0 : Option Addr} {c1_0 : Nat} (f0_0 : RS σ 2 encTip (.slice a0_0 x0.length c0_0) x0) (f1_0 : RS σ 2 encTip (.slice a1_0 x1.length c1_0) x1) {r : Bool} (hh : whittleref15_SameTips x0 x1 = some r) :
    Con Try.prog 36 #[.slice a0_0 x0.length c0_0, .slice a1_0 x1.length c1_0] σ [] (PureP (.bool r) σ) := by
  dsimp only [whittleref15_SameTips] at hh
  have f0_0b := f0_0.rv.big
  have f1_0b := f1_0.rv.big
  refine Con.mk (n := 26) Try.func36 rfl rfl rfl (fun w0 => ?_)
  refine TC.seq ?_
  refine TC.region ?_
  refine TL.v rfl (OpVal.moveB (.inr rfl) rfl) rfl rfl ?_
  refine TL.nil ?_
  refine S.n ?_
  refine TC.seq ?_
  refine TC.seq ?_
  refine TC.region ?_
  refine TL.v rfl (OpVal.moveSl (.inl rfl) rfl) rfl rfl ?_
  refine TL.v rfl (OpVal.lenC rfl Try.underlying22 rfl) rfl rfl ?_
  refine TL.v rfl (OpVal.moveSl (.inl rfl) rfl) rfl rfl ?_
  refine TL.v rfl (OpVal.lenC rfl Try.underlying22 rfl) rfl rfl ?_
  refine TL.v rfl (OpVal.neq rfl rfl rfl) rfl rfl ?_
  refine TL.nil ?_
  refine S.n ?_
  refine TC.cond rfl (fun h101 => ?_) (fun h101 => ?_)
  · replace hh := iteO_t h101 hh
    replace h101 := of_decide_eq_true h101
    refine TC.seq ?_
    refine TC.region ?_
    refine TL.v rfl (OpVal.moveB (.inr rfl) rfl) rfl rfl ?_
    refine TL.nil ?_
    refine S.n ?_
    refine TC.ret ?_
    refine S.r ?_
    obtain rfl := Option.some.inj hh
    exact RetOk.mk' (rs := [.tmp 4]) [] rfl (.inl rfl) (RVs.tmp rfl RVs.nil) (List.sublist_append_left _ _) ⟨rfl, rfl, rfl⟩
  · replace hh := iteO_f h101 hh
    replace h101 := of_decide_eq_false h101
    refine TC.skip ?_
    refine S.n ?_
    refine TC.seq ?_
    refine TC.seq ?_
    refine TC.region ?_
    refine TL.v rfl (OpVal.moveI (.inr rfl) rfl) rfl rfl ?_
    refine TL.nil ?_
    refine S.n ?_
    refine TC.block ?_
    refine TC.loopG (α := (Nat) × (Unit)) [4, 5, 11, 12, 13, 14, 15, 16, 17, 18, 19, 20, 21, 22, 23, 24, 25] (fun g => [(5, .int .i64 ((g.1 : Nat) : Int))]) (fun g => []) (fun g => σ) (fun g => iter (fun q : Nat => whittleref15_SameTips_b1 x0 x1 q) g.1 = some r) (fun g => rounds (fun q : Nat => whittleref15_SameTips_b1 x0 x1 q) g.1) (0, ()) (Sub.pre 0 rfl) rfl (by repeat (first | exact trivial | refine ⟨rfl, ?_⟩)) hh (fun g1 j1 hg1 => ?_)
    obtain ⟨k104, _⟩ := g1
    have hh := hg1; clear hg1
    show TC _ _ _ (upds (mask _ j1 _) [(5, .int .i64 ((k104 : Nat) : Int))]) _ []
    obtain ⟨z1, hh, hR1⟩ := iter_e hh
    dsimp only [whittleref15_SameTips_b1] at hh
    refine TC.seq ?_
    refine TC.seq ?_
    refine TC.region ?_
    refine TL.v rfl (OpVal.moveI (.inl rfl) rfl) rfl rfl ?_
    refine TL.v rfl (OpVal.moveSl (.inl rfl) rfl) rfl rfl ?_
    refine TL.v rfl (OpVal.lenC rfl Try.underlying22 rfl) rfl rfl ?_
    refine TL.v rfl (OpVal.lss rfl rfl rfl) rfl rfl ?_
    refine TL.nil ?_
    refine S.n ?_
    refine TC.cond rfl (fun h105 => ?_) (fun h105 => ?_)
    · replace hh := iteO_t h105 hh
      replace h105 := of_decide_eq_true h105
      refine TC.skip ?_
      refine S.n ?_
      refine TC.seq ?_
      refine TC.block ?_
      refine TC.seq ?_
      have u19 := grd_c hh
      replace hh := grd_t hh
      refine TC.draw [] (by kernel_rfl) ?_
      refine TA.takeP 0 rfl (by kernel_rfl) (by kernel_rfl) (by kernel_rfl) rfl (OpVal.moveSl (.inl rfl) rfl) rfl rfl ?_
      refine TA.takeP 1 rfl (by kernel_rfl) (by kernel_rfl) (by kernel_rfl) rfl (OpVal.moveI (.inl rfl) rfl) rfl rfl ?_
      refine TA.take 2 rfl (by kernel_rfl) (by kernel_rfl) (by kernel_rfl) (by kernel_rfl) rfl (OpVal.indexN rfl Try.underlying22 sz57 rfl rfl f0_0.rv.sl (by omega)) rfl rfl ?_
      refine TA.take 3 rfl (by kernel_rfl) (by kernel_rfl) (by kernel_rfl) (by kernel_rfl) rfl (OpVal.loadSA Tip.zero rfl ag57 sz57 rfl f0_0 (by omega) (by omega)) rfl rfl ?_
      refine TA.takeP 4 rfl (by kernel_rfl) (by kernel_rfl) (by kernel_rfl) rfl (OpVal.moveSl (.inl rfl) rfl) rfl rfl ?_
      refine TA.takeP 5 rfl (by kernel_rfl) (by kernel_rfl) (by kernel_rfl) rfl (OpVal.moveI (.inl rfl) rfl) rfl rfl ?_
      refine TA.take 6 rfl (by kernel_rfl) (by kernel_rfl) (by kernel_rfl) (by kernel_rfl) rfl (OpVal.indexN rfl Try.underlying22 sz57 rfl rfl f1_0.rv.sl (by omega)) rfl rfl ?_
      refine TA.take 7 rfl (by kernel_rfl) (by kernel_rfl) (by kernel_rfl) (by kernel_rfl) rfl (OpVal.loadSA Tip.zero rfl ag57 sz57 rfl f1_0 (by omega) (by omega)) rfl rfl ?_
      refine TA.takeP 8 rfl (by kernel_rfl) (by kernel_rfl) (by kernel_rfl) rfl (OpVal.neqSt (p := (nth x0 k104 Tip.zero) = (nth x1 k104 Tip.zero)) rfl rfl rfl eg57 (es57 (nth x0 k104 Tip.zero) (nth x1 k104 Tip.zero)) rfl) rfl rfl ?_
      refine TA.done (by kernel_rfl) ?_
      refine S.n ?_
      refine TC.cond rfl (fun h106 => ?_) (fun h106 => ?_)
      · replace hh := iteO_t h106 hh
        replace h106 := of_decide_eq_true h106
        refine TC.seq ?_
        refine TC.region ?_
        refine TL.v rfl (OpVal.moveB (.inr rfl) rfl) rfl rfl ?_
        refine TL.nil ?_
        refine S.n ?_
        refine TC.ret ?_
        refine B.r ?_
        refine S.r ?_
        refine S.r ?_
        replace hh := fin_x hR1 hh
        refine B.r ?_
        refine S.r ?_
        obtain rfl := Option.some.inj hh
        exact RetOk.mk' (rs := [.tmp 4]) [] rfl (.inl rfl) (RVs.tmp rfl RVs.nil) (List.sublist_append_left _ _) ⟨rfl, rfl, rfl⟩
      · replace hh := iteO_f h106 hh
        replace h106 := of_decide_eq_false h106
        refine TC.skip ?_
        refine B.n ?_
        refine S.n ?_
        refine TC.region ?_
        refine TL.v rfl (OpVal.moveI (.inl rfl) rfl) rfl rfl ?_
        refine TL.v rfl (OpVal.succ rfl rfl rfl (by omega)) rfl rfl ?_
        refine TL.v rfl (OpVal.moveI (.inr rfl) rfl) rfl rfl ?_
        refine TL.nil ?_
        refine S.n ?_
        obtain ⟨hh, hlt107⟩ := nxt_x hR1 hh
        refine ⟨by repeat (first | exact Agr.refl _ _ | exact Agr.mask | refine Agr.upd rfl ?_ | refine Agr.maskIn rfl ?_ | refine Agr.upds rfl ?_), ((k104 + 1), ()), hlt107, hh, by repeat (first | exact trivial | refine ⟨rfl, ?_⟩), Sub.pre 0 rfl, rfl⟩
    · replace hh := iteO_f h105 hh
      replace h105 := of_decide_eq_false h105
      refine TC.exit ?_
      refine S.x ?_
      refine S.x ?_
      replace hh := fin_x hR1 hh
      refine TC.exitHere ?_
      refine S.n ?_
      refine TC.seq ?_
      refine TC.region ?_
      refine TL.v rfl (OpVal.moveB (.inr rfl) rfl) rfl rfl ?_
      refine TL.nil ?_
      refine S.n ?_
      refine TC.ret ?_
      obtain rfl := Option.some.inj hh
      exact RetOk.mk' (rs := [.tmp 4]) [] rfl (.inl rfl) (RVs.tmp rfl RVs.nil) (List.sublist_append_left _ _) ⟨rfl, rfl, rfl⟩

noncomputable def whittleref15_Same_b1 (x0 : Fst) (x1 : Fst) (k111 : Nat) : Option ((Nat) ⊕ (Bool)) :=
  iteO (decide (((k111 : Nat) : Int) < ((x0.arcs.length : Nat) : Int))) (grd (k111 < x1.arcs.length) (iteO (decide (¬ ((nth x0.arcs k111 Arc.zero) = (nth x1.arcs k111 Arc.zero)))) (fin (some false)) (nxt (k111 + 1)))) (fin (some true))
noncomputable def whittleref15_Same (x0 : Fst) (x1 : Fst) : Option (Bool) :=
  iteO (decide (x0.states ≠ x1.states)) (some false) (bnd (whittleref15_SameTips x0.starts x1.starts) (fun v14 => iteO (!v14) (some false) (bnd (whittleref15_SameTips x0.ends x1.ends) (fun v22 => iteO (!v22) (some false) (iteO (decide (((x0.arcs.length : Nat) : Int) ≠ ((x1.arcs.length : Nat) : Int))) (some false) (iter (fun q : Nat => whittleref15_Same_b1 x0 x1 q) 0))))))
theorem whittleref15_Same_con {σ : Store} {x0 : Fst} {a0_0 : Option Addr} {c0_0 : Nat} {a0_1 : Option Addr} {c0_1 : Nat} {a0_2 : Option Addr} {c0_2 : Nat} {x1 : Fst} {a1_0 : Option Addr} {c1_0 : Nat} {a1_1 : Option Addr} {c1_1 : Nat} {a1_2 : Option Addr} {c1_2 : Nat} (f0_0 : RS σ 2 encTip (.slice a0_0 x0.starts.length c0_0) x0.starts) (f0_1 : RS σ 2 encTip (.slice a0_1 x0.ends.length c0_1) x0.ends) (f0_2 : RS σ 8 encArc (.slice a0_2 x0.arcs.length c0_2) x0.arcs) (f1_0 : RS σ 2 encTip (.slice a1_0 x1.starts.length c1_0) x1.starts) (f1_1 : RS σ 2 encTip (.slice a1_1 x1.ends.length c1_1) x1.ends) (f1_2 : RS σ 8 encArc (.slice a1_2 x1.arcs.length c1_2) x1.arcs) {r : Bool} (hh : whittleref15_Same x0 x1 = some r) :
    Con Try.prog 17 #[.agg #[.int .i64 x0.states, .slice a0_0 x0.starts.length c0_0, .slice a0_1 x0.ends.length c0_1, .slice a0_2 x0.arcs.length c0_2], .agg #[.int .i64 x1.states, .slice a1_0 x1.starts.length c1_0, .slice a1_1 x1.ends.length c1_1, .slice a1_2 x1.arcs.length c1_2]] σ [] (PureP (.bool r) σ) := by
  dsimp only [whittleref15_Same] at hh
  have f0_0b := f0_0.rv.big
  have f0_1b := f0_1.rv.big
  have f0_2b := f0_2.rv.big
  have f1_0b := f1_0.rv.big
  have f1_1b := f1_1.rv.big
  have f1_2b := f1_2.rv.big
  refine Con.mk (n := 54) Try.func17 rfl rfl rfl (fun w0 => ?_)
  refine TC.seq ?_
  refine TC.region ?_
  refine TL.op rfl (OpOk.boxA rfl rfl rfl rfl (fun b101 => ?_))
  refine TL.op rfl (OpOk.boxA rfl rfl rfl rfl (fun b103 => ?_))
  refine TL.v rfl (OpVal.moveB (.inr rfl) rfl) rfl rfl ?_
  refine TL.nil ?_
  refine S.n ?_
  refine TC.seq ?_
  refine TC.seq ?_
  refine TC.region ?_
  refine TL.v rfl (OpVal.fieldLoc rfl fo25_0 rfl) rfl rfl ?_
  refine TL.v rfl (OpVal.loadLoc rfl ag3 rfl (i := 1) rfl rfl) rfl rfl ?_
  refine TL.v rfl (OpVal.fieldLoc rfl fo25_0 rfl) rfl rfl ?_
  refine TL.v rfl (OpVal.loadLoc rfl ag3 rfl (i := 0) rfl rfl) rfl rfl ?_
  refine TL.v rfl (OpVal.neq rfl rfl rfl) rfl rfl ?_
  refine TL.v rfl (OpVal.moveB (.inl rfl) rfl) rfl rfl ?_
  refine TL.split 11 rfl (fun h105 => ?_) (fun h105 => ?_)
  · replace hh := iteO_t h105 hh
    replace h105 := of_decide_eq_true h105
    refine TL.goff rfl rfl rfl rfl rfl rfl rfl rfl ?_
    refine TL.goff rfl rfl rfl rfl rfl rfl rfl rfl ?_
    refine TL.goff rfl rfl rfl rfl rfl rfl rfl rfl ?_
    refine TL.goff rfl rfl rfl rfl rfl rfl rfl rfl ?_
    refine TL.goff rfl rfl rfl rfl rfl rfl rfl rfl ?_
    refine TL.goff rfl rfl rfl rfl rfl rfl rfl rfl ?_
    refine TL.v rfl (OpVal.pickTB rfl rfl rfl) rfl rfl ?_
    refine TL.v rfl (OpVal.moveB (.inl rfl) rfl) rfl rfl ?_
    refine TL.goff rfl rfl rfl rfl rfl rfl rfl rfl ?_
    refine TL.goff rfl rfl rfl rfl rfl rfl rfl rfl ?_
    refine TL.goff rfl rfl rfl rfl rfl rfl rfl rfl ?_
    refine TL.goff rfl rfl rfl rfl rfl rfl rfl rfl ?_
    refine TL.goff rfl rfl rfl rfl rfl rfl rfl rfl ?_
    refine TL.goff rfl rfl rfl rfl rfl rfl rfl rfl ?_
    refine TL.v rfl (OpVal.pickTB rfl rfl rfl) rfl rfl ?_
    refine TL.v rfl (OpVal.moveB (.inl rfl) rfl) rfl rfl ?_
    refine TL.goff rfl rfl rfl rfl rfl rfl rfl rfl ?_
    refine TL.goff rfl rfl rfl rfl rfl rfl rfl rfl ?_
    refine TL.goff rfl rfl rfl rfl rfl rfl rfl rfl ?_
    refine TL.goff rfl rfl rfl rfl rfl rfl rfl rfl ?_
    refine TL.goff rfl rfl rfl rfl rfl rfl rfl rfl ?_
    refine TL.goff rfl rfl rfl rfl rfl rfl rfl rfl ?_
    refine TL.goff rfl rfl rfl rfl rfl rfl rfl rfl ?_
    refine TL.v rfl (OpVal.pickTB rfl rfl rfl) rfl rfl ?_
    refine TL.nil ?_
    refine S.n ?_
    refine TC.cond rfl (fun _ => ?_) (fun h => Bool.noConfusion h)
    refine TC.seq ?_
    refine TC.region ?_
    refine TL.v rfl (OpVal.moveB (.inr rfl) rfl) rfl rfl ?_
    refine TL.nil ?_
    refine S.n ?_
    refine TC.ofSub (Sub.pre 0 rfl) ?_
    refine TC.ret ?_
    refine S.r ?_
    obtain rfl := Option.some.inj hh
    exact RetOk.mk' (rs := [.tmp 4]) [] rfl (.inl rfl) (RVs.tmp rfl RVs.nil) (List.sublist_append_left _ _) ⟨rfl, rfl, rfl⟩
  · replace hh := iteO_f h105 hh
    replace h105 := of_decide_eq_false h105
    refine TL.gv rfl rfl rfl rfl rfl (OpVal.fieldLoc rfl fo25_1 rfl) rfl rfl ?_
    refine TL.gv rfl rfl rfl rfl rfl (OpVal.loadLoc rfl ag22 rfl (i := 1) rfl rfl) rfl rfl ?_
    refine TL.gv rfl rfl rfl rfl rfl (OpVal.fieldLoc rfl fo25_1 rfl) rfl rfl ?_
    refine TL.gv rfl rfl rfl rfl rfl (OpVal.loadLoc rfl ag22 rfl (i := 0) rfl rfl) rfl rfl ?_
    obtain ⟨v14, u14, hh⟩ := bnd_e hh
    refine TL.gon rfl rfl rfl rfl rfl (OpOk.callP (whittleref15_SameTips_con f0_0 f1_0 u14) rfl rfl pf36 rfl rfl rfl ?_)
    refine TL.gv rfl rfl rfl rfl rfl (OpVal.not rfl rfl) rfl rfl ?_
    refine TL.v rfl (OpVal.pickFB rfl rfl rfl) rfl rfl ?_
    refine TL.v rfl (OpVal.moveB (.inl rfl) rfl) rfl rfl ?_
    refine TL.split 19 rfl (fun h106 => ?_) (fun h106 => ?_)
    · replace hh := iteO_t h106 hh
      refine TL.goff rfl rfl rfl rfl rfl rfl rfl rfl ?_
      refine TL.goff rfl rfl rfl rfl rfl rfl rfl rfl ?_
      refine TL.goff rfl rfl rfl rfl rfl rfl rfl rfl ?_
      refine TL.goff rfl rfl rfl rfl rfl rfl rfl rfl ?_
      refine TL.goff rfl rfl rfl rfl rfl rfl rfl rfl ?_
      refine TL.goff rfl rfl rfl rfl rfl rfl rfl rfl ?_
      refine TL.v rfl (OpVal.pickTB rfl rfl rfl) rfl rfl ?_
      refine TL.v rfl (OpVal.moveB (.inl rfl) rfl) rfl rfl ?_
      refine TL.goff rfl rfl rfl rfl rfl rfl rfl rfl ?_
      refine TL.goff rfl rfl rfl rfl rfl rfl rfl rfl ?_
      refine TL.goff rfl rfl rfl rfl rfl rfl rfl rfl ?_
      refine TL.goff rfl rfl rfl rfl rfl rfl rfl rfl ?_
      refine TL.goff rfl rfl rfl rfl rfl rfl rfl rfl ?_
      refine TL.goff rfl rfl rfl rfl rfl rfl rfl rfl ?_
      refine TL.goff rfl rfl rfl rfl rfl rfl rfl rfl ?_
      refine TL.v rfl (OpVal.pickTB rfl rfl rfl) rfl rfl ?_
      refine TL.nil ?_
      refine S.n ?_
      refine TC.cond rfl (fun _ => ?_) (fun h => Bool.noConfusion h)
      refine TC.seq ?_
      refine TC.region ?_
      refine TL.v rfl (OpVal.moveB (.inr rfl) rfl) rfl rfl ?_
      refine TL.nil ?_
      refine S.n ?_
      refine TC.ofSub (Sub.pre 0 rfl) ?_
      refine TC.ret ?_
      refine S.r ?_
      obtain rfl := Option.some.inj hh
      exact RetOk.mk' (rs := [.tmp 4]) [] rfl (.inl rfl) (RVs.tmp rfl RVs.nil) (List.sublist_append_left _ _) ⟨rfl, rfl, rfl⟩
    · replace hh := iteO_f h106 hh
      refine TL.gv rfl rfl rfl rfl rfl (OpVal.fieldLoc rfl fo25_2 rfl) rfl rfl ?_
      refine TL.gv rfl rfl rfl rfl rfl (OpVal.loadLoc rfl ag22 rfl (i := 1) rfl rfl) rfl rfl ?_
      refine TL.gv rfl rfl rfl rfl rfl (OpVal.fieldLoc rfl fo25_2 rfl) rfl rfl ?_
      refine TL.gv rfl rfl rfl rfl rfl (OpVal.loadLoc rfl ag22 rfl (i := 0) rfl rfl) rfl rfl ?_
      obtain ⟨v22, u22, hh⟩ := bnd_e hh
      refine TL.gon rfl rfl rfl rfl rfl (OpOk.callP (whittleref15_SameTips_con f0_1 f1_1 u22) rfl rfl pf36 rfl rfl rfl ?_)
      refine TL.gv rfl rfl rfl rfl rfl (OpVal.not rfl rfl) rfl rfl ?_
      refine TL.v rfl (OpVal.pickFB rfl rfl rfl) rfl rfl ?_
      refine TL.v rfl (OpVal.moveB (.inl rfl) rfl) rfl rfl ?_
      refine TL.split 27 rfl (fun h107 => ?_) (fun h107 => ?_)
      · replace hh := iteO_t h107 hh
        refine TL.goff rfl rfl rfl rfl rfl rfl rfl rfl ?_
        refine TL.goff rfl rfl rfl rfl rfl rfl rfl rfl ?_
        refine TL.goff rfl rfl rfl rfl rfl rfl rfl rfl ?_
        refine TL.goff rfl rfl rfl rfl rfl rfl rfl rfl ?_
        refine TL.goff rfl rfl rfl rfl rfl rfl rfl rfl ?_
        refine TL.goff rfl rfl rfl rfl rfl rfl rfl rfl ?_
        refine TL.goff rfl rfl rfl rfl rfl rfl rfl rfl ?_
        refine TL.v rfl (OpVal.pickTB rfl rfl rfl) rfl rfl ?_
        refine TL.nil ?_
        refine S.n ?_
        refine TC.cond rfl (fun _ => ?_) (fun h => Bool.noConfusion h)
        refine TC.seq ?_
        refine TC.region ?_
        refine TL.v rfl (OpVal.moveB (.inr rfl) rfl) rfl rfl ?_
        refine TL.nil ?_
        refine S.n ?_
        refine TC.ofSub (Sub.pre 0 rfl) ?_
        refine TC.ret ?_
        refine S.r ?_
        obtain rfl := Option.some.inj hh
        exact RetOk.mk' (rs := [.tmp 4]) [] rfl (.inl rfl) (RVs.tmp rfl RVs.nil) (List.sublist_append_left _ _) ⟨rfl, rfl, rfl⟩
      · replace hh := iteO_f h107 hh
        refine TL.gv rfl rfl rfl rfl rfl (OpVal.fieldLoc rfl fo25_3 rfl) rfl rfl ?_
        refine TL.gv rfl rfl rfl rfl rfl (OpVal.loadLoc rfl ag23 rfl (i := 1) rfl rfl) rfl rfl ?_
        refine TL.gv rfl rfl rfl rfl rfl (OpVal.lenC rfl Try.underlying23 rfl) rfl rfl ?_
        refine TL.gv rfl rfl rfl rfl rfl (OpVal.fieldLoc rfl fo25_3 rfl) rfl rfl ?_
        refine TL.gv rfl rfl rfl rfl rfl (OpVal.loadLoc rfl ag23 rfl (i := 0) rfl rfl) rfl rfl ?_
        refine TL.gv rfl rfl rfl rfl rfl (OpVal.lenC rfl Try.underlying23 rfl) rfl rfl ?_
        refine TL.gv rfl rfl rfl rfl rfl (OpVal.neq rfl rfl rfl) rfl rfl ?_
        refine TL.v rfl (OpVal.pickFB rfl rfl rfl) rfl rfl ?_
        refine TL.nil ?_
        refine S.n ?_
        refine TC.cond rfl (fun h108 => ?_) (fun h108 => ?_)
        · replace hh := iteO_t h108 hh
          replace h108 := of_decide_eq_true h108
          refine TC.seq ?_
          refine TC.region ?_
          refine TL.v rfl (OpVal.moveB (.inr rfl) rfl) rfl rfl ?_
          refine TL.nil ?_
          refine S.n ?_
          refine TC.ofSub (Sub.pre 0 rfl) ?_
          refine TC.ret ?_
          refine S.r ?_
          obtain rfl := Option.some.inj hh
          exact RetOk.mk' (rs := [.tmp 4]) [] rfl (.inl rfl) (RVs.tmp rfl RVs.nil) (List.sublist_append_left _ _) ⟨rfl, rfl, rfl⟩
        · replace hh := iteO_f h108 hh
          replace h108 := of_decide_eq_false h108
          refine TC.skip ?_
          refine S.n ?_
          refine TC.seq ?_
          refine TC.seq ?_
          refine TC.region ?_
          refine TL.v rfl (OpVal.moveI (.inr rfl) rfl) rfl rfl ?_
          refine TL.nil ?_
          refine S.n ?_
          refine TC.block ?_
          refine TC.loopG (α := (Nat) × (Unit)) [4, 5, 36, 37, 38, 39, 40, 41, 42, 43, 44, 45, 46, 47, 48, 49, 50, 51, 52, 53] (fun g => [(5, .int .i64 ((g.1 : Nat) : Int))]) (fun g => [Res.cells b101 #[.int .i64 x0.states, .slice a0_0 x0.starts.length c0_0, .slice a0_1 x0.ends.length c0_1, .slice a0_2 x0.arcs.length c0_2] 25, Res.cells b103 #[.int .i64 x1.states, .slice a1_0 x1.starts.length c1_0, .slice a1_1 x1.ends.length c1_1, .slice a1_2 x1.arcs.length c1_2] 25]) (fun g => σ) (fun g => iter (fun q : Nat => whittleref15_Same_b1 x0 x1 q) g.1 = some r) (fun g => rounds (fun q : Nat => whittleref15_Same_b1 x0 x1 q) g.1) (0, ()) (Sub.front 1 rfl rfl (Sub.pre 2 rfl)) rfl (by repeat (first | exact trivial | refine ⟨rfl, ?_⟩)) hh (fun g1 j1 hg1 => ?_)
          obtain ⟨k111, _⟩ := g1
          have hh := hg1; clear hg1
          show TC _ _ _ (upds (mask _ j1 _) [(5, .int .i64 ((k111 : Nat) : Int))]) _ [Res.cells b101 #[.int .i64 x0.states, .slice a0_0 x0.starts.length c0_0, .slice a0_1 x0.ends.length c0_1, .slice a0_2 x0.arcs.length c0_2] 25, Res.cells b103 #[.int .i64 x1.states, .slice a1_0 x1.starts.length c1_0, .slice a1_1 x1.ends.length c1_1, .slice a1_2 x1.arcs.length c1_2] 25]
          obtain ⟨z1, hh, hR1⟩ := iter_e hh
          dsimp only [whittleref15_Same_b1] at hh
          refine TC.seq ?_
          refine TC.seq ?_
          refine TC.region ?_
          refine TL.v rfl (OpVal.moveI (.inl rfl) rfl) rfl rfl ?_
          refine TL.v rfl (OpVal.fieldLoc rfl fo25_3 rfl) rfl rfl ?_
          refine TL.v rfl (OpVal.loadLoc rfl ag23 rfl (i := 0) rfl rfl) rfl rfl ?_
          refine TL.v rfl (OpVal.lenC rfl Try.underlying23 rfl) rfl rfl ?_
          refine TL.v rfl (OpVal.lss rfl rfl rfl) rfl rfl ?_
          refine TL.nil ?_
          refine S.n ?_
          refine TC.cond rfl (fun h112 => ?_) (fun h112 => ?_)
          · replace hh := iteO_t h112 hh
            replace h112 := of_decide_eq_true h112
            refine TC.skip ?_
            refine S.n ?_
            refine TC.seq ?_
            refine TC.block ?_
            refine TC.seq ?_
            have u49 := grd_c hh
            replace hh := grd_t hh
            refine TC.draw [] (by kernel_rfl) ?_
            refine TA.takeP 0 rfl (by kernel_rfl) (by kernel_rfl) (by kernel_rfl) rfl (OpVal.fieldLoc rfl fo25_3 rfl) rfl rfl ?_
            refine TA.take 1 rfl (by kernel_rfl) (by kernel_rfl) (by kernel_rfl) (by kernel_rfl) rfl (OpVal.loadLoc rfl ag23 rfl (i := 0) rfl rfl) rfl rfl ?_
            refine TA.takeP 2 rfl (by kernel_rfl) (by kernel_rfl) (by kernel_rfl) rfl (OpVal.moveI (.inl rfl) rfl) rfl rfl ?_
            refine TA.take 3 rfl (by kernel_rfl) (by kernel_rfl) (by kernel_rfl) (by kernel_rfl) rfl (OpVal.indexN rfl Try.underlying23 sz41 rfl rfl f0_2.rv.sl (by omega)) rfl rfl ?_
            refine TA.take 4 rfl (by kernel_rfl) (by kernel_rfl) (by kernel_rfl) (by kernel_rfl) rfl (OpVal.loadSA Arc.zero rfl ag41 sz41 rfl f0_2 (by omega) (by omega)) rfl rfl ?_
            refine TA.takeP 5 rfl (by kernel_rfl) (by kernel_rfl) (by kernel_rfl) rfl (OpVal.fieldLoc rfl fo25_3 rfl) rfl rfl ?_
            refine TA.take 6 rfl (by kernel_rfl) (by kernel_rfl) (by kernel_rfl) (by kernel_rfl) rfl (OpVal.loadLoc rfl ag23 rfl (i := 1) rfl rfl) rfl rfl ?_
            refine TA.takeP 7 rfl (by kernel_rfl) (by kernel_rfl) (by kernel_rfl) rfl (OpVal.moveI (.inl rfl) rfl) rfl rfl ?_
            refine TA.take 8 rfl (by kernel_rfl) (by kernel_rfl) (by kernel_rfl) (by kernel_rfl) rfl (OpVal.indexN rfl Try.underlying23 sz41 rfl rfl f1_2.rv.sl (by omega)) rfl rfl ?_
            refine TA.take 9 rfl (by kernel_rfl) (by kernel_rfl) (by kernel_rfl) (by kernel_rfl) rfl (OpVal.loadSA Arc.zero rfl ag41 sz41 rfl f1_2 (by omega) (by omega)) rfl rfl ?_
            refine TA.takeP 10 rfl (by kernel_rfl) (by kernel_rfl) (by kernel_rfl) rfl (OpVal.neqSt (p := (nth x0.arcs k111 Arc.zero) = (nth x1.arcs k111 Arc.zero)) rfl rfl rfl eg41 (es41 (nth x0.arcs k111 Arc.zero) (nth x1.arcs k111 Arc.zero)) rfl) rfl rfl ?_
            refine TA.done (by kernel_rfl) ?_
            refine S.n ?_
            refine TC.cond rfl (fun h113 => ?_) (fun h113 => ?_)
            · replace hh := iteO_t h113 hh
              replace h113 := of_decide_eq_true h113
              refine TC.seq ?_
              refine TC.region ?_
              refine TL.v rfl (OpVal.moveB (.inr rfl) rfl) rfl rfl ?_
              refine TL.nil ?_
              refine S.n ?_
              refine TC.ofSub (Sub.pre 0 rfl) ?_
              refine TC.ret ?_
              refine B.r ?_
              refine S.r ?_
              refine S.r ?_
              replace hh := fin_x hR1 hh
              refine B.r ?_
              refine S.r ?_
              obtain rfl := Option.some.inj hh
              exact RetOk.mk' (rs := [.tmp 4]) [] rfl (.inl rfl) (RVs.tmp rfl RVs.nil) (List.sublist_append_left _ _) ⟨rfl, rfl, rfl⟩
            · replace hh := iteO_f h113 hh
              replace h113 := of_decide_eq_false h113
              refine TC.skip ?_
              refine B.n ?_
              refine S.n ?_
              refine TC.region ?_
              refine TL.v rfl (OpVal.moveI (.inl rfl) rfl) rfl rfl ?_
              refine TL.v rfl (OpVal.succ rfl rfl rfl (by omega)) rfl rfl ?_
              refine TL.v rfl (OpVal.moveI (.inr rfl) rfl) rfl rfl ?_
              refine TL.nil ?_
              refine S.n ?_
              obtain ⟨hh, hlt114⟩ := nxt_x hR1 hh
              refine ⟨by repeat (first | exact Agr.refl _ _ | exact Agr.mask | refine Agr.upd rfl ?_ | refine Agr.maskIn rfl ?_ | refine Agr.upds rfl ?_), ((k111 + 1), ()), hlt114, hh, by repeat (first | exact trivial | refine ⟨rfl, ?_⟩), Sub.front 1 rfl rfl (Sub.front 1 rfl rfl (Sub.pre 2 rfl)), rfl⟩
          · replace hh := iteO_f h112 hh
            replace h112 := of_decide_eq_false h112
            refine TC.exit ?_
            refine S.x ?_
            refine S.x ?_
            replace hh := fin_x hR1 hh
            refine TC.exitHere ?_
            refine S.n ?_
            refine TC.seq ?_
            refine TC.region ?_
            refine TL.v rfl (OpVal.moveB (.inr rfl) rfl) rfl rfl ?_
            refine TL.nil ?_
            refine S.n ?_
            refine TC.ofSub (Sub.pre 0 rfl) ?_
            refine TC.ret ?_
            obtain rfl := Option.some.inj hh
            exact RetOk.mk' (rs := [.tmp 4]) [] rfl (.inl rfl) (RVs.tmp rfl RVs.nil) (List.sublist_append_left _ _) ⟨rfl, rfl, rfl⟩

noncomputable def whittleref15_Few_j3 (x0 : Fst) (i123 : Int) : Option (Bool) :=
  iteO (decide (i123 ≤ 60)) (iteO (decide (x0.states ≤ 20)) (some true) (some (decide (1024 < x0.states)))) (some false)
noncomputable def whittleref15_Few_b3 (x0 : Fst) (i128 : Int) (k129 : Nat) : Option ((Int × Nat) ⊕ (Bool)) :=
  iteO (decide (((k129 : Nat) : Int) < ((x0.arcs.length : Nat) : Int))) (iteO (decide (i128 ≤ 60)) (nxt ((IntKind.i64.wrap (i128 + (IntKind.i64.wrap (Int.tdiv ((((nth x0.arcs k129 Arc.zero).out).length : Nat) : Int) 40)))), (k129 + 1))) (fin (whittleref15_Few_j3 x0 i128))) (fin (whittleref15_Few_j3 x0 i128))
noncomputable def whittleref15_Few_j2 (x0 : Fst) (i113 : Int) : Option (Bool) :=
  iter (fun q : Int × Nat => whittleref15_Few_b3 x0 q.1 q.2) (i113, 0)
noncomputable def whittleref15_Few_b2 (x0 : Fst) (i118 : Int) (k119 : Nat) : Option ((Int × Nat) ⊕ (Bool)) :=
  iteO (decide (((k119 : Nat) : Int) < ((x0.ends.length : Nat) : Int))) (iteO (decide (i118 ≤ 60)) (nxt ((IntKind.i64.wrap (i118 + (IntKind.i64.wrap (Int.tdiv ((((nth x0.ends k119 Tip.zero).out).length : Nat) : Int) 40)))), (k119 + 1))) (fin (whittleref15_Few_j2 x0 i118))) (fin (whittleref15_Few_j2 x0 i118))
noncomputable def whittleref15_Few_j1 (x0 : Fst) (i103 : Int) : Option (Bool) :=
  iter (fun q : Int × Nat => whittleref15_Few_b2 x0 q.1 q.2) (i103, 0)
noncomputable def whittleref15_Few_b1 (x0 : Fst) (i108 : Int) (k109 : Nat) : Option ((Int × Nat) ⊕ (Bool)) :=
  iteO (decide (((k109 : Nat) : Int) < ((x0.starts.length : Nat) : Int))) (iteO (decide (i108 ≤ 60)) (nxt ((IntKind.i64.wrap (i108 + (IntKind.i64.wrap (Int.tdiv ((((nth x0.starts k109 Tip.zero).out).length : Nat) : Int) 40)))), (k109 + 1))) (fin (whittleref15_Few_j1 x0 i108))) (fin (whittleref15_Few_j1 x0 i108))
noncomputable def whittleref15_Few (x0 : Fst) : Option (Bool) :=
  iter (fun q : Int × Nat => whittleref15_Few_b1 x0 q.1 q.2) ((IntKind.i64.wrap ((IntKind.i64.wrap (((x0.starts.length : Nat) : Int) + ((x0.ends.length : Nat) : Int))) + ((x0.arcs.length : Nat) : Int))), 0)
theorem whittleref15_Few_con {σ : Store} {x0 : Fst} {a0_0 : Option Addr} {c0_0 : Nat} {a0_1 : Option Addr} {c0_1 : Nat} {a0_2 : Option Addr} {c0_2 : Nat} (f0_0 : RS σ 2 encTip (.slice a0_0 x0.starts.length c0_0) x0.starts) (f0_1 : RS σ 2 encTip (.slice a0_1 x0.ends.length c0_1) x0.ends) (f0_2 : RS σ 8 encArc (.slice a0_2 x0.arcs.length c0_2) x0.arcs) {r : Bool} (hh : whittleref15_Few x0 = some r) :
    Con Try.prog 7 #[.agg #[.int .i64 x0.states, .slice a0_0 x0.starts.length c0_0, .slice a0_1 x0.ends.length c0_1, .slice a0_2 x0.arcs.length c0_2]] σ [] (PureP (.bool r) σ) := by
  dsimp only [whittleref15_Few] at hh
  have f0_0b := f0_0.rv.big
  have f0_1b := f0_1.rv.big
  have f0_2b := f0_2.rv.big
  refine Con.mk (n := 93) Try.func7 rfl rfl rfl (fun w0 => ?_)
  refine TC.seq ?_
  refine TC.region ?_
  refine TL.op rfl (OpOk.boxA rfl rfl rfl rfl (fun b101 => ?_))
  refine TL.v rfl (OpVal.moveB (.inr rfl) rfl) rfl rfl ?_
  refine TL.nil ?_
  refine S.n ?_
  refine TC.seq ?_
  refine TC.region ?_
  refine TL.v rfl (OpVal.fieldLoc rfl fo25_1 rfl) rfl rfl ?_
  refine TL.v rfl (OpVal.loadLoc rfl ag22 rfl (i := 0) rfl rfl) rfl rfl ?_
  refine TL.v rfl (OpVal.lenC rfl Try.underlying22 rfl) rfl rfl ?_
  refine TL.v rfl (OpVal.fieldLoc rfl fo25_2 rfl) rfl rfl ?_
  refine TL.v rfl (OpVal.loadLoc rfl ag22 rfl (i := 0) rfl rfl) rfl rfl ?_
  refine TL.v rfl (OpVal.lenC rfl Try.underlying22 rfl) rfl rfl ?_
  refine TL.v rfl (OpVal.addW rfl rfl rfl) rfl rfl ?_
  refine TL.v rfl (OpVal.fieldLoc rfl fo25_3 rfl) rfl rfl ?_
  refine TL.v rfl (OpVal.loadLoc rfl ag23 rfl (i := 0) rfl rfl) rfl rfl ?_
  refine TL.v rfl (OpVal.lenC rfl Try.underlying23 rfl) rfl rfl ?_
  refine TL.v rfl (OpVal.addW rfl rfl rfl) rfl rfl ?_
  refine TL.v rfl (OpVal.moveI (.inr rfl) rfl) rfl rfl ?_
  refine TL.nil ?_
  refine S.n ?_
  refine TC.cutG (α := (Int) × (Unit)) [3, 4, 18, 19, 20, 21, 22, 23, 24, 25, 26, 27, 28, 29, 30, 31, 32, 33, 34, 35, 36, 37, 38] (fun g => [(3, .int .i64 g.1)]) (fun g => [Res.cells b101 #[.int .i64 x0.states, .slice a0_0 x0.starts.length c0_0, .slice a0_1 x0.ends.length c0_1, .slice a0_2 x0.arcs.length c0_2] 25]) (fun g => σ) (fun g => whittleref15_Few_j1 x0 g.1 = some r) ?_ (fun g j hg => ?_)
  · skip
    refine TC.seq ?_
    refine TC.region ?_
    refine TL.v rfl (OpVal.moveI (.inr rfl) rfl) rfl rfl ?_
    refine TL.nil ?_
    refine S.n ?_
    refine TC.block ?_
    refine TC.loopG (α := (Int × Nat) × (Unit)) [3, 4, 18, 19, 20, 21, 22, 23, 24, 25, 26, 27, 28, 29, 30, 31, 32, 33, 34, 35, 36, 37, 38] (fun g => [(3, .int .i64 g.1.1), (4, .int .i64 ((g.1.2 : Nat) : Int))]) (fun g => [Res.cells b101 #[.int .i64 x0.states, .slice a0_0 x0.starts.length c0_0, .slice a0_1 x0.ends.length c0_1, .slice a0_2 x0.arcs.length c0_2] 25]) (fun g => σ) (fun g => iter (fun q : Int × Nat => whittleref15_Few_b1 x0 q.1 q.2) g.1 = some r) (fun g => rounds (fun q : Int × Nat => whittleref15_Few_b1 x0 q.1 q.2) g.1) (((IntKind.i64.wrap ((IntKind.i64.wrap (((x0.starts.length : Nat) : Int) + ((x0.ends.length : Nat) : Int))) + ((x0.arcs.length : Nat) : Int))), 0), ()) (Sub.pre 1 rfl) rfl (by repeat (first | exact trivial | refine ⟨rfl, ?_⟩)) hh (fun g1 j1 hg1 => ?_)
    obtain ⟨⟨i108, k109⟩, _⟩ := g1
    have hh := hg1; clear hg1
    show TC _ _ _ (upds (mask _ j1 _) [(3, .int .i64 i108), (4, .int .i64 ((k109 : Nat) : Int))]) _ [Res.cells b101 #[.int .i64 x0.states, .slice a0_0 x0.starts.length c0_0, .slice a0_1 x0.ends.length c0_1, .slice a0_2 x0.arcs.length c0_2] 25]
    obtain ⟨z1, hh, hR1⟩ := iter_e hh
    dsimp only [whittleref15_Few_b1] at hh
    refine TC.seq ?_
    refine TC.seq ?_
    refine TC.region ?_
    refine TL.v rfl (OpVal.moveI (.inl rfl) rfl) rfl rfl ?_
    refine TL.v rfl (OpVal.fieldLoc rfl fo25_1 rfl) rfl rfl ?_
    refine TL.v rfl (OpVal.loadLoc rfl ag22 rfl (i := 0) rfl rfl) rfl rfl ?_
    refine TL.v rfl (OpVal.lenC rfl Try.underlying22 rfl) rfl rfl ?_
    refine TL.v rfl (OpVal.lss rfl rfl rfl) rfl rfl ?_
    refine TL.v rfl (OpVal.moveB (.inl rfl) rfl) rfl rfl ?_
    refine TL.split 23 rfl (fun h110 => ?_) (fun h110 => ?_)
    · replace hh := iteO_t h110 hh
      replace h110 := of_decide_eq_true h110
      refine TL.gv rfl rfl rfl rfl rfl (OpVal.moveI (.inl rfl) rfl) rfl rfl ?_
      refine TL.gv rfl rfl rfl rfl rfl (OpVal.leq rfl rfl rfl) rfl rfl ?_
      refine TL.v rfl (OpVal.pickTB rfl rfl rfl) rfl rfl ?_
      refine TL.nil ?_
      refine S.n ?_
      refine TC.cond rfl (fun h111 => ?_) (fun h111 => ?_)
      · replace hh := iteO_t h111 hh
        replace h111 := of_decide_eq_true h111
        refine TC.skip ?_
        refine S.n ?_
        refine TC.seq ?_
        refine TC.block ?_
        refine TC.region ?_
        refine TL.v rfl (OpVal.moveI (.inl rfl) rfl) rfl rfl ?_
        refine TL.v rfl (OpVal.fieldLoc rfl fo25_1 rfl) rfl rfl ?_
        refine TL.v rfl (OpVal.loadLoc rfl ag22 rfl (i := 0) rfl rfl) rfl rfl ?_
        refine TL.v rfl (OpVal.moveI (.inl rfl) rfl) rfl rfl ?_
        refine TL.v rfl (OpVal.indexN rfl Try.underlying22 sz57 rfl rfl f0_0.rv.sl (by omega)) rfl rfl ?_
        refine TL.v rfl (OpVal.fieldElem rfl fo57_1 rfl f0_0.rv.sl (by omega)) rfl rfl ?_
        refine TL.v rfl (OpVal.loadS Tip.zero rfl ag9 rfl f0_0 (by omega) (by omega) rfl) rfl rfl ?_
        refine TL.v rfl (OpVal.lenBs rfl Try.underlying9 rfl) rfl rfl ?_
        refine TL.v rfl (OpVal.quoW rfl rfl rfl (by decide)) rfl rfl ?_
        refine TL.v rfl (OpVal.addW rfl rfl rfl) rfl rfl ?_
        refine TL.v rfl (OpVal.moveI (.inr rfl) rfl) rfl rfl ?_
        refine TL.nil ?_
        refine B.n ?_
        refine S.n ?_
        refine TC.region ?_
        refine TL.v rfl (OpVal.moveI (.inl rfl) rfl) rfl rfl ?_
        refine TL.v rfl (OpVal.succ rfl rfl rfl (by omega)) rfl rfl ?_
        refine TL.v rfl (OpVal.moveI (.inr rfl) rfl) rfl rfl ?_
        refine TL.nil ?_
        refine S.n ?_
        obtain ⟨hh, hlt112⟩ := nxt_x hR1 hh
        refine ⟨by repeat (first | exact Agr.refl _ _ | exact Agr.mask | refine Agr.upd rfl ?_ | refine Agr.maskIn rfl ?_ | refine Agr.upds rfl ?_), (((IntKind.i64.wrap (i108 + (IntKind.i64.wrap (Int.tdiv ((((nth x0.starts k109 Tip.zero).out).length : Nat) : Int) 40)))), (k109 + 1)), ()), hlt112, hh, by repeat (first | exact trivial | refine ⟨rfl, ?_⟩), Sub.pre 1 rfl, rfl⟩
      · replace hh := iteO_f h111 hh
        replace h111 := of_decide_eq_false h111
        refine TC.exit ?_
        refine S.x ?_
        refine S.x ?_
        replace hh := fin_x hR1 hh
        refine TC.exitHere ?_
        refine S.n ?_
        refine ⟨by repeat (first | exact Agr.refl _ _ | exact Agr.mask | refine Agr.upd rfl ?_ | refine Agr.maskIn rfl ?_ | refine Agr.upds rfl ?_), (i108, ()), hh, by repeat (first | exact trivial | refine ⟨rfl, ?_⟩), Sub.pre 1 rfl, rfl⟩
    · replace hh := iteO_f h110 hh
      replace h110 := of_decide_eq_false h110
      refine TL.goff rfl rfl rfl rfl rfl rfl rfl rfl ?_
      refine TL.goff rfl rfl rfl rfl rfl rfl rfl rfl ?_
      refine TL.v rfl (OpVal.pickFB rfl rfl rfl) rfl rfl ?_
      refine TL.nil ?_
      refine S.n ?_
      refine TC.cond rfl (fun h => Bool.noConfusion h) (fun _ => ?_)
      refine TC.exit ?_
      refine S.x ?_
      refine S.x ?_
      replace hh := fin_x hR1 hh
      refine TC.exitHere ?_
      refine S.n ?_
      refine ⟨by repeat (first | exact Agr.refl _ _ | exact Agr.mask | refine Agr.upd rfl ?_ | refine Agr.maskIn rfl ?_ | refine Agr.upds rfl ?_), (i108, ()), hh, by repeat (first | exact trivial | refine ⟨rfl, ?_⟩), Sub.pre 1 rfl, rfl⟩
  · skip
    obtain ⟨i103, _⟩ := g
    have hh := hg; clear hg
    show TC _ _ _ (upds (mask _ j _) [(3, .int .i64 i103)]) _ [Res.cells b101 #[.int .i64 x0.states, .slice a0_0 x0.starts.length c0_0, .slice a0_1 x0.ends.length c0_1, .slice a0_2 x0.arcs.length c0_2] 25]
    dsimp only [whittleref15_Few_j1] at hh
    refine TC.cutG (α := (Int) × (Unit)) [3, 5, 39, 40, 41, 42, 43, 44, 45, 46, 47, 48, 49, 50, 51, 52, 53, 54, 55, 56, 57, 58, 59] (fun g => [(3, .int .i64 g.1)]) (fun g => [Res.cells b101 #[.int .i64 x0.states, .slice a0_0 x0.starts.length c0_0, .slice a0_1 x0.ends.length c0_1, .slice a0_2 x0.arcs.length c0_2] 25]) (fun g => σ) (fun g => whittleref15_Few_j2 x0 g.1 = some r) ?_ (fun g j hg => ?_)
    · skip
      refine TC.seq ?_
      refine TC.region ?_
      refine TL.v rfl (OpVal.moveI (.inr rfl) rfl) rfl rfl ?_
      refine TL.nil ?_
      refine S.n ?_
      refine TC.block ?_
      refine TC.loopG (α := (Int × Nat) × (Unit)) [3, 5, 39, 40, 41, 42, 43, 44, 45, 46, 47, 48, 49, 50, 51, 52, 53, 54, 55, 56, 57, 58, 59] (fun g => [(3, .int .i64 g.1.1), (5, .int .i64 ((g.1.2 : Nat) : Int))]) (fun g => [Res.cells b101 #[.int .i64 x0.states, .slice a0_0 x0.starts.length c0_0, .slice a0_1 x0.ends.length c0_1, .slice a0_2 x0.arcs.length c0_2] 25]) (fun g => σ) (fun g => iter (fun q : Int × Nat => whittleref15_Few_b2 x0 q.1 q.2) g.1 = some r) (fun g => rounds (fun q : Int × Nat => whittleref15_Few_b2 x0 q.1 q.2) g.1) ((i103, 0), ()) (Sub.pre 1 rfl) rfl (by repeat (first | exact trivial | refine ⟨rfl, ?_⟩)) hh (fun g2 j2 hg2 => ?_)
      obtain ⟨⟨i118, k119⟩, _⟩ := g2
      have hh := hg2; clear hg2
      show TC _ _ _ (upds (mask _ j2 _) [(3, .int .i64 i118), (5, .int .i64 ((k119 : Nat) : Int))]) _ [Res.cells b101 #[.int .i64 x0.states, .slice a0_0 x0.starts.length c0_0, .slice a0_1 x0.ends.length c0_1, .slice a0_2 x0.arcs.length c0_2] 25]
      obtain ⟨z1, hh, hR1⟩ := iter_e hh
      dsimp only [whittleref15_Few_b2] at hh
      refine TC.seq ?_
      refine TC.seq ?_
      refine TC.region ?_
      refine TL.v rfl (OpVal.moveI (.inl rfl) rfl) rfl rfl ?_
      refine TL.v rfl (OpVal.fieldLoc rfl fo25_2 rfl) rfl rfl ?_
      refine TL.v rfl (OpVal.loadLoc rfl ag22 rfl (i := 0) rfl rfl) rfl rfl ?_
      refine TL.v rfl (OpVal.lenC rfl Try.underlying22 rfl) rfl rfl ?_
      refine TL.v rfl (OpVal.lss rfl rfl rfl) rfl rfl ?_
      refine TL.v rfl (OpVal.moveB (.inl rfl) rfl) rfl rfl ?_
      refine TL.split 44 rfl (fun h120 => ?_) (fun h120 => ?_)
      · replace hh := iteO_t h120 hh
        replace h120 := of_decide_eq_true h120
        refine TL.gv rfl rfl rfl rfl rfl (OpVal.moveI (.inl rfl) rfl) rfl rfl ?_
        refine TL.gv rfl rfl rfl rfl rfl (OpVal.leq rfl rfl rfl) rfl rfl ?_
        refine TL.v rfl (OpVal.pickTB rfl rfl rfl) rfl rfl ?_
        refine TL.nil ?_
        refine S.n ?_
        refine TC.cond rfl (fun h121 => ?_) (fun h121 => ?_)
        · replace hh := iteO_t h121 hh
          replace h121 := of_decide_eq_true h121
          refine TC.skip ?_
          refine S.n ?_
          refine TC.seq ?_
          refine TC.block ?_
          refine TC.region ?_
          refine TL.v rfl (OpVal.moveI (.inl rfl) rfl) rfl rfl ?_
          refine TL.v rfl (OpVal.fieldLoc rfl fo25_2 rfl) rfl rfl ?_
          refine TL.v rfl (OpVal.loadLoc rfl ag22 rfl (i := 0) rfl rfl) rfl rfl ?_
          refine TL.v rfl (OpVal.moveI (.inl rfl) rfl) rfl rfl ?_
          refine TL.v rfl (OpVal.indexN rfl Try.underlying22 sz57 rfl rfl f0_1.rv.sl (by omega)) rfl rfl ?_
          refine TL.v rfl (OpVal.fieldElem rfl fo57_1 rfl f0_1.rv.sl (by omega)) rfl rfl ?_
          refine TL.v rfl (OpVal.loadS Tip.zero rfl ag9 rfl f0_1 (by omega) (by omega) rfl) rfl rfl ?_
          refine TL.v rfl (OpVal.lenBs rfl Try.underlying9 rfl) rfl rfl ?_
          refine TL.v rfl (OpVal.quoW rfl rfl rfl (by decide)) rfl rfl ?_
          refine TL.v rfl (OpVal.addW rfl rfl rfl) rfl rfl ?_
          refine TL.v rfl (OpVal.moveI (.inr rfl) rfl) rfl rfl ?_
          refine TL.nil ?_
          refine B.n ?_
          refine S.n ?_
          refine TC.region ?_
          refine TL.v rfl (OpVal.moveI (.inl rfl) rfl) rfl rfl ?_
          refine TL.v rfl (OpVal.succ rfl rfl rfl (by omega)) rfl rfl ?_
          refine TL.v rfl (OpVal.moveI (.inr rfl) rfl) rfl rfl ?_
          refine TL.nil ?_
          refine S.n ?_
          obtain ⟨hh, hlt122⟩ := nxt_x hR1 hh
          refine ⟨by repeat (first | exact Agr.refl _ _ | exact Agr.mask | refine Agr.upd rfl ?_ | refine Agr.maskIn rfl ?_ | refine Agr.upds rfl ?_), (((IntKind.i64.wrap (i118 + (IntKind.i64.wrap (Int.tdiv ((((nth x0.ends k119 Tip.zero).out).length : Nat) : Int) 40)))), (k119 + 1)), ()), hlt122, hh, by repeat (first | exact trivial | refine ⟨rfl, ?_⟩), Sub.pre 1 rfl, rfl⟩
        · replace hh := iteO_f h121 hh
          replace h121 := of_decide_eq_false h121
          refine TC.exit ?_
          refine S.x ?_
          refine S.x ?_
          replace hh := fin_x hR1 hh
          refine TC.exitHere ?_
          refine S.n ?_
          refine ⟨by repeat (first | exact Agr.refl _ _ | exact Agr.mask | refine Agr.upd rfl ?_ | refine Agr.maskIn rfl ?_ | refine Agr.upds rfl ?_), (i118, ()), hh, by repeat (first | exact trivial | refine ⟨rfl, ?_⟩), Sub.pre 1 rfl, rfl⟩
      · replace hh := iteO_f h120 hh
        replace h120 := of_decide_eq_false h120
        refine TL.goff rfl rfl rfl rfl rfl rfl rfl rfl ?_
        refine TL.goff rfl rfl rfl rfl rfl rfl rfl rfl ?_
        refine TL.v rfl (OpVal.pickFB rfl rfl rfl) rfl rfl ?_
        refine TL.nil ?_
        refine S.n ?_
        refine TC.cond rfl (fun h => Bool.noConfusion h) (fun _ => ?_)
        refine TC.exit ?_
        refine S.x ?_
        refine S.x ?_
        replace hh := fin_x hR1 hh
        refine TC.exitHere ?_
        refine S.n ?_
        refine ⟨by repeat (first | exact Agr.refl _ _ | exact Agr.mask | refine Agr.upd rfl ?_ | refine Agr.maskIn rfl ?_ | refine Agr.upds rfl ?_), (i118, ()), hh, by repeat (first | exact trivial | refine ⟨rfl, ?_⟩), Sub.pre 1 rfl, rfl⟩
    · skip
      obtain ⟨i113, _⟩ := g
      have hh := hg; clear hg
      show TC _ _ _ (upds (mask _ j _) [(3, .int .i64 i113)]) _ [Res.cells b101 #[.int .i64 x0.states, .slice a0_0 x0.starts.length c0_0, .slice a0_1 x0.ends.length c0_1, .slice a0_2 x0.arcs.length c0_2] 25]
      dsimp only [whittleref15_Few_j2] at hh
      refine TC.cutG (α := (Int) × (Unit)) [3, 6, 60, 61, 62, 63, 64, 65, 66, 67, 68, 69, 70, 71, 72, 73, 74, 75, 76, 77, 78, 79, 80] (fun g => [(3, .int .i64 g.1)]) (fun g => [Res.cells b101 #[.int .i64 x0.states, .slice a0_0 x0.starts.length c0_0, .slice a0_1 x0.ends.length c0_1, .slice a0_2 x0.arcs.length c0_2] 25]) (fun g => σ) (fun g => whittleref15_Few_j3 x0 g.1 = some r) ?_ (fun g j hg => ?_)
      · skip
        refine TC.seq ?_
        refine TC.region ?_
        refine TL.v rfl (OpVal.moveI (.inr rfl) rfl) rfl rfl ?_
        refine TL.nil ?_
        refine S.n ?_
        refine TC.block ?_
        refine TC.loopG (α := (Int × Nat) × (Unit)) [3, 6, 60, 61, 62, 63, 64, 65, 66, 67, 68, 69, 70, 71, 72, 73, 74, 75, 76, 77, 78, 79, 80] (fun g => [(3, .int .i64 g.1.1), (6, .int .i64 ((g.1.2 : Nat) : Int))]) (fun g => [Res.cells b101 #[.int .i64 x0.states, .slice a0_0 x0.starts.length c0_0, .slice a0_1 x0.ends.length c0_1, .slice a0_2 x0.arcs.length c0_2] 25]) (fun g => σ) (fun g => iter (fun q : Int × Nat => whittleref15_Few_b3 x0 q.1 q.2) g.1 = some r) (fun g => rounds (fun q : Int × Nat => whittleref15_Few_b3 x0 q.1 q.2) g.1) ((i113, 0), ()) (Sub.pre 1 rfl) rfl (by repeat (first | exact trivial | refine ⟨rfl, ?_⟩)) hh (fun g3 j3 hg3 => ?_)
        obtain ⟨⟨i128, k129⟩, _⟩ := g3
        have hh := hg3; clear hg3
        show TC _ _ _ (upds (mask _ j3 _) [(3, .int .i64 i128), (6, .int .i64 ((k129 : Nat) : Int))]) _ [Res.cells b101 #[.int .i64 x0.states, .slice a0_0 x0.starts.length c0_0, .slice a0_1 x0.ends.length c0_1, .slice a0_2 x0.arcs.length c0_2] 25]
        obtain ⟨z1, hh, hR1⟩ := iter_e hh
        dsimp only [whittleref15_Few_b3] at hh
        refine TC.seq ?_
        refine TC.seq ?_
        refine TC.region ?_
        refine TL.v rfl (OpVal.moveI (.inl rfl) rfl) rfl rfl ?_
        refine TL.v rfl (OpVal.fieldLoc rfl fo25_3 rfl) rfl rfl ?_
        refine TL.v rfl (OpVal.loadLoc rfl ag23 rfl (i := 0) rfl rfl) rfl rfl ?_
        refine TL.v rfl (OpVal.lenC rfl Try.underlying23 rfl) rfl rfl ?_
        refine TL.v rfl (OpVal.lss rfl rfl rfl) rfl rfl ?_
        refine TL.v rfl (OpVal.moveB (.inl rfl) rfl) rfl rfl ?_
        refine TL.split 65 rfl (fun h130 => ?_) (fun h130 => ?_)
        · replace hh := iteO_t h130 hh
          replace h130 := of_decide_eq_true h130
          refine TL.gv rfl rfl rfl rfl rfl (OpVal.moveI (.inl rfl) rfl) rfl rfl ?_
          refine TL.gv rfl rfl rfl rfl rfl (OpVal.leq rfl rfl rfl) rfl rfl ?_
          refine TL.v rfl (OpVal.pickTB rfl rfl rfl) rfl rfl ?_
          refine TL.nil ?_
          refine S.n ?_
          refine TC.cond rfl (fun h131 => ?_) (fun h131 => ?_)
          · replace hh := iteO_t h131 hh
            replace h131 := of_decide_eq_true h131
            refine TC.skip ?_
            refine S.n ?_
            refine TC.seq ?_
            refine TC.block ?_
            refine TC.region ?_
            refine TL.v rfl (OpVal.moveI (.inl rfl) rfl) rfl rfl ?_
            refine TL.v rfl (OpVal.fieldLoc rfl fo25_3 rfl) rfl rfl ?_
            refine TL.v rfl (OpVal.loadLoc rfl ag23 rfl (i := 0) rfl rfl) rfl rfl ?_
            refine TL.v rfl (OpVal.moveI (.inl rfl) rfl) rfl rfl ?_
            refine TL.v rfl (OpVal.indexN rfl Try.underlying23 sz41 rfl rfl f0_2.rv.sl (by omega)) rfl rfl ?_
            refine TL.v rfl (OpVal.fieldElem rfl fo41_3 rfl f0_2.rv.sl (by omega)) rfl rfl ?_
            refine TL.v rfl (OpVal.loadS Arc.zero rfl ag9 rfl f0_2 (by omega) (by omega) rfl) rfl rfl ?_
            refine TL.v rfl (OpVal.lenBs rfl Try.underlying9 rfl) rfl rfl ?_
            refine TL.v rfl (OpVal.quoW rfl rfl rfl (by decide)) rfl rfl ?_
            refine TL.v rfl (OpVal.addW rfl rfl rfl) rfl rfl ?_
            refine TL.v rfl (OpVal.moveI (.inr rfl) rfl) rfl rfl ?_
            refine TL.nil ?_
            refine B.n ?_
            refine S.n ?_
            refine TC.region ?_
            refine TL.v rfl (OpVal.moveI (.inl rfl) rfl) rfl rfl ?_
            refine TL.v rfl (OpVal.succ rfl rfl rfl (by omega)) rfl rfl ?_
            refine TL.v rfl (OpVal.moveI (.inr rfl) rfl) rfl rfl ?_
            refine TL.nil ?_
            refine S.n ?_
            obtain ⟨hh, hlt132⟩ := nxt_x hR1 hh
            refine ⟨by repeat (first | exact Agr.refl _ _ | exact Agr.mask | refine Agr.upd rfl ?_ | refine Agr.maskIn rfl ?_ | refine Agr.upds rfl ?_), (((IntKind.i64.wrap (i128 + (IntKind.i64.wrap (Int.tdiv ((((nth x0.arcs k129 Arc.zero).out).length : Nat) : Int) 40)))), (k129 + 1)), ()), hlt132, hh, by repeat (first | exact trivial | refine ⟨rfl, ?_⟩), Sub.pre 1 rfl, rfl⟩
          · replace hh := iteO_f h131 hh
            replace h131 := of_decide_eq_false h131
            refine TC.exit ?_
            refine S.x ?_
            refine S.x ?_
            replace hh := fin_x hR1 hh
            refine TC.exitHere ?_
            refine S.n ?_
            refine ⟨by repeat (first | exact Agr.refl _ _ | exact Agr.mask | refine Agr.upd rfl ?_ | refine Agr.maskIn rfl ?_ | refine Agr.upds rfl ?_), (i128, ()), hh, by repeat (first | exact trivial | refine ⟨rfl, ?_⟩), Sub.pre 1 rfl, rfl⟩
        · replace hh := iteO_f h130 hh
          replace h130 := of_decide_eq_false h130
          refine TL.goff rfl rfl rfl rfl rfl rfl rfl rfl ?_
          refine TL.goff rfl rfl rfl rfl rfl rfl rfl rfl ?_
          refine TL.v rfl (OpVal.pickFB rfl rfl rfl) rfl rfl ?_
          refine TL.nil ?_
          refine S.n ?_
          refine TC.cond rfl (fun h => Bool.noConfusion h) (fun _ => ?_)
          refine TC.exit ?_
          refine S.x ?_
          refine S.x ?_
          replace hh := fin_x hR1 hh
          refine TC.exitHere ?_
          refine S.n ?_
          refine ⟨by repeat (first | exact Agr.refl _ _ | exact Agr.mask | refine Agr.upd rfl ?_ | refine Agr.maskIn rfl ?_ | refine Agr.upds rfl ?_), (i128, ()), hh, by repeat (first | exact trivial | refine ⟨rfl, ?_⟩), Sub.pre 1 rfl, rfl⟩
      · skip
        obtain ⟨i123, _⟩ := g
        have hh := hg; clear hg
        show TC _ _ _ (upds (mask _ j _) [(3, .int .i64 i123)]) _ [Res.cells b101 #[.int .i64 x0.states, .slice a0_0 x0.starts.length c0_0, .slice a0_1 x0.ends.length c0_1, .slice a0_2 x0.arcs.length c0_2] 25]
        dsimp only [whittleref15_Few_j3] at hh
        refine TC.seq ?_
        refine TC.region ?_
        refine TL.v rfl (OpVal.moveI (.inl rfl) rfl) rfl rfl ?_
        refine TL.v rfl (OpVal.leq rfl rfl rfl) rfl rfl ?_
        refine TL.v rfl (OpVal.moveB (.inl rfl) rfl) rfl rfl ?_
        refine TL.split 83 rfl (fun h133 => ?_) (fun h133 => ?_)
        · replace hh := iteO_t h133 hh
          replace h133 := of_decide_eq_true h133
          refine TL.gv rfl rfl rfl rfl rfl (OpVal.fieldLoc rfl fo25_0 rfl) rfl rfl ?_
          refine TL.gv rfl rfl rfl rfl rfl (OpVal.loadLoc rfl ag3 rfl (i := 0) rfl rfl) rfl rfl ?_
          refine TL.gv rfl rfl rfl rfl rfl (OpVal.leq rfl rfl rfl) rfl rfl ?_
          refine TL.gv rfl rfl rfl rfl rfl (OpVal.moveB (.inl rfl) rfl) rfl rfl ?_
          refine TL.split 87 rfl (fun h134 => ?_) (fun h134 => ?_)
          · replace hh := iteO_t h134 hh
            replace h134 := of_decide_eq_true h134
            refine TL.goff rfl rfl rfl rfl rfl rfl rfl rfl ?_
            refine TL.goff rfl rfl rfl rfl rfl rfl rfl rfl ?_
            refine TL.goff rfl rfl rfl rfl rfl rfl rfl rfl ?_
            refine TL.gv rfl rfl rfl rfl rfl (OpVal.pickTB rfl rfl rfl) rfl rfl ?_
            refine TL.v rfl (OpVal.pickTB rfl rfl rfl) rfl rfl ?_
            refine TL.v rfl (OpVal.moveB (.inr rfl) rfl) rfl rfl ?_
            refine TL.nil ?_
            refine S.n ?_
            refine TC.ofSub (Sub.pre 0 rfl) ?_
            refine TC.ret ?_
            obtain rfl := Option.some.inj hh
            exact RetOk.mk' (rs := [.tmp 2]) [] rfl (.inl rfl) (RVs.tmp rfl RVs.nil) (List.sublist_append_left _ _) ⟨rfl, rfl, rfl⟩
          · replace hh := iteO_f h134 hh
            replace h134 := of_decide_eq_false h134
            refine TL.gv rfl rfl rfl rfl rfl (OpVal.fieldLoc rfl fo25_0 rfl) rfl rfl ?_
            refine TL.gv rfl rfl rfl rfl rfl (OpVal.loadLoc rfl ag3 rfl (i := 0) rfl rfl) rfl rfl ?_
            refine TL.gv rfl rfl rfl rfl rfl (OpVal.gtr rfl rfl rfl) rfl rfl ?_
            refine TL.gv rfl rfl rfl rfl rfl (OpVal.pickFB rfl rfl rfl) rfl rfl ?_
            refine TL.v rfl (OpVal.pickTB rfl rfl rfl) rfl rfl ?_
            refine TL.v rfl (OpVal.moveB (.inr rfl) rfl) rfl rfl ?_
            refine TL.nil ?_
            refine S.n ?_
            refine TC.ofSub (Sub.pre 0 rfl) ?_
            refine TC.ret ?_
            obtain rfl := Option.some.inj hh
            exact RetOk.mk' (rs := [.tmp 2]) [] rfl (.inl rfl) (RVs.tmp rfl RVs.nil) (List.sublist_append_left _ _) ⟨rfl, rfl, rfl⟩
        · replace hh := iteO_f h133 hh
          replace h133 := of_decide_eq_false h133
          refine TL.goff rfl rfl rfl rfl rfl rfl rfl rfl ?_
          refine TL.goff rfl rfl rfl rfl rfl rfl rfl rfl ?_
          refine TL.goff rfl rfl rfl rfl rfl rfl rfl rfl ?_
          refine TL.goff rfl rfl rfl rfl rfl rfl rfl rfl ?_
          refine TL.goff' rfl rfl rfl rfl rfl rfl rfl ?_
          refine TL.goff' rfl rfl rfl rfl rfl rfl rfl ?_
          refine TL.goff' rfl rfl rfl rfl rfl rfl rfl ?_
          refine TL.goff rfl rfl rfl rfl rfl rfl rfl rfl ?_
          refine TL.v rfl (OpVal.pickFB rfl rfl rfl) rfl rfl ?_
          refine TL.v rfl (OpVal.moveB (.inr rfl) rfl) rfl rfl ?_
          refine TL.nil ?_
          refine S.n ?_
          refine TC.ofSub (Sub.pre 0 rfl) ?_
          refine TC.ret ?_
          obtain rfl := Option.some.inj hh
          exact RetOk.mk' (rs := [.tmp 2]) [] rfl (.inl rfl) (RVs.tmp rfl RVs.nil) (List.sublist_append_left _ _) ⟨rfl, rfl, rfl⟩

noncomputable def whittlelaw15_awake : Option (Bool) :=
  grd ([(97 : UInt8)].length ≤ 1000000000000) (bnd (fst_Outs (⟨2, [(⟨0, ([] : List UInt8)⟩ : Tip)], [(⟨1, ([121] : List UInt8)⟩ : Tip)], [(⟨0, 1, (BSet.ofL [(97 : UInt8)]), ([120] : List UInt8), true⟩ : Arc)]⟩ : Fst) ([97] : List UInt8)) (fun v14 => bnd (fst_Has (⟨2, [(⟨0, ([] : List UInt8)⟩ : Tip)], [(⟨1, ([121] : List UInt8)⟩ : Tip)], [(⟨0, 1, (BSet.ofL [(97 : UInt8)]), ([120] : List UInt8), true⟩ : Arc)]⟩ : Fst) ([97] : List UInt8) ([120, 97, 121] : List UInt8)) (fun v21 => bnd (whittleref03_Texts v14.1 [([120, 97, 121] : List UInt8)]) (fun v29 => iteO v29 (iteO (decide (v14.2 = 0)) (iteO v21.1 (some (decide (v21.2 = v14.2))) (some false)) (some false)) (some false)))))
theorem whittlelaw15_awake_con {σ : Store}   {r : Bool} (hh : whittlelaw15_awake = some r) :
    Con Try.prog 12 #[] σ [] (PureP (.bool r) σ) := by
  dsimp only [whittlelaw15_awake] at hh
  refine Con.mk (n := 40) Try.func12 rfl rfl rfl (fun w0 => ?_)
  refine TC.seq ?_
  refine TC.region ?_
  refine TL.v rfl (OpVal.moveB (.inr rfl) rfl) rfl rfl ?_
  refine TL.nil ?_
  refine S.n ?_
  refine TC.seq ?_
  refine TC.region ?_
  refine TL.v rfl (OpVal.buildL rfl pl57 ze57 rfl) rfl rfl ?_
  refine TL.op rfl (OpOk.lit (enc := encTip) [(⟨0, ([] : List UInt8)⟩ : Tip)] rfl Try.underlying22 sz57 ze57 rfl rfl rfl encTip_len (by decide) (by decide) Tip.zero rfl (by decide) rfl (by decide) encTip_one (fun a101 c102 => ?_))
  refine TL.v rfl (OpVal.buildL rfl pl57 ze57 rfl) rfl rfl ?_
  refine TL.op rfl (OpOk.lit (enc := encTip) [(⟨1, ([121] : List UInt8)⟩ : Tip)] rfl Try.underlying22 sz57 ze57 rfl rfl rfl encTip_len (by decide) (by decide) Tip.zero rfl (by decide) rfl (by decide) encTip_one (fun a104 c105 => ?_))
  refine TL.op rfl (OpOk.lit (enc := encU8) [(97 : UInt8)] rfl Try.underlying87 sz5 ze5 rfl rfl rfl encU8_len (by decide) (by decide) (0 : UInt8) rfl (by decide) rfl (by decide) encU8_one (fun a107 c108 => ?_))
  have u7 := grd_c hh
  replace hh := grd_t hh
  refine TL.op rfl (OpOk.callT (of_con _ _ _ [(97 : UInt8)] u7) rfl rfl pf29 rfl rfl rfl rfl ?_)
  refine TL.v rfl (OpVal.buildL rfl pl41 ze41 rfl) rfl rfl ?_
  refine TL.op rfl (OpOk.lit (enc := encArc) [(⟨0, 1, (BSet.ofL [(97 : UInt8)]), ([120] : List UInt8), true⟩ : Arc)] rfl Try.underlying23 sz41 ze41 rfl rfl rfl encArc_len (by decide) (by decide) Arc.zero rfl (by decide) rfl (by decide) encArc_one (fun a110 c111 => ?_))
  refine TL.v rfl (OpVal.buildL rfl pl25 ze25 rfl) rfl rfl ?_
  refine TL.op rfl (OpOk.alloc rfl ze25 rfl rfl (fun b113 => ?_))
  refine TL.op rfl (OpOk.storeAll rfl sz25 rfl rfl rfl rfl rfl rfl ?_)
  refine TL.nil ?_
  refine S.n ?_
  refine TC.seq ?_
  refine TC.region ?_
  refine TL.v rfl (OpVal.loadAll rfl ag25 sz25 rfl (i := 0) rfl rfl) rfl rfl ?_
  refine TL.front 3 rfl rfl ?_
  refine TL.sealS encTip_len (fun τ117 hle116 hr115 => ?_)
  have hr115b := hr115.rv.big
  refine TL.front 2 rfl rfl ?_
  refine TL.sealS encTip_len (fun τ120 hle119 hr118 => ?_)
  replace hr115 := hr115.mono hle119
  have hr118b := hr118.rv.big
  refine TL.front 1 rfl rfl ?_
  refine TL.sealS encArc_len (fun τ123 hle122 hr121 => ?_)
  replace hr115 := hr115.mono hle122
  replace hr118 := hr118.mono hle122
  have hr121b := hr121.rv.big
  obtain ⟨v14, u14, hh⟩ := bnd_e hh
  refine TL.op rfl (OpOk.call (fst_Outs_con (x0 := (⟨2, [(⟨0, ([] : List UInt8)⟩ : Tip)], [(⟨1, ([121] : List UInt8)⟩ : Tip)], [(⟨0, 1, (BSet.ofL [(97 : UInt8)]), ([120] : List UInt8), true⟩ : Arc)]⟩ : Fst)) hr115 hr118 hr121 u14) rfl rfl pf8 rfl rfl rfl rfl ?_)
  rintro _ τ124 _ hle124 ⟨a124_1, c124_1, rfl, hr124_0, rfl⟩
  replace hr115 := hr115.mono hle124
  replace hr118 := hr118.mono hle124
  replace hr121 := hr121.mono hle124
  have hr124_0b := hr124_0.rv.big
  refine TL.v rfl (OpVal.moveT (.inl rfl) rfl) rfl rfl ?_
  refine TL.v rfl (OpVal.extract rfl rfl rfl) rfl rfl ?_
  refine TL.v rfl (OpVal.extract rfl rfl rfl) rfl rfl ?_
  refine TL.v rfl (OpVal.moveSl (.inr rfl) rfl) rfl rfl ?_
  refine TL.v rfl (OpVal.moveI (.inr rfl) rfl) rfl rfl ?_
  refine TL.nil ?_
  refine S.n ?_
  refine TC.seq ?_
  refine TC.region ?_
  refine TL.v rfl (OpVal.loadAll rfl ag25 sz25 rfl (i := 0) rfl rfl) rfl rfl ?_
  obtain ⟨v21, u21, hh⟩ := bnd_e hh
  refine TL.op rfl (OpOk.callP (fst_Has_con (x0 := (⟨2, [(⟨0, ([] : List UInt8)⟩ : Tip)], [(⟨1, ([121] : List UInt8)⟩ : Tip)], [(⟨0, 1, (BSet.ofL [(97 : UInt8)]), ([120] : List UInt8), true⟩ : Arc)]⟩ : Fst)) hr115 hr118 hr121 u21) rfl rfl pf10 rfl rfl rfl ?_)
  refine TL.v rfl (OpVal.moveT (.inl rfl) rfl) rfl rfl ?_
  refine TL.v rfl (OpVal.extract rfl rfl rfl) rfl rfl ?_
  refine TL.v rfl (OpVal.extract rfl rfl rfl) rfl rfl ?_
  refine TL.v rfl (OpVal.moveB (.inr rfl) rfl) rfl rfl ?_
  refine TL.v rfl (OpVal.moveI (.inr rfl) rfl) rfl rfl ?_
  refine TL.nil ?_
  refine S.n ?_
  refine TC.seq ?_
  refine TC.region ?_
  refine TL.v rfl (OpVal.moveSl (.inl rfl) rfl) rfl rfl ?_
  refine TL.op rfl (OpOk.lit (enc := encS) [([120, 97, 121] : List UInt8)] rfl Try.underlying27 sz9 ze9 rfl rfl rfl encS_len (by decide) (by decide) ([] : List UInt8) rfl (by decide) rfl (by decide) encS_one (fun a125 c126 => ?_))
  obtain ⟨v29, u29, hh⟩ := bnd_e hh
  refine TL.op rfl (OpOk.callK (Con.lend encS_len (fun _ hle129 hr128 => whittleref03_Texts_con (hr124_0.mono hle129) hr128 u29)) rfl rfl pf15 rfl rfl rfl rfl ?_)
  refine TL.v rfl (OpVal.moveB (.inl rfl) rfl) rfl rfl ?_
  refine TL.split 28 rfl (fun h130 => ?_) (fun h130 => ?_)
  · replace hh := iteO_t h130 hh
    refine TL.gv rfl rfl rfl rfl rfl (OpVal.moveI (.inl rfl) rfl) rfl rfl ?_
    refine TL.gv rfl rfl rfl rfl rfl (OpVal.eql rfl rfl rfl) rfl rfl ?_
    refine TL.v rfl (OpVal.pickTB rfl rfl rfl) rfl rfl ?_
    refine TL.v rfl (OpVal.moveB (.inl rfl) rfl) rfl rfl ?_
    refine TL.split 32 rfl (fun h131 => ?_) (fun h131 => ?_)
    · replace hh := iteO_t h131 hh
      replace h131 := of_decide_eq_true h131
      refine TL.gv rfl rfl rfl rfl rfl (OpVal.moveB (.inl rfl) rfl) rfl rfl ?_
      refine TL.v rfl (OpVal.pickTB rfl rfl rfl) rfl rfl ?_
      refine TL.v rfl (OpVal.moveB (.inl rfl) rfl) rfl rfl ?_
      refine TL.split 35 rfl (fun h132 => ?_) (fun h132 => ?_)
      · replace hh := iteO_t h132 hh
        refine TL.gv rfl rfl rfl rfl rfl (OpVal.moveI (.inl rfl) rfl) rfl rfl ?_
        refine TL.gv rfl rfl rfl rfl rfl (OpVal.moveI (.inl rfl) rfl) rfl rfl ?_
        refine TL.gv rfl rfl rfl rfl rfl (OpVal.eql rfl rfl rfl) rfl rfl ?_
        refine TL.v rfl (OpVal.pickTB rfl rfl rfl) rfl rfl ?_
        refine TL.v rfl (OpVal.moveB (.inr rfl) rfl) rfl rfl ?_
        refine TL.nil ?_
        refine S.n ?_
        refine TC.ofSub (Sub.pre 0 rfl) ?_
        refine TC.back ?_
        refine TC.ret ?_
        obtain rfl := Option.some.inj hh
        exact RetOk.mk' (rs := [.tmp 0]) [] rfl (.inl rfl) (RVs.tmp rfl RVs.nil) (List.sublist_append_left _ _) ⟨rfl, rfl, rfl⟩
      · replace hh := iteO_f h132 hh
        refine TL.goff rfl rfl rfl rfl rfl rfl rfl rfl ?_
        refine TL.goff rfl rfl rfl rfl rfl rfl rfl rfl ?_
        refine TL.goff rfl rfl rfl rfl rfl rfl rfl rfl ?_
        refine TL.v rfl (OpVal.pickFB rfl rfl rfl) rfl rfl ?_
        refine TL.v rfl (OpVal.moveB (.inr rfl) rfl) rfl rfl ?_
        refine TL.nil ?_
        refine S.n ?_
        refine TC.ofSub (Sub.pre 0 rfl) ?_
        refine TC.back ?_
        refine TC.ret ?_
        obtain rfl := Option.some.inj hh
        exact RetOk.mk' (rs := [.tmp 0]) [] rfl (.inl rfl) (RVs.tmp rfl RVs.nil) (List.sublist_append_left _ _) ⟨rfl, rfl, rfl⟩
    · replace hh := iteO_f h131 hh
      replace h131 := of_decide_eq_false h131
      refine TL.goff rfl rfl rfl rfl rfl rfl rfl rfl ?_
      refine TL.v rfl (OpVal.pickFB rfl rfl rfl) rfl rfl ?_
      refine TL.v rfl (OpVal.moveB (.inl rfl) rfl) rfl rfl ?_
      refine TL.goff rfl rfl rfl rfl rfl rfl rfl rfl ?_
      refine TL.goff rfl rfl rfl rfl rfl rfl rfl rfl ?_
      refine TL.goff rfl rfl rfl rfl rfl rfl rfl rfl ?_
      refine TL.v rfl (OpVal.pickFB rfl rfl rfl) rfl rfl ?_
      refine TL.v rfl (OpVal.moveB (.inr rfl) rfl) rfl rfl ?_
      refine TL.nil ?_
      refine S.n ?_
      refine TC.ofSub (Sub.pre 0 rfl) ?_
      refine TC.back ?_
      refine TC.ret ?_
      obtain rfl := Option.some.inj hh
      exact RetOk.mk' (rs := [.tmp 0]) [] rfl (.inl rfl) (RVs.tmp rfl RVs.nil) (List.sublist_append_left _ _) ⟨rfl, rfl, rfl⟩
  · replace hh := iteO_f h130 hh
    refine TL.goff rfl rfl rfl rfl rfl rfl rfl rfl ?_
    refine TL.goff rfl rfl rfl rfl rfl rfl rfl rfl ?_
    refine TL.v rfl (OpVal.pickFB rfl rfl rfl) rfl rfl ?_
    refine TL.v rfl (OpVal.moveB (.inl rfl) rfl) rfl rfl ?_
    refine TL.goff rfl rfl rfl rfl rfl rfl rfl rfl ?_
    refine TL.v rfl (OpVal.pickFB rfl rfl rfl) rfl rfl ?_
    refine TL.v rfl (OpVal.moveB (.inl rfl) rfl) rfl rfl ?_
    refine TL.goff rfl rfl rfl rfl rfl rfl rfl rfl ?_
    refine TL.goff rfl rfl rfl rfl rfl rfl rfl rfl ?_
    refine TL.goff rfl rfl rfl rfl rfl rfl rfl rfl ?_
    refine TL.v rfl (OpVal.pickFB rfl rfl rfl) rfl rfl ?_
    refine TL.v rfl (OpVal.moveB (.inr rfl) rfl) rfl rfl ?_
    refine TL.nil ?_
    refine S.n ?_
    refine TC.ofSub (Sub.pre 0 rfl) ?_
    refine TC.back ?_
    refine TC.ret ?_
    obtain rfl := Option.some.inj hh
    exact RetOk.mk' (rs := [.tmp 0]) [] rfl (.inl rfl) (RVs.tmp rfl RVs.nil) (List.sublist_append_left _ _) ⟨rfl, rfl, rfl⟩

noncomputable def whittlelaw15_FstOne_j3 (k168 : Nat) (k171 : Nat) : Option ((Nat × Nat) ⊕ (Bool)) :=
  nxt (k171, (k168 + 1))
noncomputable def whittlelaw15_FstOne_j2 (v33 : (List (List UInt8)) × Int) (k162 : Nat) : Option (Bool) :=
  bnd (whittlelaw15_awake) (fun v90 => iteO v90 (some (decide (((k162 : Nat) : Int) = ((v33.1.length : Nat) : Int)))) (some false))
noncomputable def whittlelaw15_FstOne_b1 (v41 : (List (List UInt8)) × Int) (v33 : (List (List UInt8)) × Int) (k167 : Nat) (k168 : Nat) : Option ((Nat × Nat) ⊕ (Bool)) :=
  iteO (decide (((k168 : Nat) : Int) < ((v41.1.length : Nat) : Int))) (iteO (decide (((k167 : Nat) : Int) < ((v33.1.length : Nat) : Int))) (iteO (decide ((nth v41.1 k168 ([] : List UInt8)) = (nth v33.1 k167 ([] : List UInt8)))) (whittlelaw15_FstOne_j3 k168 (k167 + 1)) (whittlelaw15_FstOne_j3 k168 k167)) (fin (whittlelaw15_FstOne_j2 v33 k167))) (fin (whittlelaw15_FstOne_j2 v33 k167))
noncomputable def whittlelaw15_FstOne_j1 (x0 : Fst) (x2 : List UInt8) (x1 : Arc) : Option (Bool) :=
  bnd (fst_Outs x0 x2) (fun v33 => bnd (fst_Outs (⟨x0.states, x0.starts, x0.ends, ((([] : List Arc) ++ x0.arcs) ++ [x1])⟩ : Fst) x2) (fun v41 => iteO (decide (v33.2 ≠ 0)) (bnd (whittlelaw15_awake) (fun v53 => iteO v53 (iteO (decide (v33.2 = 0)) (some true) (some (decide (v41.2 ≠ 0)))) (some false))) (iteO (decide (v41.2 ≠ 0)) (bnd (whittlelaw15_awake) (fun v53 => iteO v53 (iteO (decide (v33.2 = 0)) (some true) (some (decide (v41.2 ≠ 0)))) (some false))) (iter (fun q : Nat × Nat => whittlelaw15_FstOne_b1 v41 v33 q.1 q.2) (0, 0)))))
noncomputable def whittlelaw15_FstOne (x0 : Fst) (x1 : Arc) (x2 : List UInt8) : Option (Bool) :=
  grd (x2.length ≤ 281474976710656) (bnd (whittleref15_Few x0) (fun v5 => iteO (!v5) (some true) (iteO (decide (600 < ((x1.out.length : Nat) : Int))) (some true) (iteO (decide (5 < ((x2.length : Nat) : Int))) (some true) (grd ((([] : List Arc).length + x0.arcs.length) * 72 ≤ 140737488355328) (grd (((([] : List Arc) ++ x0.arcs).length + [x1].length) * 72 ≤ 140737488355328) (whittlelaw15_FstOne_j1 x0 x2 x1)))))))
theorem whittlelaw15_FstOne_con {σ : Store} {x0 : Fst} {a0_0 : Option Addr} {c0_0 : Nat} {a0_1 : Option Addr} {c0_1 : Nat} {a0_2 : Option Addr} {c0_2 : Nat} {x1 : Arc} {x2 : List UInt8} (f0_0 : RS σ 2 encTip (.slice a0_0 x0.starts.length c0_0) x0.starts) (f0_1 : RS σ 2 encTip (.slice a0_1 x0.ends.length c0_1) x0.ends) (f0_2 : RS σ 8 encArc (.slice a0_2 x0.arcs.length c0_2) x0.arcs) {r : Bool} (hh : whittlelaw15_FstOne x0 x1 x2 = some r) :
    Con Try.prog 4 #[.agg #[.int .i64 x0.states, .slice a0_0 x0.starts.length c0_0, .slice a0_1 x0.ends.length c0_1, .slice a0_2 x0.arcs.length c0_2], .agg #[.int .i64 x1.frm, .int .i64 x1.to, .int .u64 ((x1.set.a : Nat) : Int), .int .u64 ((x1.set.b : Nat) : Int), .int .u64 ((x1.set.c : Nat) : Int), .int .u64 ((x1.set.d : Nat) : Int), .string (bs x1.out), .bool x1.copy], .string (bs x2)] σ [] (PureP (.bool r) σ) := by
  dsimp only [whittlelaw15_FstOne] at hh
  have f0_0b := f0_0.rv.big
  have f0_1b := f0_1.rv.big
  have f0_2b := f0_2.rv.big
  refine Con.mk (n := 94) Try.func4 rfl rfl rfl (fun w0 => ?_)
  have x2b := grd_c hh
  replace hh := grd_t hh
  refine TC.seq ?_
  refine TC.region ?_
  refine TL.op rfl (OpOk.boxA rfl rfl rfl rfl (fun b101 => ?_))
  refine TL.op rfl (OpOk.boxA rfl rfl rfl rfl (fun b103 => ?_))
  refine TL.v rfl (OpVal.moveB (.inr rfl) rfl) rfl rfl ?_
  refine TL.nil ?_
  refine S.n ?_
  refine TC.seq ?_
  refine TC.seq ?_
  refine TC.region ?_
  refine TL.v rfl (OpVal.loadAll rfl ag25 sz25 rfl (i := 1) rfl rfl) rfl rfl ?_
  obtain ⟨v5, u5, hh⟩ := bnd_e hh
  refine TL.op rfl (OpOk.callP (whittleref15_Few_con (x0 := x0) f0_0 f0_1 f0_2 u5) rfl rfl pf7 rfl rfl rfl ?_)
  refine TL.v rfl (OpVal.not rfl rfl) rfl rfl ?_
  refine TL.v rfl (OpVal.moveB (.inl rfl) rfl) rfl rfl ?_
  refine TL.split 17 rfl (fun h105 => ?_) (fun h105 => ?_)
  · replace hh := iteO_t h105 hh
    refine TL.goff rfl rfl rfl rfl rfl rfl rfl rfl ?_
    refine TL.goff rfl rfl rfl rfl rfl rfl rfl rfl ?_
    refine TL.goff rfl rfl rfl rfl rfl rfl rfl rfl ?_
    refine TL.goff rfl rfl rfl rfl rfl rfl rfl rfl ?_
    refine TL.v rfl (OpVal.pickTB rfl rfl rfl) rfl rfl ?_
    refine TL.v rfl (OpVal.moveB (.inl rfl) rfl) rfl rfl ?_
    refine TL.goff rfl rfl rfl rfl rfl rfl rfl rfl ?_
    refine TL.goff rfl rfl rfl rfl rfl rfl rfl rfl ?_
    refine TL.goff rfl rfl rfl rfl rfl rfl rfl rfl ?_
    refine TL.v rfl (OpVal.pickTB rfl rfl rfl) rfl rfl ?_
    refine TL.nil ?_
    refine S.n ?_
    refine TC.cond rfl (fun _ => ?_) (fun h => Bool.noConfusion h)
    refine TC.seq ?_
    refine TC.region ?_
    refine TL.v rfl (OpVal.moveB (.inr rfl) rfl) rfl rfl ?_
    refine TL.nil ?_
    refine S.n ?_
    refine TC.ofSub (Sub.pre 0 rfl) ?_
    refine TC.ret ?_
    refine S.r ?_
    obtain rfl := Option.some.inj hh
    exact RetOk.mk' (rs := [.tmp 6]) [] rfl (.inl rfl) (RVs.tmp rfl RVs.nil) (List.sublist_append_left _ _) ⟨rfl, rfl, rfl⟩
  · replace hh := iteO_f h105 hh
    refine TL.gv rfl rfl rfl rfl rfl (OpVal.fieldLoc rfl fo41_3 rfl) rfl rfl ?_
    refine TL.gv rfl rfl rfl rfl rfl (OpVal.loadLoc rfl ag9 rfl (i := 0) rfl rfl) rfl rfl ?_
    refine TL.gv rfl rfl rfl rfl rfl (OpVal.lenBs rfl Try.underlying9 rfl) rfl rfl ?_
    refine TL.gv rfl rfl rfl rfl rfl (OpVal.gtr rfl rfl rfl) rfl rfl ?_
    refine TL.v rfl (OpVal.pickFB rfl rfl rfl) rfl rfl ?_
    refine TL.v rfl (OpVal.moveB (.inl rfl) rfl) rfl rfl ?_
    refine TL.split 23 rfl (fun h106 => ?_) (fun h106 => ?_)
    · replace hh := iteO_t h106 hh
      replace h106 := of_decide_eq_true h106
      refine TL.goff rfl rfl rfl rfl rfl rfl rfl rfl ?_
      refine TL.goff rfl rfl rfl rfl rfl rfl rfl rfl ?_
      refine TL.goff rfl rfl rfl rfl rfl rfl rfl rfl ?_
      refine TL.v rfl (OpVal.pickTB rfl rfl rfl) rfl rfl ?_
      refine TL.nil ?_
      refine S.n ?_
      refine TC.cond rfl (fun _ => ?_) (fun h => Bool.noConfusion h)
      refine TC.seq ?_
      refine TC.region ?_
      refine TL.v rfl (OpVal.moveB (.inr rfl) rfl) rfl rfl ?_
      refine TL.nil ?_
      refine S.n ?_
      refine TC.ofSub (Sub.pre 0 rfl) ?_
      refine TC.ret ?_
      refine S.r ?_
      obtain rfl := Option.some.inj hh
      exact RetOk.mk' (rs := [.tmp 6]) [] rfl (.inl rfl) (RVs.tmp rfl RVs.nil) (List.sublist_append_left _ _) ⟨rfl, rfl, rfl⟩
    · replace hh := iteO_f h106 hh
      replace h106 := of_decide_eq_false h106
      refine TL.gv rfl rfl rfl rfl rfl (OpVal.moveStr (.inl rfl) rfl) rfl rfl ?_
      refine TL.gv rfl rfl rfl rfl rfl (OpVal.lenBs rfl Try.underlying9 rfl) rfl rfl ?_
      refine TL.gv rfl rfl rfl rfl rfl (OpVal.gtr rfl rfl rfl) rfl rfl ?_
      refine TL.v rfl (OpVal.pickFB rfl rfl rfl) rfl rfl ?_
      refine TL.nil ?_
      refine S.n ?_
      refine TC.cond rfl (fun h107 => ?_) (fun h107 => ?_)
      · replace hh := iteO_t h107 hh
        replace h107 := of_decide_eq_true h107
        refine TC.seq ?_
        refine TC.region ?_
        refine TL.v rfl (OpVal.moveB (.inr rfl) rfl) rfl rfl ?_
        refine TL.nil ?_
        refine S.n ?_
        refine TC.ofSub (Sub.pre 0 rfl) ?_
        refine TC.ret ?_
        refine S.r ?_
        obtain rfl := Option.some.inj hh
        exact RetOk.mk' (rs := [.tmp 6]) [] rfl (.inl rfl) (RVs.tmp rfl RVs.nil) (List.sublist_append_left _ _) ⟨rfl, rfl, rfl⟩
      · replace hh := iteO_f h107 hh
        replace h107 := of_decide_eq_false h107
        refine TC.skip ?_
        refine S.n ?_
        refine TC.seq ?_
        refine TC.region ?_
        refine TL.v rfl (OpVal.loadAll rfl ag25 sz25 rfl (i := 1) rfl rfl) rfl rfl ?_
        refine TL.op rfl (OpOk.alloc rfl ze25 rfl rfl (fun b108 => ?_))
        refine TL.op rfl (OpOk.storeAll rfl sz25 rfl rfl rfl rfl rfl rfl ?_)
        refine TL.nil ?_
        refine S.n ?_
        refine TC.cutG (α := (Unit) × ((Option Addr) × Nat)) [29, 30, 31, 32, 33, 34, 35, 36] (fun g => []) (fun g => [Res.cells b101 #[.int .i64 x0.states, .slice a0_0 x0.starts.length c0_0, .slice a0_1 x0.ends.length c0_1, .slice a0_2 x0.arcs.length c0_2] 25, Res.cells b108 #[.int .i64 x0.states, .slice a0_0 x0.starts.length c0_0, .slice a0_1 x0.ends.length c0_1, .slice g.2.1 (((([] : List Arc) ++ x0.arcs) ++ [x1]).length) g.2.2] 25, Res.rowS 41 8 encArc (.slice g.2.1 ((([] : List Arc) ++ x0.arcs) ++ [x1]).length g.2.2) ((([] : List Arc) ++ x0.arcs) ++ [x1])]) (fun g => σ) (fun g => whittlelaw15_FstOne_j1 x0 x2 x1 = some r) ?_ (fun g j hg => ?_)
        · skip
          have u25 := grd_c hh
          replace hh := grd_t hh
          have u28 := grd_c hh
          replace hh := grd_t hh
          refine TC.drawR (Hr := [Res.cells b103 #[.int .i64 x1.frm, .int .i64 x1.to, .int .u64 ((x1.set.a : Nat) : Int), .int .u64 ((x1.set.b : Nat) : Int), .int .u64 ((x1.set.c : Nat) : Int), .int .u64 ((x1.set.d : Nat) : Int), .string (bs x1.out), .bool x1.copy] 41, Res.cells b101 #[.int .i64 x0.states, .slice a0_0 x0.starts.length c0_0, .slice a0_1 x0.ends.length c0_1, .slice a0_2 x0.arcs.length c0_2] 25]) (fun r hr => mem_pick [1, 2] rfl hr) [] (by kernel_rfl) ?_
          refine TA.takeP 1 rfl (by kernel_rfl) (by kernel_rfl) (by kernel_rfl) rfl (OpVal.fieldLoc rfl fo25_3 rfl) rfl rfl ?_
          refine TA.take 2 rfl (by kernel_rfl) (by kernel_rfl) (by kernel_rfl) (by kernel_rfl) rfl (OpVal.loadLoc rfl ag23 rfl (i := 1) rfl rfl) rfl rfl ?_
          refine TA.take 4 rfl (by kernel_rfl) (by kernel_rfl) (by kernel_rfl) (by kernel_rfl) rfl (OpVal.loadAll rfl ag41 sz41 rfl (i := 0) rfl rfl) rfl rfl ?_
          refine TA.actN [0, 5] (by kernel_rfl) (And.intro (Exists.intro _ (And.intro rfl (And.intro rfl (OpOk.lit0 (enc := encArc) rfl rfl Try.underlying23 sz41 rfl rfl (fun a123 c124 => ⟨(fun w h => sees_of (Store.le.refl _) (fun r hr => (List.mem_cons_of_mem _ (List.mem_cons_of_mem _ hr))) w h), ?_⟩))))) (And.intro (Exists.intro _ (And.intro rfl (And.intro rfl (OpOk.lit (enc := encArc) [x1] rfl Try.underlying23 sz41 ze41 rfl rfl rfl encArc_len (by decide) (by decide) Arc.zero rfl (by decide) rfl (by decide) encArc_one (fun a126 c127 => ⟨(fun w h => sees_of (Store.le.refl _) (fun r hr => (List.mem_cons_of_mem _ (List.mem_cons_of_mem _ hr))) w h), ?_⟩))))) (True.intro)))
          · skip
            refine TA.actN [3, 5] (by kernel_rfl) (And.intro (Exists.intro _ (And.intro rfl (And.intro rfl (OpOk.appendS rfl rfl Try.underlying23 sz41 by41 ze41 rfl rfl (by decide) rfl rfl rfl (.inl f0_2) (by simpa using u25) (by decide) (fun a129 c130 => ⟨(fun w h => sees_of (Store.le.refl _) (fun r hr => (List.mem_cons_of_mem _ (List.mem_cons_of_mem _ hr))) w h), ?_⟩))))) (And.intro (Exists.intro _ (And.intro rfl (And.intro rfl (OpOk.lit (enc := encArc) [x1] rfl Try.underlying23 sz41 ze41 rfl rfl rfl encArc_len (by decide) (by decide) Arc.zero rfl (by decide) rfl (by decide) encArc_one (fun a131 c132 => ⟨(fun w h => sees_of (Store.le.refl _) (fun r hr => (List.mem_cons_of_mem _ (List.mem_cons_of_mem _ (List.mem_cons_of_mem _ hr)))) w h), ?_⟩))))) (True.intro)))
            · skip
              refine TA.act 5 (by kernel_rfl) rfl rfl (OpOk.lit (enc := encArc) [x1] rfl Try.underlying23 sz41 ze41 rfl rfl rfl encArc_len (by decide) (by decide) Arc.zero rfl (by decide) rfl (by decide) encArc_one (fun a134 c135 => ⟨(fun w h => sees_of (Store.le.refl _) (fun r hr => (List.mem_cons_of_mem _ (List.mem_cons_of_mem _ (List.mem_cons_of_mem _ hr)))) w h), ?_⟩))
              refine TA.front 1 rfl rfl ?_
              refine TA.act 6 (by kernel_rfl) rfl rfl (OpOk.appendS rfl rfl Try.underlying23 sz41 by41 ze41 rfl rfl (by decide) rfl rfl rfl (.inr ⟨_, 0, rfl⟩) (by simpa using u28) (by decide) (fun a137 c138 => ⟨(fun w h => sees_of (Store.le.refl _) (fun r hr => (List.mem_cons_of_mem _ (List.mem_cons_of_mem _ (List.mem_cons_of_mem _ hr)))) w h), ?_⟩))
              refine TA.takeP 7 rfl (by kernel_rfl) (by kernel_rfl) (by kernel_rfl) rfl (OpVal.fieldLoc rfl fo25_3 rfl) rfl rfl ?_
              refine TA.front 2 rfl rfl ?_
              refine TA.act 8 (by kernel_rfl) rfl rfl (OpOk.storeSl rfl sz23 rfl rfl rfl rfl rfl ⟨(fun w h => sees_of (Store.le.refl _) (fun r hr => (List.mem_cons_of_mem _ (List.mem_cons_of_mem _ (List.mem_cons_of_mem _ hr)))) w h), ?_⟩)
              refine TA.done (by kernel_rfl) ?_
              refine S.n ?_
              refine ⟨by repeat (first | exact Agr.refl _ _ | exact Agr.mask | refine Agr.upd rfl ?_ | refine Agr.maskIn rfl ?_ | refine Agr.upds rfl ?_), ((), (a137, c138)), hh, by repeat (first | exact trivial | refine ⟨rfl, ?_⟩), Sub.front 1 rfl rfl (Sub.front 1 rfl rfl (Sub.front 4 rfl rfl (Sub.pre 3 rfl))), rfl⟩
            · skip
              refine TA.front 1 rfl rfl ?_
              refine TA.act 3 (by kernel_rfl) rfl rfl (OpOk.appendS rfl rfl Try.underlying23 sz41 by41 ze41 rfl rfl (by decide) rfl rfl rfl (.inl f0_2) (by simpa using u25) (by decide) (fun a139 c140 => ⟨(fun w h => sees_of (Store.le.refl _) (fun r hr => (List.mem_cons_of_mem _ (List.mem_cons_of_mem _ (List.mem_cons_of_mem _ hr)))) w h), ?_⟩))
              refine TA.act 6 (by kernel_rfl) rfl rfl (OpOk.appendS rfl rfl Try.underlying23 sz41 by41 ze41 rfl rfl (by decide) rfl rfl rfl (.inr ⟨_, 0, rfl⟩) (by simpa using u28) (by decide) (fun a141 c142 => ⟨(fun w h => sees_of (Store.le.refl _) (fun r hr => (List.mem_cons_of_mem _ (List.mem_cons_of_mem _ (List.mem_cons_of_mem _ hr)))) w h), ?_⟩))
              refine TA.takeP 7 rfl (by kernel_rfl) (by kernel_rfl) (by kernel_rfl) rfl (OpVal.fieldLoc rfl fo25_3 rfl) rfl rfl ?_
              refine TA.front 2 rfl rfl ?_
              refine TA.act 8 (by kernel_rfl) rfl rfl (OpOk.storeSl rfl sz23 rfl rfl rfl rfl rfl ⟨(fun w h => sees_of (Store.le.refl _) (fun r hr => (List.mem_cons_of_mem _ (List.mem_cons_of_mem _ (List.mem_cons_of_mem _ hr)))) w h), ?_⟩)
              refine TA.done (by kernel_rfl) ?_
              refine S.n ?_
              refine ⟨by repeat (first | exact Agr.refl _ _ | exact Agr.mask | refine Agr.upd rfl ?_ | refine Agr.maskIn rfl ?_ | refine Agr.upds rfl ?_), ((), (a141, c142)), hh, by repeat (first | exact trivial | refine ⟨rfl, ?_⟩), Sub.front 1 rfl rfl (Sub.front 1 rfl rfl (Sub.front 4 rfl rfl (Sub.pre 3 rfl))), rfl⟩
          · skip
            refine TA.act 0 (by kernel_rfl) rfl rfl (OpOk.lit0 (enc := encArc) rfl rfl Try.underlying23 sz41 rfl rfl (fun a143 c144 => ⟨(fun w h => sees_of (Store.le.refl _) (fun r hr => (List.mem_cons_of_mem _ (List.mem_cons_of_mem _ (List.mem_cons_of_mem _ hr)))) w h), ?_⟩))
            refine TA.act 3 (by kernel_rfl) rfl rfl (OpOk.appendS rfl rfl Try.underlying23 sz41 by41 ze41 rfl rfl (by decide) rfl rfl rfl (.inl f0_2) (by simpa using u25) (by decide) (fun a146 c147 => ⟨(fun w h => sees_of (Store.le.refl _) (fun r hr => (List.mem_cons_of_mem _ (List.mem_cons_of_mem _ (List.mem_cons_of_mem _ hr)))) w h), ?_⟩))
            refine TA.act 6 (by kernel_rfl) rfl rfl (OpOk.appendS rfl rfl Try.underlying23 sz41 by41 ze41 rfl rfl (by decide) rfl rfl rfl (.inr ⟨_, 0, rfl⟩) (by simpa using u28) (by decide) (fun a148 c149 => ⟨(fun w h => sees_of (Store.le.refl _) (fun r hr => (List.mem_cons_of_mem _ (List.mem_cons_of_mem _ (List.mem_cons_of_mem _ hr)))) w h), ?_⟩))
            refine TA.takeP 7 rfl (by kernel_rfl) (by kernel_rfl) (by kernel_rfl) rfl (OpVal.fieldLoc rfl fo25_3 rfl) rfl rfl ?_
            refine TA.front 2 rfl rfl ?_
            refine TA.act 8 (by kernel_rfl) rfl rfl (OpOk.storeSl rfl sz23 rfl rfl rfl rfl rfl ⟨(fun w h => sees_of (Store.le.refl _) (fun r hr => (List.mem_cons_of_mem _ (List.mem_cons_of_mem _ (List.mem_cons_of_mem _ hr)))) w h), ?_⟩)
            refine TA.done (by kernel_rfl) ?_
            refine S.n ?_
            refine ⟨by repeat (first | exact Agr.refl _ _ | exact Agr.mask | refine Agr.upd rfl ?_ | refine Agr.maskIn rfl ?_ | refine Agr.upds rfl ?_), ((), (a148, c149)), hh, by repeat (first | exact trivial | refine ⟨rfl, ?_⟩), Sub.front 1 rfl rfl (Sub.front 1 rfl rfl (Sub.front 4 rfl rfl (Sub.pre 3 rfl))), rfl⟩
        · skip
          obtain ⟨_, ⟨a111, c112⟩⟩ := g
          have hh := hg; clear hg
          show TC _ _ _ (upds (mask _ j _) []) _ [Res.cells b101 #[.int .i64 x0.states, .slice a0_0 x0.starts.length c0_0, .slice a0_1 x0.ends.length c0_1, .slice a0_2 x0.arcs.length c0_2] 25, Res.cells b108 #[.int .i64 x0.states, .slice a0_0 x0.starts.length c0_0, .slice a0_1 x0.ends.length c0_1, .slice a111 (((([] : List Arc) ++ x0.arcs) ++ [x1]).length) c112] 25, Res.rowS 41 8 encArc (.slice a111 ((([] : List Arc) ++ x0.arcs) ++ [x1]).length c112) ((([] : List Arc) ++ x0.arcs) ++ [x1])]
          dsimp only [whittlelaw15_FstOne_j1] at hh
          refine TC.isSl (i := 2) rfl (fun _ hb150 _ => ?_)
          refine TC.seq ?_
          refine TC.region ?_
          refine TL.v rfl (OpVal.loadAll rfl ag25 sz25 rfl (i := 0) rfl rfl) rfl rfl ?_
          refine TL.v rfl (OpVal.moveStr (.inl rfl) rfl) rfl rfl ?_
          obtain ⟨v33, u33, hh⟩ := bnd_e hh
          refine TL.op rfl (OpOk.call (fst_Outs_con (x0 := x0) f0_0 f0_1 f0_2 u33) rfl rfl pf8 rfl rfl rfl rfl ?_)
          rintro _ τ151 _ hle151 ⟨a151_1, c151_1, rfl, hr151_0, rfl⟩
          replace f0_0 := f0_0.mono hle151
          replace f0_1 := f0_1.mono hle151
          replace f0_2 := f0_2.mono hle151
          have hr151_0b := hr151_0.rv.big
          refine TL.v rfl (OpVal.moveT (.inl rfl) rfl) rfl rfl ?_
          refine TL.v rfl (OpVal.extract rfl rfl rfl) rfl rfl ?_
          refine TL.v rfl (OpVal.extract rfl rfl rfl) rfl rfl ?_
          refine TL.v rfl (OpVal.moveSl (.inr rfl) rfl) rfl rfl ?_
          refine TL.v rfl (OpVal.moveI (.inr rfl) rfl) rfl rfl ?_
          refine TL.nil ?_
          refine S.n ?_
          refine TC.seq ?_
          refine TC.region ?_
          refine TL.v rfl (OpVal.loadAll rfl ag25 sz25 rfl (i := 1) rfl rfl) rfl rfl ?_
          refine TL.v rfl (OpVal.moveStr (.inl rfl) rfl) rfl rfl ?_
          refine TL.front 2 rfl rfl ?_
          refine TL.sealS encArc_len (fun τ154 hle153 hr152 => ?_)
          replace f0_0 := f0_0.mono hle153
          replace f0_1 := f0_1.mono hle153
          replace f0_2 := f0_2.mono hle153
          replace hr151_0 := hr151_0.mono hle153
          have hr152b := hr152.rv.big
          obtain ⟨v41, u41, hh⟩ := bnd_e hh
          refine TL.op rfl (OpOk.call (fst_Outs_con (x0 := (⟨x0.states, x0.starts, x0.ends, ((([] : List Arc) ++ x0.arcs) ++ [x1])⟩ : Fst)) f0_0 f0_1 hr152 u41) rfl rfl pf8 rfl rfl rfl rfl ?_)
          rintro _ τ155 _ hle155 ⟨a155_1, c155_1, rfl, hr155_0, rfl⟩
          replace f0_0 := f0_0.mono hle155
          replace f0_1 := f0_1.mono hle155
          replace f0_2 := f0_2.mono hle155
          replace hr151_0 := hr151_0.mono hle155
          replace hr152 := hr152.mono hle155
          have hr155_0b := hr155_0.rv.big
          refine TL.v rfl (OpVal.moveT (.inl rfl) rfl) rfl rfl ?_
          refine TL.v rfl (OpVal.extract rfl rfl rfl) rfl rfl ?_
          refine TL.v rfl (OpVal.extract rfl rfl rfl) rfl rfl ?_
          refine TL.v rfl (OpVal.moveSl (.inr rfl) rfl) rfl rfl ?_
          refine TL.v rfl (OpVal.moveI (.inr rfl) rfl) rfl rfl ?_
          refine TL.nil ?_
          refine S.n ?_
          refine TC.seq ?_
          refine TC.seq ?_
          refine TC.region ?_
          refine TL.v rfl (OpVal.moveI (.inl rfl) rfl) rfl rfl ?_
          refine TL.v rfl (OpVal.neq rfl rfl rfl) rfl rfl ?_
          refine TL.v rfl (OpVal.moveB (.inl rfl) rfl) rfl rfl ?_
          refine TL.split 51 rfl (fun h156 => ?_) (fun h156 => ?_)
          · replace hh := iteO_t h156 hh
            replace h156 := of_decide_eq_true h156
            refine TL.goff rfl rfl rfl rfl rfl rfl rfl rfl ?_
            refine TL.goff rfl rfl rfl rfl rfl rfl rfl rfl ?_
            refine TL.v rfl (OpVal.pickTB rfl rfl rfl) rfl rfl ?_
            refine TL.nil ?_
            refine S.n ?_
            refine TC.cond rfl (fun _ => ?_) (fun h => Bool.noConfusion h)
            refine TC.seq ?_
            refine TC.region ?_
            obtain ⟨v53, u53, hh⟩ := bnd_e hh
            refine TL.op rfl (OpOk.callP (whittlelaw15_awake_con u53) rfl rfl pf12 rfl rfl rfl ?_)
            refine TL.v rfl (OpVal.moveB (.inl rfl) rfl) rfl rfl ?_
            refine TL.split 56 rfl (fun h157 => ?_) (fun h157 => ?_)
            · replace hh := iteO_t h157 hh
              refine TL.gv rfl rfl rfl rfl rfl (OpVal.moveI (.inl rfl) rfl) rfl rfl ?_
              refine TL.gv rfl rfl rfl rfl rfl (OpVal.eql rfl rfl rfl) rfl rfl ?_
              refine TL.gv rfl rfl rfl rfl rfl (OpVal.moveB (.inl rfl) rfl) rfl rfl ?_
              refine TL.split 59 rfl (fun h158 => ?_) (fun h158 => ?_)
              · replace hh := iteO_t h158 hh
                replace h158 := of_decide_eq_true h158
                refine TL.goff rfl rfl rfl rfl rfl rfl rfl rfl ?_
                refine TL.goff rfl rfl rfl rfl rfl rfl rfl rfl ?_
                refine TL.gv rfl rfl rfl rfl rfl (OpVal.pickTB rfl rfl rfl) rfl rfl ?_
                refine TL.v rfl (OpVal.pickTB rfl rfl rfl) rfl rfl ?_
                refine TL.v rfl (OpVal.moveB (.inr rfl) rfl) rfl rfl ?_
                refine TL.nil ?_
                refine S.n ?_
                refine TC.ofSub (Sub.pre 0 rfl) ?_
                refine TC.back ?_
                refine TC.ret ?_
                refine S.r ?_
                obtain rfl := Option.some.inj hh
                exact RetOk.mk' (rs := [.tmp 6]) [] rfl (.inl rfl) (RVs.tmp rfl RVs.nil) (List.sublist_append_left _ _) ⟨rfl, rfl, rfl⟩
              · replace hh := iteO_f h158 hh
                replace h158 := of_decide_eq_false h158
                refine TL.gv rfl rfl rfl rfl rfl (OpVal.moveI (.inl rfl) rfl) rfl rfl ?_
                refine TL.gv rfl rfl rfl rfl rfl (OpVal.neq rfl rfl rfl) rfl rfl ?_
                refine TL.gv rfl rfl rfl rfl rfl (OpVal.pickFB rfl rfl rfl) rfl rfl ?_
                refine TL.v rfl (OpVal.pickTB rfl rfl rfl) rfl rfl ?_
                refine TL.v rfl (OpVal.moveB (.inr rfl) rfl) rfl rfl ?_
                refine TL.nil ?_
                refine S.n ?_
                refine TC.ofSub (Sub.pre 0 rfl) ?_
                refine TC.back ?_
                refine TC.ret ?_
                refine S.r ?_
                obtain rfl := Option.some.inj hh
                exact RetOk.mk' (rs := [.tmp 6]) [] rfl (.inl rfl) (RVs.tmp rfl RVs.nil) (List.sublist_append_left _ _) ⟨rfl, rfl, rfl⟩
            · replace hh := iteO_f h157 hh
              refine TL.goff rfl rfl rfl rfl rfl rfl rfl rfl ?_
              refine TL.goff rfl rfl rfl rfl rfl rfl rfl rfl ?_
              refine TL.goff rfl rfl rfl rfl rfl rfl rfl rfl ?_
              refine TL.goff' rfl rfl rfl rfl rfl rfl rfl ?_
              refine TL.goff' rfl rfl rfl rfl rfl rfl rfl ?_
              refine TL.goff rfl rfl rfl rfl rfl rfl rfl rfl ?_
              refine TL.v rfl (OpVal.pickFB rfl rfl rfl) rfl rfl ?_
              refine TL.v rfl (OpVal.moveB (.inr rfl) rfl) rfl rfl ?_
              refine TL.nil ?_
              refine S.n ?_
              refine TC.ofSub (Sub.pre 0 rfl) ?_
              refine TC.back ?_
              refine TC.ret ?_
              refine S.r ?_
              obtain rfl := Option.some.inj hh
              exact RetOk.mk' (rs := [.tmp 6]) [] rfl (.inl rfl) (RVs.tmp rfl RVs.nil) (List.sublist_append_left _ _) ⟨rfl, rfl, rfl⟩
          · replace hh := iteO_f h156 hh
            replace h156 := of_decide_eq_false h156
            refine TL.gv rfl rfl rfl rfl rfl (OpVal.moveI (.inl rfl) rfl) rfl rfl ?_
            refine TL.gv rfl rfl rfl rfl rfl (OpVal.neq rfl rfl rfl) rfl rfl ?_
            refine TL.v rfl (OpVal.pickFB rfl rfl rfl) rfl rfl ?_
            refine TL.nil ?_
            refine S.n ?_
            refine TC.cond rfl (fun h159 => ?_) (fun h159 => ?_)
            · replace hh := iteO_t h159 hh
              replace h159 := of_decide_eq_true h159
              refine TC.seq ?_
              refine TC.region ?_
              obtain ⟨v53, u53, hh⟩ := bnd_e hh
              refine TL.op rfl (OpOk.callP (whittlelaw15_awake_con u53) rfl rfl pf12 rfl rfl rfl ?_)
              refine TL.v rfl (OpVal.moveB (.inl rfl) rfl) rfl rfl ?_
              refine TL.split 56 rfl (fun h160 => ?_) (fun h160 => ?_)
              · replace hh := iteO_t h160 hh
                refine TL.gv rfl rfl rfl rfl rfl (OpVal.moveI (.inl rfl) rfl) rfl rfl ?_
                refine TL.gv rfl rfl rfl rfl rfl (OpVal.eql rfl rfl rfl) rfl rfl ?_
                refine TL.gv rfl rfl rfl rfl rfl (OpVal.moveB (.inl rfl) rfl) rfl rfl ?_
                refine TL.split 59 rfl (fun h161 => ?_) (fun h161 => ?_)
                · replace hh := iteO_t h161 hh
                  replace h161 := of_decide_eq_true h161
                  refine TL.goff rfl rfl rfl rfl rfl rfl rfl rfl ?_
                  refine TL.goff rfl rfl rfl rfl rfl rfl rfl rfl ?_
                  refine TL.gv rfl rfl rfl rfl rfl (OpVal.pickTB rfl rfl rfl) rfl rfl ?_
                  refine TL.v rfl (OpVal.pickTB rfl rfl rfl) rfl rfl ?_
                  refine TL.v rfl (OpVal.moveB (.inr rfl) rfl) rfl rfl ?_
                  refine TL.nil ?_
                  refine S.n ?_
                  refine TC.ofSub (Sub.pre 0 rfl) ?_
                  refine TC.back ?_
                  refine TC.ret ?_
                  refine S.r ?_
                  obtain rfl := Option.some.inj hh
                  exact RetOk.mk' (rs := [.tmp 6]) [] rfl (.inl rfl) (RVs.tmp rfl RVs.nil) (List.sublist_append_left _ _) ⟨rfl, rfl, rfl⟩
                · replace hh := iteO_f h161 hh
                  replace h161 := of_decide_eq_false h161
                  refine TL.gv rfl rfl rfl rfl rfl (OpVal.moveI (.inl rfl) rfl) rfl rfl ?_
                  refine TL.gv rfl rfl rfl rfl rfl (OpVal.neq rfl rfl rfl) rfl rfl ?_
                  refine TL.gv rfl rfl rfl rfl rfl (OpVal.pickFB rfl rfl rfl) rfl rfl ?_
                  refine TL.v rfl (OpVal.pickTB rfl rfl rfl) rfl rfl ?_
                  refine TL.v rfl (OpVal.moveB (.inr rfl) rfl) rfl rfl ?_
                  refine TL.nil ?_
                  refine S.n ?_
                  refine TC.ofSub (Sub.pre 0 rfl) ?_
                  refine TC.back ?_
                  refine TC.ret ?_
                  refine S.r ?_
                  obtain rfl := Option.some.inj hh
                  exact RetOk.mk' (rs := [.tmp 6]) [] rfl (.inl rfl) (RVs.tmp rfl RVs.nil) (List.sublist_append_left _ _) ⟨rfl, rfl, rfl⟩
              · replace hh := iteO_f h160 hh
                refine TL.goff rfl rfl rfl rfl rfl rfl rfl rfl ?_
                refine TL.goff rfl rfl rfl rfl rfl rfl rfl rfl ?_
                refine TL.goff rfl rfl rfl rfl rfl rfl rfl rfl ?_
                refine TL.goff' rfl rfl rfl rfl rfl rfl rfl ?_
                refine TL.goff' rfl rfl rfl rfl rfl rfl rfl ?_
                refine TL.goff rfl rfl rfl rfl rfl rfl rfl rfl ?_
                refine TL.v rfl (OpVal.pickFB rfl rfl rfl) rfl rfl ?_
                refine TL.v rfl (OpVal.moveB (.inr rfl) rfl) rfl rfl ?_
                refine TL.nil ?_
                refine S.n ?_
                refine TC.ofSub (Sub.pre 0 rfl) ?_
                refine TC.back ?_
                refine TC.ret ?_
                refine S.r ?_
                obtain rfl := Option.some.inj hh
                exact RetOk.mk' (rs := [.tmp 6]) [] rfl (.inl rfl) (RVs.tmp rfl RVs.nil) (List.sublist_append_left _ _) ⟨rfl, rfl, rfl⟩
            · replace hh := iteO_f h159 hh
              replace h159 := of_decide_eq_false h159
              refine TC.skip ?_
              refine S.n ?_
              refine TC.seq ?_
              refine TC.region ?_
              refine TL.v rfl (OpVal.moveI (.inr rfl) rfl) rfl rfl ?_
              refine TL.nil ?_
              refine S.n ?_
              refine TC.cutG (α := (Nat) × (Unit)) [12, 13, 64, 65, 66, 67, 68, 69, 70, 71, 72, 73, 74, 75, 76, 77, 78, 79, 80, 81, 82, 83, 84, 85, 86] (fun g => [(12, .int .i64 ((g.1 : Nat) : Int))]) (fun g => []) (fun g => τ155) (fun g => whittlelaw15_FstOne_j2 v33 g.1 = some r) ?_ (fun g j hg => ?_)
              · skip
                refine TC.seq ?_
                refine TC.region ?_
                refine TL.v rfl (OpVal.moveI (.inr rfl) rfl) rfl rfl ?_
                refine TL.nil ?_
                refine S.n ?_
                refine TC.block ?_
                refine TC.loopG (α := (Nat × Nat) × (Unit)) [12, 13, 64, 65, 66, 67, 68, 69, 70, 71, 72, 73, 74, 75, 76, 77, 78, 79, 80, 81, 82, 83, 84, 85, 86] (fun g => [(12, .int .i64 ((g.1.1 : Nat) : Int)), (13, .int .i64 ((g.1.2 : Nat) : Int))]) (fun g => []) (fun g => τ155) (fun g => iter (fun q : Nat × Nat => whittlelaw15_FstOne_b1 v41 v33 q.1 q.2) g.1 = some r) (fun g => rounds (fun q : Nat × Nat => whittlelaw15_FstOne_b1 v41 v33 q.1 q.2) g.1) ((0, 0), ()) (Sub.pre 0 rfl) rfl (by repeat (first | exact trivial | refine ⟨rfl, ?_⟩)) hh (fun g1 j1 hg1 => ?_)
                obtain ⟨⟨k167, k168⟩, _⟩ := g1
                have hh := hg1; clear hg1
                show TC _ _ _ (upds (mask _ j1 _) [(12, .int .i64 ((k167 : Nat) : Int)), (13, .int .i64 ((k168 : Nat) : Int))]) _ []
                obtain ⟨z1, hh, hR1⟩ := iter_e hh
                dsimp only [whittlelaw15_FstOne_b1] at hh
                refine TC.seq ?_
                refine TC.seq ?_
                refine TC.region ?_
                refine TL.v rfl (OpVal.moveI (.inl rfl) rfl) rfl rfl ?_
                refine TL.v rfl (OpVal.moveSl (.inl rfl) rfl) rfl rfl ?_
                refine TL.v rfl (OpVal.lenC rfl Try.underlying27 rfl) rfl rfl ?_
                refine TL.v rfl (OpVal.lss rfl rfl rfl) rfl rfl ?_
                refine TL.v rfl (OpVal.moveB (.inl rfl) rfl) rfl rfl ?_
                refine TL.split 68 rfl (fun h169 => ?_) (fun h169 => ?_)
                · replace hh := iteO_t h169 hh
                  replace h169 := of_decide_eq_true h169
                  refine TL.gv rfl rfl rfl rfl rfl (OpVal.moveI (.inl rfl) rfl) rfl rfl ?_
                  refine TL.gv rfl rfl rfl rfl rfl (OpVal.moveSl (.inl rfl) rfl) rfl rfl ?_
                  refine TL.gv rfl rfl rfl rfl rfl (OpVal.lenC rfl Try.underlying27 rfl) rfl rfl ?_
                  refine TL.gv rfl rfl rfl rfl rfl (OpVal.lss rfl rfl rfl) rfl rfl ?_
                  refine TL.v rfl (OpVal.pickTB rfl rfl rfl) rfl rfl ?_
                  refine TL.nil ?_
                  refine S.n ?_
                  refine TC.cond rfl (fun h170 => ?_) (fun h170 => ?_)
                  · replace hh := iteO_t h170 hh
                    replace h170 := of_decide_eq_true h170
                    refine TC.skip ?_
                    refine S.n ?_
                    refine TC.cutG (α := (Nat) × (Unit)) [12, 76, 77, 78, 79, 80, 81, 82, 83, 84, 85, 86] (fun g => [(12, .int .i64 ((g.1 : Nat) : Int))]) (fun g => []) (fun g => τ155) (fun g => whittlelaw15_FstOne_j3 k168 g.1 = some z1) ?_ (fun g j hg => ?_)
                    · skip
                      refine TC.block ?_
                      refine TC.seq ?_
                      refine TC.draw [] (by kernel_rfl) ?_
                      refine TA.takeP 0 rfl (by kernel_rfl) (by kernel_rfl) (by kernel_rfl) rfl (OpVal.moveSl (.inl rfl) rfl) rfl rfl ?_
                      refine TA.takeP 1 rfl (by kernel_rfl) (by kernel_rfl) (by kernel_rfl) rfl (OpVal.moveI (.inl rfl) rfl) rfl rfl ?_
                      refine TA.take 2 rfl (by kernel_rfl) (by kernel_rfl) (by kernel_rfl) (by kernel_rfl) rfl (OpVal.indexN rfl Try.underlying27 sz9 rfl rfl hr155_0.rv.sl (by omega)) rfl rfl ?_
                      refine TA.take 3 rfl (by kernel_rfl) (by kernel_rfl) (by kernel_rfl) (by kernel_rfl) rfl (OpVal.loadS1 ([] : List UInt8) rfl ag9 rfl hr155_0 (by omega) rfl) rfl rfl ?_
                      refine TA.takeP 4 rfl (by kernel_rfl) (by kernel_rfl) (by kernel_rfl) rfl (OpVal.moveSl (.inl rfl) rfl) rfl rfl ?_
                      refine TA.takeP 5 rfl (by kernel_rfl) (by kernel_rfl) (by kernel_rfl) rfl (OpVal.moveI (.inl rfl) rfl) rfl rfl ?_
                      refine TA.take 6 rfl (by kernel_rfl) (by kernel_rfl) (by kernel_rfl) (by kernel_rfl) rfl (OpVal.indexN rfl Try.underlying27 sz9 rfl rfl hr151_0.rv.sl (by omega)) rfl rfl ?_
                      refine TA.take 7 rfl (by kernel_rfl) (by kernel_rfl) (by kernel_rfl) (by kernel_rfl) rfl (OpVal.loadS1 ([] : List UInt8) rfl ag9 rfl hr151_0 (by omega) rfl) rfl rfl ?_
                      refine TA.takeP 8 rfl (by kernel_rfl) (by kernel_rfl) (by kernel_rfl) rfl (OpVal.eqlBs rfl rfl rfl) rfl rfl ?_
                      refine TA.done (by kernel_rfl) ?_
                      refine S.n ?_
                      refine TC.cond rfl (fun h172 => ?_) (fun h172 => ?_)
                      · replace hh := iteO_t h172 hh
                        replace h172 := of_decide_eq_true h172
                        refine TC.region ?_
                        refine TL.v rfl (OpVal.moveI (.inl rfl) rfl) rfl rfl ?_
                        refine TL.v rfl (OpVal.succ rfl rfl rfl (by omega)) rfl rfl ?_
                        refine TL.v rfl (OpVal.moveI (.inr rfl) rfl) rfl rfl ?_
                        refine TL.nil ?_
                        refine B.n ?_
                        refine S.n ?_
                        refine ⟨by repeat (first | exact Agr.refl _ _ | exact Agr.mask | refine Agr.upd rfl ?_ | refine Agr.maskIn rfl ?_ | refine Agr.upds rfl ?_), ((k167 + 1), ()), hh, by repeat (first | exact trivial | refine ⟨rfl, ?_⟩), Sub.pre 0 rfl, rfl⟩
                      · replace hh := iteO_f h172 hh
                        replace h172 := of_decide_eq_false h172
                        refine TC.skip ?_
                        refine B.n ?_
                        refine S.n ?_
                        refine ⟨by repeat (first | exact Agr.refl _ _ | exact Agr.mask | refine Agr.upd rfl ?_ | refine Agr.maskIn rfl ?_ | refine Agr.upds rfl ?_), (k167, ()), hh, by repeat (first | exact trivial | refine ⟨rfl, ?_⟩), Sub.pre 0 rfl, rfl⟩
                    · skip
                      obtain ⟨k171, _⟩ := g
                      have hh := hg; clear hg
                      show TC _ _ _ (upds (mask _ j _) [(12, .int .i64 ((k171 : Nat) : Int))]) _ []
                      dsimp only [whittlelaw15_FstOne_j3] at hh
                      refine TC.region ?_
                      refine TL.v rfl (OpVal.moveI (.inl rfl) rfl) rfl rfl ?_
                      refine TL.v rfl (OpVal.succ rfl rfl rfl (by omega)) rfl rfl ?_
                      refine TL.v rfl (OpVal.moveI (.inr rfl) rfl) rfl rfl ?_
                      refine TL.nil ?_
                      refine S.n ?_
                      obtain ⟨hh, hlt173⟩ := nxt_x hR1 hh
                      refine ⟨by repeat (first | exact Agr.refl _ _ | exact Agr.mask | refine Agr.upd rfl ?_ | refine Agr.maskIn rfl ?_ | refine Agr.upds rfl ?_), ((k171, (k168 + 1)), ()), hlt173, hh, by repeat (first | exact trivial | refine ⟨rfl, ?_⟩), Sub.pre 0 rfl, rfl⟩
                  · replace hh := iteO_f h170 hh
                    replace h170 := of_decide_eq_false h170
                    refine TC.exit ?_
                    refine S.x ?_
                    refine S.x ?_
                    replace hh := fin_x hR1 hh
                    refine TC.exitHere ?_
                    refine S.n ?_
                    refine ⟨by repeat (first | exact Agr.refl _ _ | exact Agr.mask | refine Agr.upd rfl ?_ | refine Agr.maskIn rfl ?_ | refine Agr.upds rfl ?_), (k167, ()), hh, by repeat (first | exact trivial | refine ⟨rfl, ?_⟩), Sub.pre 0 rfl, rfl⟩
                · replace hh := iteO_f h169 hh
                  replace h169 := of_decide_eq_false h169
                  refine TL.goff rfl rfl rfl rfl rfl rfl rfl rfl ?_
                  refine TL.goff rfl rfl rfl rfl rfl rfl rfl rfl ?_
                  refine TL.goff rfl rfl rfl rfl rfl rfl rfl rfl ?_
                  refine TL.goff rfl rfl rfl rfl rfl rfl rfl rfl ?_
                  refine TL.v rfl (OpVal.pickFB rfl rfl rfl) rfl rfl ?_
                  refine TL.nil ?_
                  refine S.n ?_
                  refine TC.cond rfl (fun h => Bool.noConfusion h) (fun _ => ?_)
                  refine TC.exit ?_
                  refine S.x ?_
                  refine S.x ?_
                  replace hh := fin_x hR1 hh
                  refine TC.exitHere ?_
                  refine S.n ?_
                  refine ⟨by repeat (first | exact Agr.refl _ _ | exact Agr.mask | refine Agr.upd rfl ?_ | refine Agr.maskIn rfl ?_ | refine Agr.upds rfl ?_), (k167, ()), hh, by repeat (first | exact trivial | refine ⟨rfl, ?_⟩), Sub.pre 0 rfl, rfl⟩
              · skip
                obtain ⟨k162, _⟩ := g
                have hh := hg; clear hg
                show TC _ _ _ (upds (mask _ j _) [(12, .int .i64 ((k162 : Nat) : Int))]) _ []
                dsimp only [whittlelaw15_FstOne_j2] at hh
                refine TC.seq ?_
                refine TC.region ?_
                obtain ⟨v90, u90, hh⟩ := bnd_e hh
                refine TL.op rfl (OpOk.callP (whittlelaw15_awake_con u90) rfl rfl pf12 rfl rfl rfl ?_)
                refine TL.v rfl (OpVal.moveB (.inl rfl) rfl) rfl rfl ?_
                refine TL.split 88 rfl (fun h174 => ?_) (fun h174 => ?_)
                · replace hh := iteO_t h174 hh
                  refine TL.gv rfl rfl rfl rfl rfl (OpVal.moveI (.inl rfl) rfl) rfl rfl ?_
                  refine TL.gv rfl rfl rfl rfl rfl (OpVal.moveSl (.inl rfl) rfl) rfl rfl ?_
                  refine TL.gv rfl rfl rfl rfl rfl (OpVal.lenC rfl Try.underlying27 rfl) rfl rfl ?_
                  refine TL.gv rfl rfl rfl rfl rfl (OpVal.eql rfl rfl rfl) rfl rfl ?_
                  refine TL.v rfl (OpVal.pickTB rfl rfl rfl) rfl rfl ?_
                  refine TL.v rfl (OpVal.moveB (.inr rfl) rfl) rfl rfl ?_
                  refine TL.nil ?_
                  refine S.n ?_
                  refine TC.back ?_
                  refine TC.ret ?_
                  obtain rfl := Option.some.inj hh
                  exact RetOk.mk' (rs := [.tmp 6]) [] rfl (.inl rfl) (RVs.tmp rfl RVs.nil) (List.sublist_append_left _ _) ⟨rfl, rfl, rfl⟩
                · replace hh := iteO_f h174 hh
                  refine TL.goff rfl rfl rfl rfl rfl rfl rfl rfl ?_
                  refine TL.goff rfl rfl rfl rfl rfl rfl rfl rfl ?_
                  refine TL.goff rfl rfl rfl rfl rfl rfl rfl rfl ?_
                  refine TL.goff rfl rfl rfl rfl rfl rfl rfl rfl ?_
                  refine TL.v rfl (OpVal.pickFB rfl rfl rfl) rfl rfl ?_
                  refine TL.v rfl (OpVal.moveB (.inr rfl) rfl) rfl rfl ?_
                  refine TL.nil ?_
                  refine S.n ?_
                  refine TC.back ?_
                  refine TC.ret ?_
                  obtain rfl := Option.some.inj hh
                  exact RetOk.mk' (rs := [.tmp 6]) [] rfl (.inl rfl) (RVs.tmp rfl RVs.nil) (List.sublist_append_left _ _) ⟨rfl, rfl, rfl⟩

noncomputable def whittlelaw15_FstSort (x0 : Fst) (x1 : List UInt8) (x2 : Int) : Option (Bool) :=
  grd (x1.length ≤ 281474976710656) (bnd (whittleref15_Few x0) (fun v4 => iteO (!v4) (some true) (iteO (decide (5 < ((x1.length : Nat) : Int))) (some true) (bnd (fst_Sort x0) (fun v13 => iteO (decide (v13.2 ≠ 0)) (bnd (whittlelaw15_awake) (fun v22 => iteO v22 (bnd (fst_Check x0) (fun v25 => some (decide (v25 = v13.2)))) (some false))) (bnd (fst_Sort v13.1) (fun v31 => bnd (fst_Outs x0 x1) (fun v40 => bnd (fst_Outs v13.1 x1) (fun v48 => iteO (decide (v31.2 ≠ 0)) (some false) (bnd (whittleref15_Same v13.1 v31.1) (fun v59 => iteO (!v59) (some false) (iteO (decide (v40.2 ≠ v48.2)) (some false) (bnd (whittleref03_Texts v40.1 v48.1) (fun v70 => iteO (!v70) (some false) (iteO (decide (x2 < 0)) (bnd (whittlelaw15_awake) (fun v83 => some v83)) (iteO (decide (((x0.arcs.length : Nat) : Int) ≤ x2)) (bnd (whittlelaw15_awake) (fun v83 => some v83)) (grd (0 ≤ x2 ∧ x2 < (x0.arcs.length : Int)) (grd (([(nth x0.arcs x2.toNat Arc.zero)].length + x0.arcs.length) * 72 ≤ 140737488355328) (bnd (fst_Sort (⟨x0.states, x0.starts, x0.ends, ([(nth x0.arcs x2.toNat Arc.zero)] ++ x0.arcs)⟩ : Fst)) (fun v104 => bnd (whittlelaw15_awake) (fun v111 => iteO v111 (iteO (decide (v104.2 = 0)) (bnd (whittleref15_Same v104.1 v13.1) (fun v119 => some v119)) (some false)) (some false))))))))))))))))))))))
theorem whittlelaw15_FstSort_con {σ : Store} {x0 : Fst} {a0_0 : Option Addr} {c0_0 : Nat} {a0_1 : Option Addr} {c0_1 : Nat} {a0_2 : Option Addr} {c0_2 : Nat} {x1 : List UInt8} {x2 : Int} (f0_0 : RS σ 2 encTip (.slice a0_0 x0.starts.length c0_0) x0.starts) (f0_1 : RS σ 2 encTip (.slice a0_1 x0.ends.length c0_1) x0.ends) (f0_2 : RS σ 8 encArc (.slice a0_2 x0.arcs.length c0_2) x0.arcs) {r : Bool} (hh : whittlelaw15_FstSort x0 x1 x2 = some r) :
    Con Try.prog 5 #[.agg #[.int .i64 x0.states, .slice a0_0 x0.starts.length c0_0, .slice a0_1 x0.ends.length c0_1, .slice a0_2 x0.arcs.length c0_2], .string (bs x1), .int .i64 x2] σ [] (PureP (.bool r) σ) := by
  dsimp only [whittlelaw15_FstSort] at hh
  have f0_0b := f0_0.rv.big
  have f0_1b := f0_1.rv.big
  have f0_2b := f0_2.rv.big
  refine Con.mk (n := 115) Try.func5 rfl rfl rfl (fun w0 => ?_)
  have x1b := grd_c hh
  replace hh := grd_t hh
  refine TC.seq ?_
  refine TC.region ?_
  refine TL.op rfl (OpOk.boxA rfl rfl rfl rfl (fun b101 => ?_))
  refine TL.v rfl (OpVal.moveB (.inr rfl) rfl) rfl rfl ?_
  refine TL.nil ?_
  refine S.n ?_
  refine TC.seq ?_
  refine TC.seq ?_
  refine TC.region ?_
  refine TL.v rfl (OpVal.loadAll rfl ag25 sz25 rfl (i := 0) rfl rfl) rfl rfl ?_
  obtain ⟨v4, u4, hh⟩ := bnd_e hh
  refine TL.op rfl (OpOk.callP (whittleref15_Few_con (x0 := x0) f0_0 f0_1 f0_2 u4) rfl rfl pf7 rfl rfl rfl ?_)
  refine TL.v rfl (OpVal.not rfl rfl) rfl rfl ?_
  refine TL.v rfl (OpVal.moveB (.inl rfl) rfl) rfl rfl ?_
  refine TL.split 21 rfl (fun h103 => ?_) (fun h103 => ?_)
  · replace hh := iteO_t h103 hh
    refine TL.goff rfl rfl rfl rfl rfl rfl rfl rfl ?_
    refine TL.goff rfl rfl rfl rfl rfl rfl rfl rfl ?_
    refine TL.goff rfl rfl rfl rfl rfl rfl rfl rfl ?_
    refine TL.v rfl (OpVal.pickTB rfl rfl rfl) rfl rfl ?_
    refine TL.nil ?_
    refine S.n ?_
    refine TC.cond rfl (fun _ => ?_) (fun h => Bool.noConfusion h)
    refine TC.seq ?_
    refine TC.region ?_
    refine TL.v rfl (OpVal.moveB (.inr rfl) rfl) rfl rfl ?_
    refine TL.nil ?_
    refine S.n ?_
    refine TC.ofSub (Sub.pre 0 rfl) ?_
    refine TC.ret ?_
    refine S.r ?_
    obtain rfl := Option.some.inj hh
    exact RetOk.mk' (rs := [.tmp 6]) [] rfl (.inl rfl) (RVs.tmp rfl RVs.nil) (List.sublist_append_left _ _) ⟨rfl, rfl, rfl⟩
  · replace hh := iteO_f h103 hh
    refine TL.gv rfl rfl rfl rfl rfl (OpVal.moveStr (.inl rfl) rfl) rfl rfl ?_
    refine TL.gv rfl rfl rfl rfl rfl (OpVal.lenBs rfl Try.underlying9 rfl) rfl rfl ?_
    refine TL.gv rfl rfl rfl rfl rfl (OpVal.gtr rfl rfl rfl) rfl rfl ?_
    refine TL.v rfl (OpVal.pickFB rfl rfl rfl) rfl rfl ?_
    refine TL.nil ?_
    refine S.n ?_
    refine TC.cond rfl (fun h104 => ?_) (fun h104 => ?_)
    · replace hh := iteO_t h104 hh
      replace h104 := of_decide_eq_true h104
      refine TC.seq ?_
      refine TC.region ?_
      refine TL.v rfl (OpVal.moveB (.inr rfl) rfl) rfl rfl ?_
      refine TL.nil ?_
      refine S.n ?_
      refine TC.ofSub (Sub.pre 0 rfl) ?_
      refine TC.ret ?_
      refine S.r ?_
      obtain rfl := Option.some.inj hh
      exact RetOk.mk' (rs := [.tmp 6]) [] rfl (.inl rfl) (RVs.tmp rfl RVs.nil) (List.sublist_append_left _ _) ⟨rfl, rfl, rfl⟩
    · replace hh := iteO_f h104 hh
      replace h104 := of_decide_eq_false h104
      refine TC.skip ?_
      refine S.n ?_
      refine TC.seq ?_
      refine TC.region ?_
      refine TL.v rfl (OpVal.loadAll rfl ag25 sz25 rfl (i := 0) rfl rfl) rfl rfl ?_
      obtain ⟨v13, u13, hh⟩ := bnd_e hh
      refine TL.op rfl (OpOk.call (fst_Sort_con (x0 := x0) f0_0 f0_1 f0_2 u13) rfl rfl pf16 rfl rfl rfl rfl ?_)
      rintro _ τ105 _ hle105 ⟨a105_1, c105_1, a105_2, c105_2, a105_3, c105_3, rfl, hr105_0, hr105_1, hr105_2, rfl⟩
      replace f0_0 := f0_0.mono hle105
      replace f0_1 := f0_1.mono hle105
      replace f0_2 := f0_2.mono hle105
      have hr105_0b := hr105_0.rv.big
      have hr105_1b := hr105_1.rv.big
      have hr105_2b := hr105_2.rv.big
      refine TL.v rfl (OpVal.moveT (.inl rfl) rfl) rfl rfl ?_
      refine TL.v rfl (OpVal.extract rfl rfl rfl) rfl rfl ?_
      refine TL.v rfl (OpVal.extract rfl rfl rfl) rfl rfl ?_
      refine TL.op rfl (OpOk.alloc rfl ze25 rfl rfl (fun b106 => ?_))
      refine TL.op rfl (OpOk.storeAll rfl sz25 rfl rfl rfl rfl rfl rfl ?_)
      refine TL.v rfl (OpVal.moveI (.inr rfl) rfl) rfl rfl ?_
      refine TL.nil ?_
      refine S.n ?_
      refine TC.seq ?_
      refine TC.seq ?_
      refine TC.region ?_
      refine TL.v rfl (OpVal.moveI (.inl rfl) rfl) rfl rfl ?_
      refine TL.v rfl (OpVal.neq rfl rfl rfl) rfl rfl ?_
      refine TL.nil ?_
      refine S.n ?_
      refine TC.cond rfl (fun h108 => ?_) (fun h108 => ?_)
      · replace hh := iteO_t h108 hh
        replace h108 := of_decide_eq_true h108
        refine TC.seq ?_
        refine TC.region ?_
        obtain ⟨v22, u22, hh⟩ := bnd_e hh
        refine TL.op rfl (OpOk.callP (whittlelaw15_awake_con u22) rfl rfl pf12 rfl rfl rfl ?_)
        refine TL.v rfl (OpVal.moveB (.inl rfl) rfl) rfl rfl ?_
        refine TL.split 34 rfl (fun h109 => ?_) (fun h109 => ?_)
        · replace hh := iteO_t h109 hh
          refine TL.gv rfl rfl rfl rfl rfl (OpVal.loadAll rfl ag25 sz25 rfl (i := 1) rfl rfl) rfl rfl ?_
          obtain ⟨v25, u25, hh⟩ := bnd_e hh
          refine TL.gon rfl rfl rfl rfl rfl (OpOk.callP (fst_Check_con (x0 := x0) f0_0 f0_1 f0_2 u25) rfl rfl pf13 rfl rfl rfl ?_)
          refine TL.gv rfl rfl rfl rfl rfl (OpVal.moveI (.inl rfl) rfl) rfl rfl ?_
          refine TL.gv rfl rfl rfl rfl rfl (OpVal.eql rfl rfl rfl) rfl rfl ?_
          refine TL.v rfl (OpVal.pickTB rfl rfl rfl) rfl rfl ?_
          refine TL.v rfl (OpVal.moveB (.inr rfl) rfl) rfl rfl ?_
          refine TL.nil ?_
          refine S.n ?_
          refine TC.ofSub (Sub.pre 0 rfl) ?_
          refine TC.back ?_
          refine TC.ret ?_
          refine S.r ?_
          obtain rfl := Option.some.inj hh
          exact RetOk.mk' (rs := [.tmp 6]) [] rfl (.inl rfl) (RVs.tmp rfl RVs.nil) (List.sublist_append_left _ _) ⟨rfl, rfl, rfl⟩
        · replace hh := iteO_f h109 hh
          refine TL.goff rfl rfl rfl rfl rfl rfl rfl rfl ?_
          refine TL.goff rfl rfl rfl rfl rfl rfl rfl rfl ?_
          refine TL.goff rfl rfl rfl rfl rfl rfl rfl rfl ?_
          refine TL.goff rfl rfl rfl rfl rfl rfl rfl rfl ?_
          refine TL.v rfl (OpVal.pickFB rfl rfl rfl) rfl rfl ?_
          refine TL.v rfl (OpVal.moveB (.inr rfl) rfl) rfl rfl ?_
          refine TL.nil ?_
          refine S.n ?_
          refine TC.ofSub (Sub.pre 0 rfl) ?_
          refine TC.back ?_
          refine TC.ret ?_
          refine S.r ?_
          obtain rfl := Option.some.inj hh
          exact RetOk.mk' (rs := [.tmp 6]) [] rfl (.inl rfl) (RVs.tmp rfl RVs.nil) (List.sublist_append_left _ _) ⟨rfl, rfl, rfl⟩
      · replace hh := iteO_f h108 hh
        replace h108 := of_decide_eq_false h108
        refine TC.skip ?_
        refine S.n ?_
        refine TC.seq ?_
        refine TC.region ?_
        refine TL.v rfl (OpVal.loadAll rfl ag25 sz25 rfl (i := 0) rfl rfl) rfl rfl ?_
        obtain ⟨v31, u31, hh⟩ := bnd_e hh
        refine TL.op rfl (OpOk.call (fst_Sort_con (x0 := v13.1) hr105_0 hr105_1 hr105_2 u31) rfl rfl pf16 rfl rfl rfl rfl ?_)
        rintro _ τ110 _ hle110 ⟨a110_1, c110_1, a110_2, c110_2, a110_3, c110_3, rfl, hr110_0, hr110_1, hr110_2, rfl⟩
        replace f0_0 := f0_0.mono hle110
        replace f0_1 := f0_1.mono hle110
        replace f0_2 := f0_2.mono hle110
        replace hr105_0 := hr105_0.mono hle110
        replace hr105_1 := hr105_1.mono hle110
        replace hr105_2 := hr105_2.mono hle110
        have hr110_0b := hr110_0.rv.big
        have hr110_1b := hr110_1.rv.big
        have hr110_2b := hr110_2.rv.big
        refine TL.v rfl (OpVal.moveT (.inl rfl) rfl) rfl rfl ?_
        refine TL.v rfl (OpVal.extract rfl rfl rfl) rfl rfl ?_
        refine TL.v rfl (OpVal.extract rfl rfl rfl) rfl rfl ?_
        refine TL.op rfl (OpOk.alloc rfl ze25 rfl rfl (fun b111 => ?_))
        refine TL.op rfl (OpOk.storeAll rfl sz25 rfl rfl rfl rfl rfl rfl ?_)
        refine TL.v rfl (OpVal.moveI (.inr rfl) rfl) rfl rfl ?_
        refine TL.nil ?_
        refine S.n ?_
        refine TC.seq ?_
        refine TC.region ?_
        refine TL.v rfl (OpVal.loadAll rfl ag25 sz25 rfl (i := 2) rfl rfl) rfl rfl ?_
        refine TL.v rfl (OpVal.moveStr (.inl rfl) rfl) rfl rfl ?_
        obtain ⟨v40, u40, hh⟩ := bnd_e hh
        refine TL.op rfl (OpOk.call (fst_Outs_con (x0 := x0) f0_0 f0_1 f0_2 u40) rfl rfl pf8 rfl rfl rfl rfl ?_)
        rintro _ τ113 _ hle113 ⟨a113_1, c113_1, rfl, hr113_0, rfl⟩
        replace f0_0 := f0_0.mono hle113
        replace f0_1 := f0_1.mono hle113
        replace f0_2 := f0_2.mono hle113
        replace hr105_0 := hr105_0.mono hle113
        replace hr105_1 := hr105_1.mono hle113
        replace hr105_2 := hr105_2.mono hle113
        replace hr110_0 := hr110_0.mono hle113
        replace hr110_1 := hr110_1.mono hle113
        replace hr110_2 := hr110_2.mono hle113
        have hr113_0b := hr113_0.rv.big
        refine TL.v rfl (OpVal.moveT (.inl rfl) rfl) rfl rfl ?_
        refine TL.v rfl (OpVal.extract rfl rfl rfl) rfl rfl ?_
        refine TL.v rfl (OpVal.extract rfl rfl rfl) rfl rfl ?_
        refine TL.v rfl (OpVal.moveSl (.inr rfl) rfl) rfl rfl ?_
        refine TL.v rfl (OpVal.moveI (.inr rfl) rfl) rfl rfl ?_
        refine TL.nil ?_
        refine S.n ?_
        refine TC.seq ?_
        refine TC.region ?_
        refine TL.v rfl (OpVal.loadAll rfl ag25 sz25 rfl (i := 1) rfl rfl) rfl rfl ?_
        refine TL.v rfl (OpVal.moveStr (.inl rfl) rfl) rfl rfl ?_
        obtain ⟨v48, u48, hh⟩ := bnd_e hh
        refine TL.op rfl (OpOk.call (fst_Outs_con (x0 := v13.1) hr105_0 hr105_1 hr105_2 u48) rfl rfl pf8 rfl rfl rfl rfl ?_)
        rintro _ τ114 _ hle114 ⟨a114_1, c114_1, rfl, hr114_0, rfl⟩
        replace f0_0 := f0_0.mono hle114
        replace f0_1 := f0_1.mono hle114
        replace f0_2 := f0_2.mono hle114
        replace hr105_0 := hr105_0.mono hle114
        replace hr105_1 := hr105_1.mono hle114
        replace hr105_2 := hr105_2.mono hle114
        replace hr110_0 := hr110_0.mono hle114
        replace hr110_1 := hr110_1.mono hle114
        replace hr110_2 := hr110_2.mono hle114
        replace hr113_0 := hr113_0.mono hle114
        have hr114_0b := hr114_0.rv.big
        refine TL.v rfl (OpVal.moveT (.inl rfl) rfl) rfl rfl ?_
        refine TL.v rfl (OpVal.extract rfl rfl rfl) rfl rfl ?_
        refine TL.v rfl (OpVal.extract rfl rfl rfl) rfl rfl ?_
        refine TL.v rfl (OpVal.moveSl (.inr rfl) rfl) rfl rfl ?_
        refine TL.v rfl (OpVal.moveI (.inr rfl) rfl) rfl rfl ?_
        refine TL.nil ?_
        refine S.n ?_
        refine TC.seq ?_
        refine TC.seq ?_
        refine TC.region ?_
        refine TL.v rfl (OpVal.moveI (.inl rfl) rfl) rfl rfl ?_
        refine TL.v rfl (OpVal.neq rfl rfl rfl) rfl rfl ?_
        refine TL.v rfl (OpVal.moveB (.inl rfl) rfl) rfl rfl ?_
        refine TL.split 59 rfl (fun h115 => ?_) (fun h115 => ?_)
        · replace hh := iteO_t h115 hh
          replace h115 := of_decide_eq_true h115
          refine TL.goff rfl rfl rfl rfl rfl rfl rfl rfl ?_
          refine TL.goff rfl rfl rfl rfl rfl rfl rfl rfl ?_
          refine TL.goff rfl rfl rfl rfl rfl rfl rfl rfl ?_
          refine TL.goff rfl rfl rfl rfl rfl rfl rfl rfl ?_
          refine TL.v rfl (OpVal.pickTB rfl rfl rfl) rfl rfl ?_
          refine TL.v rfl (OpVal.moveB (.inl rfl) rfl) rfl rfl ?_
          refine TL.goff rfl rfl rfl rfl rfl rfl rfl rfl ?_
          refine TL.goff rfl rfl rfl rfl rfl rfl rfl rfl ?_
          refine TL.goff rfl rfl rfl rfl rfl rfl rfl rfl ?_
          refine TL.v rfl (OpVal.pickTB rfl rfl rfl) rfl rfl ?_
          refine TL.v rfl (OpVal.moveB (.inl rfl) rfl) rfl rfl ?_
          refine TL.goff rfl rfl rfl rfl rfl rfl rfl rfl ?_
          refine TL.goff rfl rfl rfl rfl rfl rfl rfl rfl ?_
          refine TL.goff rfl rfl rfl rfl rfl rfl rfl rfl ?_
          refine TL.goff rfl rfl rfl rfl rfl rfl rfl rfl ?_
          refine TL.v rfl (OpVal.pickTB rfl rfl rfl) rfl rfl ?_
          refine TL.nil ?_
          refine S.n ?_
          refine TC.cond rfl (fun _ => ?_) (fun h => Bool.noConfusion h)
          refine TC.seq ?_
          refine TC.region ?_
          refine TL.v rfl (OpVal.moveB (.inr rfl) rfl) rfl rfl ?_
          refine TL.nil ?_
          refine S.n ?_
          refine TC.ofSub (Sub.pre 0 rfl) ?_
          refine TC.back ?_
          refine TC.ret ?_
          refine S.r ?_
          obtain rfl := Option.some.inj hh
          exact RetOk.mk' (rs := [.tmp 6]) [] rfl (.inl rfl) (RVs.tmp rfl RVs.nil) (List.sublist_append_left _ _) ⟨rfl, rfl, rfl⟩
        · replace hh := iteO_f h115 hh
          replace h115 := of_decide_eq_false h115
          refine TL.gv rfl rfl rfl rfl rfl (OpVal.loadAll rfl ag25 sz25 rfl (i := 1) rfl rfl) rfl rfl ?_
          refine TL.gv rfl rfl rfl rfl rfl (OpVal.loadAll rfl ag25 sz25 rfl (i := 0) rfl rfl) rfl rfl ?_
          obtain ⟨v59, u59, hh⟩ := bnd_e hh
          refine TL.gon rfl rfl rfl rfl rfl (OpOk.callP (whittleref15_Same_con (x0 := v13.1) (x1 := v31.1) hr105_0 hr105_1 hr105_2 hr110_0 hr110_1 hr110_2 u59) rfl rfl pf17 rfl rfl rfl ?_)
          refine TL.gv rfl rfl rfl rfl rfl (OpVal.not rfl rfl) rfl rfl ?_
          refine TL.v rfl (OpVal.pickFB rfl rfl rfl) rfl rfl ?_
          refine TL.v rfl (OpVal.moveB (.inl rfl) rfl) rfl rfl ?_
          refine TL.split 65 rfl (fun h116 => ?_) (fun h116 => ?_)
          · replace hh := iteO_t h116 hh
            refine TL.goff rfl rfl rfl rfl rfl rfl rfl rfl ?_
            refine TL.goff rfl rfl rfl rfl rfl rfl rfl rfl ?_
            refine TL.goff rfl rfl rfl rfl rfl rfl rfl rfl ?_
            refine TL.v rfl (OpVal.pickTB rfl rfl rfl) rfl rfl ?_
            refine TL.v rfl (OpVal.moveB (.inl rfl) rfl) rfl rfl ?_
            refine TL.goff rfl rfl rfl rfl rfl rfl rfl rfl ?_
            refine TL.goff rfl rfl rfl rfl rfl rfl rfl rfl ?_
            refine TL.goff rfl rfl rfl rfl rfl rfl rfl rfl ?_
            refine TL.goff rfl rfl rfl rfl rfl rfl rfl rfl ?_
            refine TL.v rfl (OpVal.pickTB rfl rfl rfl) rfl rfl ?_
            refine TL.nil ?_
            refine S.n ?_
            refine TC.cond rfl (fun _ => ?_) (fun h => Bool.noConfusion h)
            refine TC.seq ?_
            refine TC.region ?_
            refine TL.v rfl (OpVal.moveB (.inr rfl) rfl) rfl rfl ?_
            refine TL.nil ?_
            refine S.n ?_
            refine TC.ofSub (Sub.pre 0 rfl) ?_
            refine TC.back ?_
            refine TC.ret ?_
            refine S.r ?_
            obtain rfl := Option.some.inj hh
            exact RetOk.mk' (rs := [.tmp 6]) [] rfl (.inl rfl) (RVs.tmp rfl RVs.nil) (List.sublist_append_left _ _) ⟨rfl, rfl, rfl⟩
          · replace hh := iteO_f h116 hh
            refine TL.gv rfl rfl rfl rfl rfl (OpVal.moveI (.inl rfl) rfl) rfl rfl ?_
            refine TL.gv rfl rfl rfl rfl rfl (OpVal.moveI (.inl rfl) rfl) rfl rfl ?_
            refine TL.gv rfl rfl rfl rfl rfl (OpVal.neq rfl rfl rfl) rfl rfl ?_
            refine TL.v rfl (OpVal.pickFB rfl rfl rfl) rfl rfl ?_
            refine TL.v rfl (OpVal.moveB (.inl rfl) rfl) rfl rfl ?_
            refine TL.split 70 rfl (fun h117 => ?_) (fun h117 => ?_)
            · replace hh := iteO_t h117 hh
              replace h117 := of_decide_eq_true h117
              refine TL.goff rfl rfl rfl rfl rfl rfl rfl rfl ?_
              refine TL.goff rfl rfl rfl rfl rfl rfl rfl rfl ?_
              refine TL.goff rfl rfl rfl rfl rfl rfl rfl rfl ?_
              refine TL.goff rfl rfl rfl rfl rfl rfl rfl rfl ?_
              refine TL.v rfl (OpVal.pickTB rfl rfl rfl) rfl rfl ?_
              refine TL.nil ?_
              refine S.n ?_
              refine TC.cond rfl (fun _ => ?_) (fun h => Bool.noConfusion h)
              refine TC.seq ?_
              refine TC.region ?_
              refine TL.v rfl (OpVal.moveB (.inr rfl) rfl) rfl rfl ?_
              refine TL.nil ?_
              refine S.n ?_
              refine TC.ofSub (Sub.pre 0 rfl) ?_
              refine TC.back ?_
              refine TC.ret ?_
              refine S.r ?_
              obtain rfl := Option.some.inj hh
              exact RetOk.mk' (rs := [.tmp 6]) [] rfl (.inl rfl) (RVs.tmp rfl RVs.nil) (List.sublist_append_left _ _) ⟨rfl, rfl, rfl⟩
            · replace hh := iteO_f h117 hh
              replace h117 := of_decide_eq_false h117
              refine TL.gv rfl rfl rfl rfl rfl (OpVal.moveSl (.inl rfl) rfl) rfl rfl ?_
              refine TL.gv rfl rfl rfl rfl rfl (OpVal.moveSl (.inl rfl) rfl) rfl rfl ?_
              obtain ⟨v70, u70, hh⟩ := bnd_e hh
              refine TL.gon rfl rfl rfl rfl rfl (OpOk.callP (whittleref03_Texts_con hr113_0 hr114_0 u70) rfl rfl pf15 rfl rfl rfl ?_)
              refine TL.gv rfl rfl rfl rfl rfl (OpVal.not rfl rfl) rfl rfl ?_
              refine TL.v rfl (OpVal.pickFB rfl rfl rfl) rfl rfl ?_
              refine TL.nil ?_
              refine S.n ?_
              refine TC.cond rfl (fun h118 => ?_) (fun h118 => ?_)
              · replace hh := iteO_t h118 hh
                refine TC.seq ?_
                refine TC.region ?_
                refine TL.v rfl (OpVal.moveB (.inr rfl) rfl) rfl rfl ?_
                refine TL.nil ?_
                refine S.n ?_
                refine TC.ofSub (Sub.pre 0 rfl) ?_
                refine TC.back ?_
                refine TC.ret ?_
                refine S.r ?_
                obtain rfl := Option.some.inj hh
                exact RetOk.mk' (rs := [.tmp 6]) [] rfl (.inl rfl) (RVs.tmp rfl RVs.nil) (List.sublist_append_left _ _) ⟨rfl, rfl, rfl⟩
              · replace hh := iteO_f h118 hh
                refine TC.skip ?_
                refine S.n ?_
                refine TC.seq ?_
                refine TC.seq ?_
                refine TC.region ?_
                refine TL.v rfl (OpVal.moveI (.inl rfl) rfl) rfl rfl ?_
                refine TL.v rfl (OpVal.lss rfl rfl rfl) rfl rfl ?_
                refine TL.v rfl (OpVal.moveB (.inl rfl) rfl) rfl rfl ?_
                refine TL.split 78 rfl (fun h119 => ?_) (fun h119 => ?_)
                · replace hh := iteO_t h119 hh
                  replace h119 := of_decide_eq_true h119
                  refine TL.goff rfl rfl rfl rfl rfl rfl rfl rfl ?_
                  refine TL.goff rfl rfl rfl rfl rfl rfl rfl rfl ?_
                  refine TL.goff rfl rfl rfl rfl rfl rfl rfl rfl ?_
                  refine TL.goff rfl rfl rfl rfl rfl rfl rfl rfl ?_
                  refine TL.goff rfl rfl rfl rfl rfl rfl rfl rfl ?_
                  refine TL.v rfl (OpVal.pickTB rfl rfl rfl) rfl rfl ?_
                  refine TL.nil ?_
                  refine S.n ?_
                  refine TC.cond rfl (fun _ => ?_) (fun h => Bool.noConfusion h)
                  refine TC.seq ?_
                  refine TC.region ?_
                  obtain ⟨v83, u83, hh⟩ := bnd_e hh
                  refine TL.op rfl (OpOk.callP (whittlelaw15_awake_con u83) rfl rfl pf12 rfl rfl rfl ?_)
                  refine TL.v rfl (OpVal.moveB (.inr rfl) rfl) rfl rfl ?_
                  refine TL.nil ?_
                  refine S.n ?_
                  refine TC.ofSub (Sub.pre 0 rfl) ?_
                  refine TC.back ?_
                  refine TC.ret ?_
                  refine S.r ?_
                  obtain rfl := Option.some.inj hh
                  exact RetOk.mk' (rs := [.tmp 6]) [] rfl (.inl rfl) (RVs.tmp rfl RVs.nil) (List.sublist_append_left _ _) ⟨rfl, rfl, rfl⟩
                · replace hh := iteO_f h119 hh
                  replace h119 := of_decide_eq_false h119
                  refine TL.gv rfl rfl rfl rfl rfl (OpVal.moveI (.inl rfl) rfl) rfl rfl ?_
                  refine TL.gv rfl rfl rfl rfl rfl (OpVal.fieldLoc rfl fo25_3 rfl) rfl rfl ?_
                  refine TL.gv rfl rfl rfl rfl rfl (OpVal.loadLoc rfl ag23 rfl (i := 2) rfl rfl) rfl rfl ?_
                  refine TL.gv rfl rfl rfl rfl rfl (OpVal.lenC rfl Try.underlying23 rfl) rfl rfl ?_
                  refine TL.gv rfl rfl rfl rfl rfl (OpVal.geq rfl rfl rfl) rfl rfl ?_
                  refine TL.v rfl (OpVal.pickFB rfl rfl rfl) rfl rfl ?_
                  refine TL.nil ?_
                  refine S.n ?_
                  refine TC.cond rfl (fun h120 => ?_) (fun h120 => ?_)
                  · replace hh := iteO_t h120 hh
                    replace h120 := of_decide_eq_true h120
                    refine TC.seq ?_
                    refine TC.region ?_
                    obtain ⟨v83, u83, hh⟩ := bnd_e hh
                    refine TL.op rfl (OpOk.callP (whittlelaw15_awake_con u83) rfl rfl pf12 rfl rfl rfl ?_)
                    refine TL.v rfl (OpVal.moveB (.inr rfl) rfl) rfl rfl ?_
                    refine TL.nil ?_
                    refine S.n ?_
                    refine TC.ofSub (Sub.pre 0 rfl) ?_
                    refine TC.back ?_
                    refine TC.ret ?_
                    refine S.r ?_
                    obtain rfl := Option.some.inj hh
                    exact RetOk.mk' (rs := [.tmp 6]) [] rfl (.inl rfl) (RVs.tmp rfl RVs.nil) (List.sublist_append_left _ _) ⟨rfl, rfl, rfl⟩
                  · replace hh := iteO_f h120 hh
                    replace h120 := of_decide_eq_false h120
                    refine TC.skip ?_
                    refine S.n ?_
                    refine TC.seq ?_
                    refine TC.region ?_
                    refine TL.v rfl (OpVal.loadAll rfl ag25 sz25 rfl (i := 2) rfl rfl) rfl rfl ?_
                    refine TL.op rfl (OpOk.alloc rfl ze25 rfl rfl (fun b121 => ?_))
                    refine TL.op rfl (OpOk.storeAll rfl sz25 rfl rfl rfl rfl rfl rfl ?_)
                    refine TL.nil ?_
                    refine S.n ?_
                    refine TC.seq ?_
                    refine TC.region ?_
                    refine TL.v rfl (OpVal.fieldLoc rfl fo25_3 rfl) rfl rfl ?_
                    refine TL.v rfl (OpVal.loadLoc rfl ag23 rfl (i := 3) rfl rfl) rfl rfl ?_
                    refine TL.v rfl (OpVal.moveI (.inl rfl) rfl) rfl rfl ?_
                    have u91 := grd_c hh
                    replace hh := grd_t hh
                    refine TL.v rfl (OpVal.index rfl Try.underlying23 sz41 rfl rfl f0_2.rv.sl u91.1 u91.2) rfl rfl ?_
                    refine TL.v rfl (OpVal.loadSA Arc.zero rfl ag41 sz41 rfl f0_2 (by omega) (by omega)) rfl rfl ?_
                    refine TL.op rfl (OpOk.lit (enc := encArc) [(nth x0.arcs x2.toNat Arc.zero)] rfl Try.underlying23 sz41 ze41 rfl rfl rfl encArc_len (by decide) (by decide) Arc.zero rfl (by decide) rfl (by decide) encArc_one (fun a123 c124 => ?_))
                    refine TL.v rfl (OpVal.fieldLoc rfl fo25_3 rfl) rfl rfl ?_
                    refine TL.front 1 rfl rfl ?_
                    refine TL.op rfl (OpOk.storeSl rfl sz23 rfl rfl rfl rfl rfl ?_)
                    refine TL.nil ?_
                    refine S.n ?_
                    refine TC.seq ?_
                    refine TC.region ?_
                    refine TL.v rfl (OpVal.fieldLoc rfl fo25_3 rfl) rfl rfl ?_
                    refine TL.v rfl (OpVal.loadLoc rfl ag23 rfl (i := 0) rfl rfl) rfl rfl ?_
                    refine TL.v rfl (OpVal.fieldLoc rfl fo25_3 rfl) rfl rfl ?_
                    refine TL.v rfl (OpVal.loadLoc rfl ag23 rfl (i := 4) rfl rfl) rfl rfl ?_
                    refine TL.front 1 rfl rfl ?_
                    have u100 := grd_c hh
                    replace hh := grd_t hh
                    refine TL.op rfl (OpOk.appendS rfl rfl Try.underlying23 sz41 by41 ze41 rfl rfl (by decide) rfl rfl rfl (.inl f0_2) (by simpa using u100) (by decide) (fun a126 c127 => ?_))
                    refine TL.v rfl (OpVal.fieldLoc rfl fo25_3 rfl) rfl rfl ?_
                    refine TL.front 1 rfl rfl ?_
                    refine TL.op rfl (OpOk.storeSl rfl sz23 rfl rfl rfl rfl rfl ?_)
                    refine TL.nil ?_
                    refine S.n ?_
                    refine TC.seq ?_
                    refine TC.region ?_
                    refine TL.v rfl (OpVal.loadAll rfl ag25 sz25 rfl (i := 0) rfl rfl) rfl rfl ?_
                    refine TL.front 1 rfl rfl ?_
                    refine TL.sealS encArc_len (fun τ130 hle129 hr128 => ?_)
                    replace f0_0 := f0_0.mono hle129
                    replace f0_1 := f0_1.mono hle129
                    replace f0_2 := f0_2.mono hle129
                    replace hr105_0 := hr105_0.mono hle129
                    replace hr105_1 := hr105_1.mono hle129
                    replace hr105_2 := hr105_2.mono hle129
                    replace hr110_0 := hr110_0.mono hle129
                    replace hr110_1 := hr110_1.mono hle129
                    replace hr110_2 := hr110_2.mono hle129
                    replace hr113_0 := hr113_0.mono hle129
                    replace hr114_0 := hr114_0.mono hle129
                    have hr128b := hr128.rv.big
                    obtain ⟨v104, u104, hh⟩ := bnd_e hh
                    refine TL.op rfl (OpOk.call (fst_Sort_con (x0 := (⟨x0.states, x0.starts, x0.ends, ([(nth x0.arcs x2.toNat Arc.zero)] ++ x0.arcs)⟩ : Fst)) f0_0 f0_1 hr128 u104) rfl rfl pf16 rfl rfl rfl rfl ?_)
                    rintro _ τ131 _ hle131 ⟨a131_1, c131_1, a131_2, c131_2, a131_3, c131_3, rfl, hr131_0, hr131_1, hr131_2, rfl⟩
                    replace f0_0 := f0_0.mono hle131
                    replace f0_1 := f0_1.mono hle131
                    replace f0_2 := f0_2.mono hle131
                    replace hr105_0 := hr105_0.mono hle131
                    replace hr105_1 := hr105_1.mono hle131
                    replace hr105_2 := hr105_2.mono hle131
                    replace hr110_0 := hr110_0.mono hle131
                    replace hr110_1 := hr110_1.mono hle131
                    replace hr110_2 := hr110_2.mono hle131
                    replace hr113_0 := hr113_0.mono hle131
                    replace hr114_0 := hr114_0.mono hle131
                    replace hr128 := hr128.mono hle131
                    have hr131_0b := hr131_0.rv.big
                    have hr131_1b := hr131_1.rv.big
                    have hr131_2b := hr131_2.rv.big
                    refine TL.v rfl (OpVal.moveT (.inl rfl) rfl) rfl rfl ?_
                    refine TL.v rfl (OpVal.extract rfl rfl rfl) rfl rfl ?_
                    refine TL.v rfl (OpVal.extract rfl rfl rfl) rfl rfl ?_
                    refine TL.op rfl (OpOk.alloc rfl ze25 rfl rfl (fun b132 => ?_))
                    refine TL.op rfl (OpOk.storeAll rfl sz25 rfl rfl rfl rfl rfl rfl ?_)
                    refine TL.v rfl (OpVal.moveI (.inr rfl) rfl) rfl rfl ?_
                    refine TL.nil ?_
                    refine S.n ?_
                    refine TC.seq ?_
                    refine TC.region ?_
                    obtain ⟨v111, u111, hh⟩ := bnd_e hh
                    refine TL.op rfl (OpOk.callP (whittlelaw15_awake_con u111) rfl rfl pf12 rfl rfl rfl ?_)
                    refine TL.v rfl (OpVal.moveB (.inl rfl) rfl) rfl rfl ?_
                    refine TL.split 106 rfl (fun h134 => ?_) (fun h134 => ?_)
                    · replace hh := iteO_t h134 hh
                      refine TL.gv rfl rfl rfl rfl rfl (OpVal.moveI (.inl rfl) rfl) rfl rfl ?_
                      refine TL.gv rfl rfl rfl rfl rfl (OpVal.eql rfl rfl rfl) rfl rfl ?_
                      refine TL.v rfl (OpVal.pickTB rfl rfl rfl) rfl rfl ?_
                      refine TL.v rfl (OpVal.moveB (.inl rfl) rfl) rfl rfl ?_
                      refine TL.split 110 rfl (fun h135 => ?_) (fun h135 => ?_)
                      · replace hh := iteO_t h135 hh
                        replace h135 := of_decide_eq_true h135
                        refine TL.gv rfl rfl rfl rfl rfl (OpVal.loadAll rfl ag25 sz25 rfl (i := 0) rfl rfl) rfl rfl ?_
                        refine TL.gv rfl rfl rfl rfl rfl (OpVal.loadAll rfl ag25 sz25 rfl (i := 3) rfl rfl) rfl rfl ?_
                        obtain ⟨v119, u119, hh⟩ := bnd_e hh
                        refine TL.gon rfl rfl rfl rfl rfl (OpOk.callP (whittleref15_Same_con (x0 := v104.1) (x1 := v13.1) hr131_0 hr131_1 hr131_2 hr105_0 hr105_1 hr105_2 u119) rfl rfl pf17 rfl rfl rfl ?_)
                        refine TL.v rfl (OpVal.pickTB rfl rfl rfl) rfl rfl ?_
                        refine TL.v rfl (OpVal.moveB (.inr rfl) rfl) rfl rfl ?_
                        refine TL.nil ?_
                        refine S.n ?_
                        refine TC.ofSub (Sub.pre 0 rfl) ?_
                        refine TC.back ?_
                        refine TC.ret ?_
                        obtain rfl := Option.some.inj hh
                        exact RetOk.mk' (rs := [.tmp 6]) [] rfl (.inl rfl) (RVs.tmp rfl RVs.nil) (List.sublist_append_left _ _) ⟨rfl, rfl, rfl⟩
                      · replace hh := iteO_f h135 hh
                        replace h135 := of_decide_eq_false h135
                        refine TL.goff rfl rfl rfl rfl rfl rfl rfl rfl ?_
                        refine TL.goff rfl rfl rfl rfl rfl rfl rfl rfl ?_
                        refine TL.goff rfl rfl rfl rfl rfl rfl rfl rfl ?_
                        refine TL.v rfl (OpVal.pickFB rfl rfl rfl) rfl rfl ?_
                        refine TL.v rfl (OpVal.moveB (.inr rfl) rfl) rfl rfl ?_
                        refine TL.nil ?_
                        refine S.n ?_
                        refine TC.ofSub (Sub.pre 0 rfl) ?_
                        refine TC.back ?_
                        refine TC.ret ?_
                        obtain rfl := Option.some.inj hh
                        exact RetOk.mk' (rs := [.tmp 6]) [] rfl (.inl rfl) (RVs.tmp rfl RVs.nil) (List.sublist_append_left _ _) ⟨rfl, rfl, rfl⟩
                    · replace hh := iteO_f h134 hh
                      refine TL.goff rfl rfl rfl rfl rfl rfl rfl rfl ?_
                      refine TL.goff rfl rfl rfl rfl rfl rfl rfl rfl ?_
                      refine TL.v rfl (OpVal.pickFB rfl rfl rfl) rfl rfl ?_
                      refine TL.v rfl (OpVal.moveB (.inl rfl) rfl) rfl rfl ?_
                      refine TL.goff rfl rfl rfl rfl rfl rfl rfl rfl ?_
                      refine TL.goff rfl rfl rfl rfl rfl rfl rfl rfl ?_
                      refine TL.goff rfl rfl rfl rfl rfl rfl rfl rfl ?_
                      refine TL.v rfl (OpVal.pickFB rfl rfl rfl) rfl rfl ?_
                      refine TL.v rfl (OpVal.moveB (.inr rfl) rfl) rfl rfl ?_
                      refine TL.nil ?_
                      refine S.n ?_
                      refine TC.ofSub (Sub.pre 0 rfl) ?_
                      refine TC.back ?_
                      refine TC.ret ?_
                      obtain rfl := Option.some.inj hh
                      exact RetOk.mk' (rs := [.tmp 6]) [] rfl (.inl rfl) (RVs.tmp rfl RVs.nil) (List.sublist_append_left _ _) ⟨rfl, rfl, rfl⟩

end Go.Proofs.Ytpijipnmfkehcaa
