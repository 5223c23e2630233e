/- Decompiled: the reference's Outs. -/
import Derived.Test.YtpijipnmfkehcaaF4
import Derived.Test.YtpijipnmfkehcaaData3
set_option linter.unusedVariables false
set_option linter.unusedSimpArgs false
namespace Go.Proofs.Ytpijipnmfkehcaa
open Go Go.E
set_option maxRecDepth 100000
private theorem ag22 : Go.E.aggOf Try.prog 22 = some false := by kernel_rfl
private theorem ag25 : Go.E.aggOf Try.prog 25 = some true := by kernel_rfl
private theorem ag57 : Go.E.aggOf Try.prog 57 = some true := by kernel_rfl
private theorem ag9 : Go.E.aggOf Try.prog 9 = some false := by kernel_rfl
private theorem ag90 : Go.E.aggOf Try.prog 90 = some false := by kernel_rfl
private theorem ag92 : Go.E.aggOf Try.prog 92 = some true := by kernel_rfl
private theorem by9 : Go.E.byOf Try.prog 9 = some 16 := by kernel_rfl
private theorem by92 : Go.E.byOf Try.prog 92 = some 96 := by kernel_rfl
private theorem fo25_1 : Go.E.foOf Try.prog 25 1 = some 1 := by kernel_rfl
private theorem fo25_2 : Go.E.foOf Try.prog 25 2 = some 2 := by kernel_rfl
private theorem fo57_0 : Go.E.foOf Try.prog 57 0 = some 0 := by kernel_rfl
private theorem fo57_1 : Go.E.foOf Try.prog 57 1 = some 1 := by kernel_rfl
private theorem fo92_0 : Go.E.foOf Try.prog 92 0 = some 0 := by kernel_rfl
private theorem fo92_1 : Go.E.foOf Try.prog 92 1 = some 1 := by kernel_rfl
private theorem fo92_3 : Go.E.foOf Try.prog 92 3 = some 6 := by kernel_rfl
private theorem pf106 : Go.E.plainF Try.prog 106 = true := by kernel_rfl
private theorem pf24 : Go.E.plainF Try.prog 24 = true := by kernel_rfl
private theorem pf25 : Go.E.plainF Try.prog 25 = true := by kernel_rfl
private theorem pf26 : Go.E.plainF Try.prog 26 = true := by kernel_rfl
private theorem pf27 : Go.E.plainF Try.prog 27 = true := by kernel_rfl
private theorem pf47 : Go.E.plainF Try.prog 47 = true := by kernel_rfl
private theorem pf64 : Go.E.plainF Try.prog 64 = true := by kernel_rfl
private theorem pf82 : Go.E.plainF Try.prog 82 = true := by kernel_rfl
private theorem pl92 : Go.E.plOf Try.prog 92 = some #[(0, 1), (1, 1), (2, 4), (6, 1), (7, 1), (8, 1)] := by kernel_rfl
private theorem sz25 : Go.E.szOf Try.prog 25 = some 4 := by kernel_rfl
private theorem sz57 : Go.E.szOf Try.prog 57 = some 2 := by kernel_rfl
private theorem sz9 : Go.E.szOf Try.prog 9 = some 1 := by kernel_rfl
private theorem sz90 : Go.E.szOf Try.prog 90 = some 1 := by kernel_rfl
private theorem sz92 : Go.E.szOf Try.prog 92 = some 9 := by kernel_rfl
private theorem ze9 : Go.E.zeroOf Try.prog 9 = some (.string ByteArray.empty) := by kernel_rfl
private theorem ze92 : Go.E.zeroOf Try.prog 92 = some (.agg #[.int .i64 0, .string ByteArray.empty, .int .u64 0, .int .u64 0, .int .u64 0, .int .u64 0, .slice none 0 0, .int .i64 0, .int .i64 0]) := by kernel_rfl

noncomputable def whittleref09_in_b1 (x1 : List (List UInt8)) (x0 : List UInt8) (k103 : Nat) : Option ((Nat) ⊕ (Bool)) :=
  iteO (decide (((k103 : Nat) : Int) < ((x1.length : Nat) : Int))) (iteO (decide ((nth x1 k103 ([] : List UInt8)) = x0)) (fin (some true)) (nxt (k103 + 1))) (fin (some false))
noncomputable def whittleref09_in (x0 : List UInt8) (x1 : List (List UInt8)) : Option (Bool) :=
  grd (x0.length ≤ 281474976710656) (iter (fun q : Nat => whittleref09_in_b1 x1 x0 q) 0)
theorem whittleref09_in_con {σ : Store} {x0 : List UInt8} {x1 : List (List UInt8)} {a1_0 : Option Addr} {c1_0 : Nat} (f1_0 : RS σ 1 encS (.slice a1_0 x1.length c1_0) x1) {r : Bool} (hh : whittleref09_in x0 x1 = some r) :
    Con Try.prog 106 #[.string (bs x0), .slice a1_0 x1.length c1_0] σ [] (PureP (.bool r) σ) := by
  dsimp only [whittleref09_in] at hh
  have f1_0b := f1_0.rv.big
  refine Con.mk (n := 18) Try.func106 rfl rfl rfl (fun w0 => ?_)
  have x0b := grd_c hh
  replace hh := grd_t hh
  refine TC.seq ?_
  refine TC.region ?_
  refine TL.v rfl (OpVal.moveB (.inr rfl) rfl) rfl rfl ?_
  refine TL.nil ?_
  refine S.n ?_
  refine TC.seq ?_
  refine TC.seq ?_
  refine TC.region ?_
  refine TL.v rfl (OpVal.moveI (.inr rfl) rfl) rfl rfl ?_
  refine TL.nil ?_
  refine S.n ?_
  refine TC.block ?_
  refine TC.loopG (α := (Nat) × (Unit)) [4, 5, 6, 7, 8, 9, 10, 11, 12, 13, 14, 15, 16, 17] (fun g => [(5, .int .i64 ((g.1 : Nat) : Int))]) (fun g => []) (fun g => σ) (fun g => iter (fun q : Nat => whittleref09_in_b1 x1 x0 q) g.1 = some r) (fun g => rounds (fun q : Nat => whittleref09_in_b1 x1 x0 q) g.1) (0, ()) (Sub.pre 0 rfl) rfl (by repeat (first | exact trivial | refine ⟨rfl, ?_⟩)) hh (fun g1 j1 hg1 => ?_)
  obtain ⟨k103, _⟩ := g1
  have hh := hg1; clear hg1
  show TC _ _ _ (upds (mask _ j1 _) [(5, .int .i64 ((k103 : Nat) : Int))]) _ []
  obtain ⟨z1, hh, hR1⟩ := iter_e hh
  dsimp only [whittleref09_in_b1] at hh
  refine TC.seq ?_
  refine TC.seq ?_
  refine TC.region ?_
  refine TL.v rfl (OpVal.moveI (.inl rfl) rfl) rfl rfl ?_
  refine TL.v rfl (OpVal.moveSl (.inl rfl) rfl) rfl rfl ?_
  refine TL.v rfl (OpVal.lenC rfl Try.underlying27 rfl) rfl rfl ?_
  refine TL.v rfl (OpVal.lss rfl rfl rfl) rfl rfl ?_
  refine TL.nil ?_
  refine S.n ?_
  refine TC.cond rfl (fun h104 => ?_) (fun h104 => ?_)
  · replace hh := iteO_t h104 hh
    replace h104 := of_decide_eq_true h104
    refine TC.skip ?_
    refine S.n ?_
    refine TC.seq ?_
    refine TC.block ?_
    refine TC.seq ?_
    refine TC.region ?_
    refine TL.v rfl (OpVal.moveSl (.inl rfl) rfl) rfl rfl ?_
    refine TL.v rfl (OpVal.moveI (.inl rfl) rfl) rfl rfl ?_
    refine TL.v rfl (OpVal.indexN rfl Try.underlying27 sz9 rfl rfl f1_0.rv.sl (by omega)) rfl rfl ?_
    refine TL.v rfl (OpVal.loadS1 ([] : List UInt8) rfl ag9 rfl f1_0 (by omega) rfl) rfl rfl ?_
    refine TL.v rfl (OpVal.moveStr (.inl rfl) rfl) rfl rfl ?_
    refine TL.v rfl (OpVal.eqlBs rfl rfl rfl) rfl rfl ?_
    refine TL.nil ?_
    refine S.n ?_
    refine TC.cond rfl (fun h105 => ?_) (fun h105 => ?_)
    · replace hh := iteO_t h105 hh
      replace h105 := of_decide_eq_true h105
      refine TC.seq ?_
      refine TC.region ?_
      refine TL.v rfl (OpVal.moveB (.inr rfl) rfl) rfl rfl ?_
      refine TL.nil ?_
      refine S.n ?_
      refine TC.ret ?_
      refine B.r ?_
      refine S.r ?_
      refine S.r ?_
      replace hh := fin_x hR1 hh
      refine B.r ?_
      refine S.r ?_
      obtain rfl := Option.some.inj hh
      exact RetOk.mk' (rs := [.tmp 4]) [] rfl (.inl rfl) (RVs.tmp rfl RVs.nil) (List.sublist_append_left _ _) ⟨rfl, rfl, rfl⟩
    · replace hh := iteO_f h105 hh
      replace h105 := of_decide_eq_false h105
      refine TC.skip ?_
      refine B.n ?_
      refine S.n ?_
      refine TC.region ?_
      refine TL.v rfl (OpVal.moveI (.inl rfl) rfl) rfl rfl ?_
      refine TL.v rfl (OpVal.succ rfl rfl rfl (by omega)) rfl rfl ?_
      refine TL.v rfl (OpVal.moveI (.inr rfl) rfl) rfl rfl ?_
      refine TL.nil ?_
      refine S.n ?_
      obtain ⟨hh, hlt106⟩ := nxt_x hR1 hh
      refine ⟨by repeat (first | exact Agr.refl _ _ | exact Agr.mask | refine Agr.upd rfl ?_ | refine Agr.maskIn rfl ?_ | refine Agr.upds rfl ?_), ((k103 + 1), ()), hlt106, hh, by repeat (first | exact trivial | refine ⟨rfl, ?_⟩), Sub.pre 0 rfl, rfl⟩
  · replace hh := iteO_f h104 hh
    replace h104 := of_decide_eq_false h104
    refine TC.exit ?_
    refine S.x ?_
    refine S.x ?_
    replace hh := fin_x hR1 hh
    refine TC.exitHere ?_
    refine S.n ?_
    refine TC.seq ?_
    refine TC.region ?_
    refine TL.v rfl (OpVal.moveB (.inr rfl) rfl) rfl rfl ?_
    refine TL.nil ?_
    refine S.n ?_
    refine TC.ret ?_
    obtain rfl := Option.some.inj hh
    exact RetOk.mk' (rs := [.tmp 4]) [] rfl (.inl rfl) (RVs.tmp rfl RVs.nil) (List.sublist_append_left _ _) ⟨rfl, rfl, rfl⟩

noncomputable def whittleref09_add_j1 (x0 : List (List UInt8)) (k119 : Nat) (l123 : List (List UInt8)) (t126 : Bool) : Option (((List (List UInt8)) × Bool × Nat) ⊕ ((List (List UInt8)))) :=
  grd ((l123.length + [(nth x0 k119 ([] : List UInt8))].length) * 16 ≤ 140737488355328) (nxt ((l123 ++ [(nth x0 k119 ([] : List UInt8))]), t126, (k119 + 1)))
noncomputable def whittleref09_add_j2 (l141 : List (List UInt8)) : Option ((List (List UInt8))) :=
  some l141
noncomputable def whittleref09_add_b1 (x0 : List (List UInt8)) (x1 : List UInt8) (l115 : List (List UInt8)) (t118 : Bool) (k119 : Nat) : Option (((List (List UInt8)) × Bool × Nat) ⊕ ((List (List UInt8)))) :=
  iteO (decide (((k119 : Nat) : Int) < ((x0.length : Nat) : Int))) (iteO (!t118) (iteO (decide (Lib.compareBytes x1 (nth x0 k119 ([] : List UInt8)) < 0)) (grd ((l115.length + [x1].length) * 16 ≤ 140737488355328) (whittleref09_add_j1 x0 k119 (l115 ++ [x1]) true)) (whittleref09_add_j1 x0 k119 l115 t118)) (whittleref09_add_j1 x0 k119 l115 t118)) (fin (iteO (!t118) (grd ((l115.length + [x1].length) * 16 ≤ 140737488355328) (whittleref09_add_j2 (l115 ++ [x1]))) (whittleref09_add_j2 l115)))
noncomputable def whittleref09_add (x0 : List (List UInt8)) (x1 : List UInt8) : Option ((List (List UInt8))) :=
  grd (x1.length ≤ 281474976710656) (bnd (whittleref09_in x1 x0) (fun v4 => iteO v4 (some x0) (iter (fun q : (List (List UInt8)) × Bool × Nat => whittleref09_add_b1 x0 x1 q.1 q.2.1 q.2.2) (([] : List (List UInt8)), false, 0))))
def whittleref09_add_P (σ : Store) (r : (List (List UInt8))) : Value → Store → List Res → Prop := fun v σ' H' =>
  ∃ (a1 : Option Addr), ∃ (c1 : Nat),  v = .slice a1 r.length c1 ∧ RS σ' 1 encS (.slice a1 r.length c1) r ∧ H' = []
theorem whittleref09_add_con {σ : Store} {x0 : List (List UInt8)} {a0_0 : Option Addr} {c0_0 : Nat} {x1 : List UInt8} (f0_0 : RS σ 1 encS (.slice a0_0 x0.length c0_0) x0) {r : (List (List UInt8))} (hh : whittleref09_add x0 x1 = some r) :
    Con Try.prog 82 #[.slice a0_0 x0.length c0_0, .string (bs x1)] σ [] (whittleref09_add_P σ r) := by
  dsimp only [whittleref09_add] at hh
  have f0_0b := f0_0.rv.big
  refine Con.mk (n := 46) Try.func82 rfl rfl rfl (fun w0 => ?_)
  have x1b := grd_c hh
  replace hh := grd_t hh
  refine TC.seq ?_
  refine TC.region ?_
  refine TL.v rfl (OpVal.moveSl (.inr rfl) rfl) rfl rfl ?_
  refine TL.nil ?_
  refine S.n ?_
  refine TC.seq ?_
  refine TC.seq ?_
  refine TC.region ?_
  refine TL.v rfl (OpVal.moveStr (.inl rfl) rfl) rfl rfl ?_
  refine TL.v rfl (OpVal.moveSl (.inl rfl) rfl) rfl rfl ?_
  obtain ⟨v4, u4, hh⟩ := bnd_e hh
  refine TL.op rfl (OpOk.callP (whittleref09_in_con f0_0 u4) rfl rfl pf106 rfl rfl rfl ?_)
  refine TL.nil ?_
  refine S.n ?_
  refine TC.cond rfl (fun h101 => ?_) (fun h101 => ?_)
  · replace hh := iteO_t h101 hh
    refine TC.seq ?_
    refine TC.region ?_
    refine TL.v rfl (OpVal.moveSl (.inl rfl) rfl) rfl rfl ?_
    refine TL.v rfl (OpVal.moveSl (.inr rfl) rfl) rfl rfl ?_
    refine TL.nil ?_
    refine S.n ?_
    refine TC.ret ?_
    refine S.r ?_
    obtain rfl := Option.some.inj hh
    exact RetOk.mk' (rs := [.tmp 4]) [] rfl (.inl rfl) (RVs.tmp rfl RVs.nil) (List.sublist_append_left _ _) ⟨a0_0, c0_0, rfl, f0_0, rfl⟩
  · replace hh := iteO_f h101 hh
    refine TC.skip ?_
    refine S.n ?_
    refine TC.seq ?_
    refine TC.region ?_
    refine TL.v rfl (OpVal.moveSl (.inr rfl) rfl) rfl rfl ?_
    refine TL.nil ?_
    refine S.n ?_
    refine TC.seq ?_
    refine TC.region ?_
    refine TL.v rfl (OpVal.moveB (.inr rfl) rfl) rfl rfl ?_
    refine TL.nil ?_
    refine S.n ?_
    refine TC.seq ?_
    refine TC.seq ?_
    refine TC.region ?_
    refine TL.v rfl (OpVal.moveI (.inr rfl) rfl) rfl rfl ?_
    refine TL.nil ?_
    refine S.n ?_
    refine TC.block ?_
    refine TC.nilS 9 1 encS ?_
    refine TC.loopG (α := ((List (List UInt8)) × Bool × Nat) × ((Option Addr) × Nat)) [5, 6, 7, 12, 13, 14, 15, 16, 17, 18, 19, 20, 21, 22, 23, 24, 25, 26, 27, 28, 29, 30, 31, 32, 33, 34, 35, 36, 37, 38] (fun g => [(5, .slice g.2.1 g.1.1.length g.2.2), (6, .bool g.1.2.1), (7, .int .i64 ((g.1.2.2 : Nat) : Int))]) (fun g => [Res.rowS 9 1 encS (.slice g.2.1 g.1.1.length g.2.2) g.1.1]) (fun g => σ) (fun g => iter (fun q : (List (List UInt8)) × Bool × Nat => whittleref09_add_b1 x0 x1 q.1 q.2.1 q.2.2) g.1 = some r) (fun g => rounds (fun q : (List (List UInt8)) × Bool × Nat => whittleref09_add_b1 x0 x1 q.1 q.2.1 q.2.2) g.1) ((([] : List (List UInt8)), false, 0), (none, 0)) (Sub.pre 1 rfl) rfl (by repeat (first | exact trivial | refine ⟨rfl, ?_⟩)) hh (fun g1 j1 hg1 => ?_)
    obtain ⟨⟨l115, t118, k119⟩, ⟨a116, c117⟩⟩ := g1
    have hh := hg1; clear hg1
    show TC _ _ _ (upds (mask _ j1 _) [(5, .slice a116 l115.length c117), (6, .bool t118), (7, .int .i64 ((k119 : Nat) : Int))]) _ [Res.rowS 9 1 encS (.slice a116 l115.length c117) l115]
    obtain ⟨z1, hh, hR1⟩ := iter_e hh
    dsimp only [whittleref09_add_b1] at hh
    refine TC.isSl (i := 0) rfl (fun _ hb121 _ => ?_)
    refine TC.seq ?_
    refine TC.seq ?_
    refine TC.region ?_
    refine TL.v rfl (OpVal.moveI (.inl rfl) rfl) rfl rfl ?_
    refine TL.v rfl (OpVal.moveSl (.inl rfl) rfl) rfl rfl ?_
    refine TL.v rfl (OpVal.lenC rfl Try.underlying27 rfl) rfl rfl ?_
    refine TL.v rfl (OpVal.lss rfl rfl rfl) rfl rfl ?_
    refine TL.nil ?_
    refine S.n ?_
    refine TC.cond rfl (fun h122 => ?_) (fun h122 => ?_)
    · replace hh := iteO_t h122 hh
      replace h122 := of_decide_eq_true h122
      refine TC.skip ?_
      refine S.n ?_
      refine TC.seq ?_
      refine TC.block ?_
      refine TC.cutG (α := ((List (List UInt8)) × Bool) × ((Option Addr) × Nat)) [5, 6, 18, 19, 20, 21, 22, 23, 24, 25, 26, 27, 28, 29, 30, 31] (fun g => [(5, .slice g.2.1 g.1.1.length g.2.2), (6, .bool g.1.2)]) (fun g => [Res.rowS 9 1 encS (.slice g.2.1 g.1.1.length g.2.2) g.1.1]) (fun g => σ) (fun g => whittleref09_add_j1 x0 k119 g.1.1 g.1.2 = some z1) ?_ (fun g j hg => ?_)
      · skip
        refine TC.seq ?_
        refine TC.region ?_
        refine TL.v rfl (OpVal.moveB (.inl rfl) rfl) rfl rfl ?_
        refine TL.v rfl (OpVal.not rfl rfl) rfl rfl ?_
        refine TL.v rfl (OpVal.moveB (.inl rfl) rfl) rfl rfl ?_
        refine TL.split 20 rfl (fun h127 => ?_) (fun h127 => ?_)
        · replace hh := iteO_t h127 hh
          refine TL.gv rfl rfl rfl rfl rfl (OpVal.moveStr (.inl rfl) rfl) rfl rfl ?_
          refine TL.gv rfl rfl rfl rfl rfl (OpVal.moveSl (.inl rfl) rfl) rfl rfl ?_
          refine TL.gv rfl rfl rfl rfl rfl (OpVal.moveI (.inl rfl) rfl) rfl rfl ?_
          refine TL.gv rfl rfl rfl rfl rfl (OpVal.indexN rfl Try.underlying27 sz9 rfl rfl f0_0.rv.sl (by omega)) rfl rfl ?_
          refine TL.gv rfl rfl rfl rfl rfl (OpVal.loadS1 ([] : List UInt8) rfl ag9 rfl f0_0 (by omega) rfl) rfl rfl ?_
          refine TL.gv rfl rfl rfl rfl rfl (OpVal.lssBs rfl rfl rfl) rfl rfl ?_
          refine TL.v rfl (OpVal.pickTB rfl rfl rfl) rfl rfl ?_
          refine TL.nil ?_
          refine S.n ?_
          refine TC.cond rfl (fun h128 => ?_) (fun h128 => ?_)
          · replace hh := iteO_t h128 hh
            replace h128 := of_decide_eq_true h128
            refine TC.seq ?_
            refine TC.region ?_
            refine TL.v rfl (OpVal.moveSl (.inl rfl) rfl) rfl rfl ?_
            refine TL.v rfl (OpVal.moveStr (.inl rfl) rfl) rfl rfl ?_
            refine TL.op rfl (OpOk.lit (enc := encS) [x1] rfl Try.underlying27 sz9 ze9 rfl rfl rfl encS_len (by decide) (by decide) ([] : List UInt8) rfl (by decide) rfl (by decide) encS_one (fun a129 c130 => ?_))
            refine TL.front 1 rfl rfl ?_
            have u27 := grd_c hh
            replace hh := grd_t hh
            refine TL.op rfl (OpOk.appendS rfl rfl Try.underlying27 sz9 by9 ze9 rfl rfl (by decide) rfl rfl rfl (.inr ⟨_, 0, rfl⟩) (by simpa using u27) (by decide) (fun a132 c133 => ?_))
            refine TL.v rfl (OpVal.moveSl (.inr rfl) rfl) rfl rfl ?_
            refine TL.nil ?_
            refine S.n ?_
            refine TC.region ?_
            refine TL.v rfl (OpVal.moveB (.inr rfl) rfl) rfl rfl ?_
            refine TL.nil ?_
            refine S.n ?_
            refine ⟨by repeat (first | exact Agr.refl _ _ | exact Agr.mask | refine Agr.upd rfl ?_ | refine Agr.maskIn rfl ?_ | refine Agr.upds rfl ?_), (((l115 ++ [x1]), true), (a132, c133)), hh, by repeat (first | exact trivial | refine ⟨rfl, ?_⟩), Sub.pre 1 rfl, rfl⟩
          · replace hh := iteO_f h128 hh
            replace h128 := of_decide_eq_false h128
            refine TC.skip ?_
            refine S.n ?_
            refine ⟨by repeat (first | exact Agr.refl _ _ | exact Agr.mask | refine Agr.upd rfl ?_ | refine Agr.maskIn rfl ?_ | refine Agr.upds rfl ?_), ((l115, t118), (a116, c117)), hh, by repeat (first | exact trivial | refine ⟨rfl, ?_⟩), Sub.pre 1 rfl, rfl⟩
        · replace hh := iteO_f h127 hh
          refine TL.goff rfl rfl rfl rfl rfl rfl rfl rfl ?_
          refine TL.goff rfl rfl rfl rfl rfl rfl rfl rfl ?_
          refine TL.goff rfl rfl rfl rfl rfl rfl rfl rfl ?_
          refine TL.goff rfl rfl rfl rfl rfl rfl rfl rfl ?_
          refine TL.goff rfl rfl rfl rfl rfl rfl rfl rfl ?_
          refine TL.goff rfl rfl rfl rfl rfl rfl rfl rfl ?_
          refine TL.v rfl (OpVal.pickFB rfl rfl rfl) rfl rfl ?_
          refine TL.nil ?_
          refine S.n ?_
          refine TC.cond rfl (fun h => Bool.noConfusion h) (fun _ => ?_)
          refine TC.skip ?_
          refine S.n ?_
          refine ⟨by repeat (first | exact Agr.refl _ _ | exact Agr.mask | refine Agr.upd rfl ?_ | refine Agr.maskIn rfl ?_ | refine Agr.upds rfl ?_), ((l115, t118), (a116, c117)), hh, by repeat (first | exact trivial | refine ⟨rfl, ?_⟩), Sub.pre 1 rfl, rfl⟩
      · skip
        obtain ⟨⟨l123, t126⟩, ⟨a124, c125⟩⟩ := g
        have hh := hg; clear hg
        show TC _ _ _ (upds (mask _ j _) [(5, .slice a124 l123.length c125), (6, .bool t126)]) _ [Res.rowS 9 1 encS (.slice a124 l123.length c125) l123]
        dsimp only [whittleref09_add_j1] at hh
        refine TC.isSl (i := 0) rfl (fun _ hb134 _ => ?_)
        refine TC.region ?_
        refine TL.v rfl (OpVal.moveSl (.inl rfl) rfl) rfl rfl ?_
        refine TL.v rfl (OpVal.moveSl (.inl rfl) rfl) rfl rfl ?_
        refine TL.v rfl (OpVal.moveI (.inl rfl) rfl) rfl rfl ?_
        refine TL.v rfl (OpVal.indexN rfl Try.underlying27 sz9 rfl rfl f0_0.rv.sl (by omega)) rfl rfl ?_
        refine TL.v rfl (OpVal.loadS1 ([] : List UInt8) rfl ag9 rfl f0_0 (by omega) rfl) rfl rfl ?_
        refine TL.op rfl (OpOk.lit (enc := encS) [(nth x0 k119 ([] : List UInt8))] rfl Try.underlying27 sz9 ze9 rfl rfl rfl encS_len (by decide) (by decide) ([] : List UInt8) rfl (by decide) rfl (by decide) encS_one (fun a135 c136 => ?_))
        refine TL.front 1 rfl rfl ?_
        have u36 := grd_c hh
        replace hh := grd_t hh
        refine TL.op rfl (OpOk.appendS rfl rfl Try.underlying27 sz9 by9 ze9 rfl rfl (by decide) rfl rfl rfl (.inr ⟨_, 0, rfl⟩) (by simpa using u36) (by decide) (fun a138 c139 => ?_))
        refine TL.v rfl (OpVal.moveSl (.inr rfl) rfl) rfl rfl ?_
        refine TL.nil ?_
        refine B.n ?_
        refine S.n ?_
        refine TC.region ?_
        refine TL.v rfl (OpVal.moveI (.inl rfl) rfl) rfl rfl ?_
        refine TL.v rfl (OpVal.succ rfl rfl rfl (by omega)) rfl rfl ?_
        refine TL.v rfl (OpVal.moveI (.inr rfl) rfl) rfl rfl ?_
        refine TL.nil ?_
        refine S.n ?_
        obtain ⟨hh, hlt140⟩ := nxt_x hR1 hh
        refine ⟨by repeat (first | exact Agr.refl _ _ | exact Agr.mask | refine Agr.upd rfl ?_ | refine Agr.maskIn rfl ?_ | refine Agr.upds rfl ?_), (((l123 ++ [(nth x0 k119 ([] : List UInt8))]), t126, (k119 + 1)), (a138, c139)), hlt140, hh, by repeat (first | exact trivial | refine ⟨rfl, ?_⟩), Sub.pre 1 rfl, rfl⟩
    · replace hh := iteO_f h122 hh
      replace h122 := of_decide_eq_false h122
      refine TC.exit ?_
      refine S.x ?_
      refine S.x ?_
      replace hh := fin_x hR1 hh
      refine TC.exitHere ?_
      refine S.n ?_
      refine TC.cutG (α := ((List (List UInt8))) × ((Option Addr) × Nat)) [5, 39, 40, 41, 42, 43, 44] (fun g => [(5, .slice g.2.1 g.1.length g.2.2)]) (fun g => [Res.rowS 9 1 encS (.slice g.2.1 g.1.length g.2.2) g.1]) (fun g => σ) (fun g => whittleref09_add_j2 g.1 = some r) ?_ (fun g j hg => ?_)
      · skip
        refine TC.seq ?_
        refine TC.region ?_
        refine TL.v rfl (OpVal.moveB (.inl rfl) rfl) rfl rfl ?_
        refine TL.v rfl (OpVal.not rfl rfl) rfl rfl ?_
        refine TL.nil ?_
        refine S.n ?_
        refine TC.cond rfl (fun h144 => ?_) (fun h144 => ?_)
        · replace hh := iteO_t h144 hh
          refine TC.region ?_
          refine TL.v rfl (OpVal.moveSl (.inl rfl) rfl) rfl rfl ?_
          refine TL.v rfl (OpVal.moveStr (.inl rfl) rfl) rfl rfl ?_
          refine TL.op rfl (OpOk.lit (enc := encS) [x1] rfl Try.underlying27 sz9 ze9 rfl rfl rfl encS_len (by decide) (by decide) ([] : List UInt8) rfl (by decide) rfl (by decide) encS_one (fun a145 c146 => ?_))
          refine TL.front 1 rfl rfl ?_
          have u46 := grd_c hh
          replace hh := grd_t hh
          refine TL.op rfl (OpOk.appendS rfl rfl Try.underlying27 sz9 by9 ze9 rfl rfl (by decide) rfl rfl rfl (.inr ⟨_, 0, rfl⟩) (by simpa using u46) (by decide) (fun a148 c149 => ?_))
          refine TL.v rfl (OpVal.moveSl (.inr rfl) rfl) rfl rfl ?_
          refine TL.nil ?_
          refine S.n ?_
          refine ⟨by repeat (first | exact Agr.refl _ _ | exact Agr.mask | refine Agr.upd rfl ?_ | refine Agr.maskIn rfl ?_ | refine Agr.upds rfl ?_), ((l115 ++ [x1]), (a148, c149)), hh, by repeat (first | exact trivial | refine ⟨rfl, ?_⟩), Sub.pre 1 rfl, rfl⟩
        · replace hh := iteO_f h144 hh
          refine TC.skip ?_
          refine S.n ?_
          refine ⟨by repeat (first | exact Agr.refl _ _ | exact Agr.mask | refine Agr.upd rfl ?_ | refine Agr.maskIn rfl ?_ | refine Agr.upds rfl ?_), (l115, (a116, c117)), hh, by repeat (first | exact trivial | refine ⟨rfl, ?_⟩), Sub.pre 1 rfl, rfl⟩
      · skip
        obtain ⟨l141, ⟨a142, c143⟩⟩ := g
        have hh := hg; clear hg
        show TC _ _ _ (upds (mask _ j _) [(5, .slice a142 l141.length c143)]) _ [Res.rowS 9 1 encS (.slice a142 l141.length c143) l141]
        dsimp only [whittleref09_add_j2] at hh
        refine TC.isSl (i := 0) rfl (fun _ hb150 _ => ?_)
        refine TC.seq ?_
        refine TC.region ?_
        refine TL.v rfl (OpVal.moveSl (.inl rfl) rfl) rfl rfl ?_
        refine TL.v rfl (OpVal.moveSl (.inr rfl) rfl) rfl rfl ?_
        refine TL.nil ?_
        refine S.n ?_
        refine TC.sealS encS_len (fun τ153 hle152 hr151 => ?_)
        replace f0_0 := f0_0.mono hle152
        have hr151b := hr151.rv.big
        refine TC.ret ?_
        obtain rfl := Option.some.inj hh
        exact RetOk.mk' (rs := [.tmp 4]) [] rfl (.inl rfl) (RVs.tmp rfl RVs.nil) (List.sublist_append_left _ _) ⟨a142, c143, rfl, hr151, rfl⟩

noncomputable def usesLeaf_b1 (l103 : List (List UInt8)) : Option ((Unit) ⊕ ((List (List UInt8)))) :=
  iteO (decide (0 < ((0 : Nat) : Int))) (none) (fin (some l103))
noncomputable def usesLeaf_j1 (l103 : List (List UInt8)) : Option ((List (List UInt8))) :=
  iter (fun q : Unit => usesLeaf_b1 l103) ()
noncomputable def usesLeaf (x0 : ReLeaf) (x1 : List (List UInt8)) : Option ((List (List UInt8))) :=
  iteO (decide (x0.kind = 3)) (bnd (whittleref09_add x1 x0.text) (fun v9 => usesLeaf_j1 v9)) (usesLeaf_j1 x1)
def usesLeaf_P (σ : Store) (r : (List (List UInt8))) : Value → Store → List Res → Prop := fun v σ' H' =>
  ∃ (a1 : Option Addr), ∃ (c1 : Nat),  v = .slice a1 r.length c1 ∧ RS σ' 1 encS (.slice a1 r.length c1) r ∧ H' = []
theorem usesLeaf_con {σ : Store} {x0 : ReLeaf} {x1 : List (List UInt8)} {a1_0 : Option Addr} {c1_0 : Nat} (f1_0 : RS σ 1 encS (.slice a1_0 x1.length c1_0) x1) {r : (List (List UInt8))} (hh : usesLeaf x0 x1 = some r) :
    Con Try.prog 64 #[.agg #[.int .i64 x0.kind, .string (bs x0.text), .int .u64 ((x0.set.a : Nat) : Int), .int .u64 ((x0.set.b : Nat) : Int), .int .u64 ((x0.set.c : Nat) : Int), .int .u64 ((x0.set.d : Nat) : Int), .slice none 0 0, .int .i64 x0.min, .int .i64 x0.max], .slice a1_0 x1.length c1_0] σ [] (usesLeaf_P σ r) := by
  dsimp only [usesLeaf] at hh
  have f1_0b := f1_0.rv.big
  refine Con.mk (n := 28) Try.func64 rfl rfl rfl (fun w0 => ?_)
  refine TC.seq ?_
  refine TC.region ?_
  refine TL.op rfl (OpOk.boxA rfl rfl rfl rfl (fun b101 => ?_))
  refine TL.v rfl (OpVal.moveSl (.inr rfl) rfl) rfl rfl ?_
  refine TL.nil ?_
  refine S.n ?_
  refine TC.cutG (α := ((List (List UInt8))) × ((Option Addr) × Nat × Store)) [1, 6, 7, 8, 9, 10, 11, 12] (fun g => [(1, .slice g.2.1 g.1.length g.2.2.1)]) (fun g => [Res.cells b101 #[.int .i64 x0.kind, .string (bs x0.text), .int .u64 ((x0.set.a : Nat) : Int), .int .u64 ((x0.set.b : Nat) : Int), .int .u64 ((x0.set.c : Nat) : Int), .int .u64 ((x0.set.d : Nat) : Int), .slice none 0 0, .int .i64 x0.min, .int .i64 x0.max] 92]) (fun g => g.2.2.2) (fun g => usesLeaf_j1 g.1 = some r ∧ RS g.2.2.2 1 encS (.slice g.2.1 g.1.length g.2.2.1) g.1 ∧ Store.le σ g.2.2.2) ?_ (fun g j hg => ?_)
  · skip
    refine TC.seq ?_
    refine TC.region ?_
    refine TL.v rfl (OpVal.fieldLoc rfl fo92_0 rfl) rfl rfl ?_
    refine TL.v rfl (OpVal.loadLoc rfl ag3 rfl (i := 0) rfl rfl) rfl rfl ?_
    refine TL.v rfl (OpVal.eql rfl rfl rfl) rfl rfl ?_
    refine TL.nil ?_
    refine S.n ?_
    refine TC.cond rfl (fun h107 => ?_) (fun h107 => ?_)
    · replace hh := iteO_t h107 hh
      replace h107 := of_decide_eq_true h107
      refine TC.region ?_
      refine TL.v rfl (OpVal.moveSl (.inl rfl) rfl) rfl rfl ?_
      refine TL.v rfl (OpVal.fieldLoc rfl fo92_1 rfl) rfl rfl ?_
      refine TL.v rfl (OpVal.loadLoc rfl ag9 rfl (i := 0) rfl rfl) rfl rfl ?_
      obtain ⟨v9, u9, hh⟩ := bnd_e hh
      refine TL.op rfl (OpOk.call (whittleref09_add_con f1_0 u9) rfl rfl pf82 rfl rfl rfl rfl ?_)
      rintro _ τ108 _ hle108 ⟨a108_1, c108_1, rfl, hr108_0, rfl⟩
      replace f1_0 := f1_0.mono hle108
      have hr108_0b := hr108_0.rv.big
      refine TL.v rfl (OpVal.moveSl (.inr rfl) rfl) rfl rfl ?_
      refine TL.nil ?_
      refine S.n ?_
      refine ⟨by repeat (first | exact Agr.refl _ _ | exact Agr.mask | refine Agr.upd rfl ?_ | refine Agr.maskIn rfl ?_ | refine Agr.upds rfl ?_), (v9, (a108_1, c108_1, τ108)), ⟨hh, hr108_0, hle108⟩, by repeat (first | exact trivial | refine ⟨rfl, ?_⟩), Sub.pre 1 rfl, rfl⟩
    · replace hh := iteO_f h107 hh
      replace h107 := of_decide_eq_false h107
      refine TC.skip ?_
      refine S.n ?_
      refine ⟨by repeat (first | exact Agr.refl _ _ | exact Agr.mask | refine Agr.upd rfl ?_ | refine Agr.maskIn rfl ?_ | refine Agr.upds rfl ?_), (x1, (a1_0, c1_0, σ)), ⟨hh, f1_0, (Store.le.refl _)⟩, by repeat (first | exact trivial | refine ⟨rfl, ?_⟩), Sub.pre 1 rfl, rfl⟩
  · skip
    obtain ⟨l103, ⟨a104, c105, τ109⟩⟩ := g
    obtain ⟨hh, hr106, hle110⟩ := hg
    try dsimp only at hr106
    dsimp only at hle110
    replace f1_0 := f1_0.mono hle110
    show TC _ _ _ (upds (mask _ j _) [(1, .slice a104 l103.length c105)]) τ109 [Res.cells b101 #[.int .i64 x0.kind, .string (bs x0.text), .int .u64 ((x0.set.a : Nat) : Int), .int .u64 ((x0.set.b : Nat) : Int), .int .u64 ((x0.set.c : Nat) : Int), .int .u64 ((x0.set.d : Nat) : Int), .slice none 0 0, .int .i64 x0.min, .int .i64 x0.max] 92]
    dsimp only [usesLeaf_j1] at hh
    have hr106b := hr106.rv.big
    refine TC.seq ?_
    refine TC.seq ?_
    refine TC.region ?_
    refine TL.v rfl (OpVal.moveI (.inr rfl) rfl) rfl rfl ?_
    refine TL.nil ?_
    refine S.n ?_
    refine TC.block ?_
    refine TC.loopG (α := (Unit) × (Unit)) [1, 5, 13, 14, 15, 16, 17, 18, 19, 20, 21, 22, 23, 24, 25, 26] (fun g => [(1, .slice a104 l103.length c105), (5, .int .i64 0)]) (fun g => [Res.cells b101 #[.int .i64 x0.kind, .string (bs x0.text), .int .u64 ((x0.set.a : Nat) : Int), .int .u64 ((x0.set.b : Nat) : Int), .int .u64 ((x0.set.c : Nat) : Int), .int .u64 ((x0.set.d : Nat) : Int), .slice none 0 0, .int .i64 x0.min, .int .i64 x0.max] 92]) (fun g => τ109) (fun g => iter (fun q : Unit => usesLeaf_b1 l103) g.1 = some r) (fun g => rounds (fun q : Unit => usesLeaf_b1 l103) g.1) ((), ()) (Sub.pre 1 rfl) rfl (by repeat (first | exact trivial | refine ⟨rfl, ?_⟩)) hh (fun g1 j1 hg1 => ?_)
    obtain ⟨_, _⟩ := g1
    have hh := hg1; clear hg1
    show TC _ _ _ (upds (mask _ j1 _) [(1, .slice a104 l103.length c105), (5, .int .i64 0)]) _ [Res.cells b101 #[.int .i64 x0.kind, .string (bs x0.text), .int .u64 ((x0.set.a : Nat) : Int), .int .u64 ((x0.set.b : Nat) : Int), .int .u64 ((x0.set.c : Nat) : Int), .int .u64 ((x0.set.d : Nat) : Int), .slice none 0 0, .int .i64 x0.min, .int .i64 x0.max] 92]
    obtain ⟨z1, hh, hR1⟩ := iter_e hh
    dsimp only [usesLeaf_b1] at hh
    refine TC.seq ?_
    refine TC.seq ?_
    refine TC.region ?_
    refine TL.v rfl (OpVal.moveI (.inl rfl) rfl) rfl rfl ?_
    refine TL.v rfl (OpVal.fieldLoc rfl fo92_3 rfl) rfl rfl ?_
    refine TL.v rfl (OpVal.loadLoc rfl ag90 rfl (i := 0) rfl rfl) rfl rfl ?_
    refine TL.v rfl (OpVal.lenC rfl Try.underlying90 rfl) rfl rfl ?_
    refine TL.v rfl (OpVal.lss rfl rfl rfl) rfl rfl ?_
    refine TL.nil ?_
    refine S.n ?_
    refine TC.cond rfl (fun h111 => ?_) (fun h111 => ?_)
    · exact absurd (of_decide_eq_true h111) (by omega)
    · replace hh := iteO_f h111 hh
      replace h111 := of_decide_eq_false h111
      refine TC.exit ?_
      refine S.x ?_
      refine S.x ?_
      replace hh := fin_x hR1 hh
      refine TC.exitHere ?_
      refine S.n ?_
      refine TC.seq ?_
      refine TC.region ?_
      refine TL.v rfl (OpVal.moveSl (.inl rfl) rfl) rfl rfl ?_
      refine TL.v rfl (OpVal.moveSl (.inr rfl) rfl) rfl rfl ?_
      refine TL.nil ?_
      refine S.n ?_
      refine TC.ofSub (Sub.pre 0 rfl) ?_
      refine TC.ret ?_
      obtain rfl := Option.some.inj hh
      exact RetOk.mk' (rs := [.tmp 4]) [] rfl (.inl rfl) (RVs.tmp rfl RVs.nil) (List.sublist_append_left _ _) ⟨a104, c105, rfl, hr106, rfl⟩

noncomputable def usesRoot_b1 (x0 : ReRoot) (l121 : List (List UInt8)) (k125 : Nat) : Option (((List (List UInt8)) × Nat) ⊕ ((List (List UInt8)))) :=
  iteO (decide (((k125 : Nat) : Int) < ((x0.parts.length : Nat) : Int))) (bnd (usesLeaf (nth x0.parts k125 ReLeaf.zero) l121) (fun v23 => nxt (v23, (k125 + 1)))) (fin (some l121))
noncomputable def usesRoot_j1 (x0 : ReRoot) (l103 : List (List UInt8)) : Option ((List (List UInt8))) :=
  iter (fun q : (List (List UInt8)) × Nat => usesRoot_b1 x0 q.1 q.2) (l103, 0)
noncomputable def usesRoot (x0 : ReRoot) (x1 : List (List UInt8)) : Option ((List (List UInt8))) :=
  iteO (decide (x0.kind = 3)) (bnd (whittleref09_add x1 x0.text) (fun v9 => usesRoot_j1 x0 v9)) (usesRoot_j1 x0 x1)
def usesRoot_P (σ : Store) (r : (List (List UInt8))) : Value → Store → List Res → Prop := fun v σ' H' =>
  ∃ (a1 : Option Addr), ∃ (c1 : Nat),  v = .slice a1 r.length c1 ∧ RS σ' 1 encS (.slice a1 r.length c1) r ∧ H' = []
theorem usesRoot_con {σ : Store} {x0 : ReRoot} {a0_0 : Option Addr} {c0_0 : Nat} {x1 : List (List UInt8)} {a1_0 : Option Addr} {c1_0 : Nat} (f0_0 : RS σ 9 encReLeaf (.slice a0_0 x0.parts.length c0_0) x0.parts) (f1_0 : RS σ 1 encS (.slice a1_0 x1.length c1_0) x1) {r : (List (List UInt8))} (hh : usesRoot x0 x1 = some r) :
    Con Try.prog 64 #[.agg #[.int .i64 x0.kind, .string (bs x0.text), .int .u64 ((x0.set.a : Nat) : Int), .int .u64 ((x0.set.b : Nat) : Int), .int .u64 ((x0.set.c : Nat) : Int), .int .u64 ((x0.set.d : Nat) : Int), .slice a0_0 x0.parts.length c0_0, .int .i64 x0.min, .int .i64 x0.max], .slice a1_0 x1.length c1_0] σ [] (usesRoot_P σ r) := by
  dsimp only [usesRoot] at hh
  have f0_0b := f0_0.rv.big
  have f1_0b := f1_0.rv.big
  refine Con.mk (n := 28) Try.func64 rfl rfl rfl (fun w0 => ?_)
  refine TC.seq ?_
  refine TC.region ?_
  refine TL.op rfl (OpOk.boxA rfl rfl rfl rfl (fun b101 => ?_))
  refine TL.v rfl (OpVal.moveSl (.inr rfl) rfl) rfl rfl ?_
  refine TL.nil ?_
  refine S.n ?_
  refine TC.cutG (α := ((List (List UInt8))) × ((Option Addr) × Nat × Store)) [1, 6, 7, 8, 9, 10, 11, 12] (fun g => [(1, .slice g.2.1 g.1.length g.2.2.1)]) (fun g => [Res.cells b101 #[.int .i64 x0.kind, .string (bs x0.text), .int .u64 ((x0.set.a : Nat) : Int), .int .u64 ((x0.set.b : Nat) : Int), .int .u64 ((x0.set.c : Nat) : Int), .int .u64 ((x0.set.d : Nat) : Int), .slice a0_0 x0.parts.length c0_0, .int .i64 x0.min, .int .i64 x0.max] 92]) (fun g => g.2.2.2) (fun g => usesRoot_j1 x0 g.1 = some r ∧ RS g.2.2.2 1 encS (.slice g.2.1 g.1.length g.2.2.1) g.1 ∧ Store.le σ g.2.2.2) ?_ (fun g j hg => ?_)
  · skip
    refine TC.seq ?_
    refine TC.region ?_
    refine TL.v rfl (OpVal.fieldLoc rfl fo92_0 rfl) rfl rfl ?_
    refine TL.v rfl (OpVal.loadLoc rfl ag3 rfl (i := 0) rfl rfl) rfl rfl ?_
    refine TL.v rfl (OpVal.eql rfl rfl rfl) rfl rfl ?_
    refine TL.nil ?_
    refine S.n ?_
    refine TC.cond rfl (fun h107 => ?_) (fun h107 => ?_)
    · replace hh := iteO_t h107 hh
      replace h107 := of_decide_eq_true h107
      refine TC.region ?_
      refine TL.v rfl (OpVal.moveSl (.inl rfl) rfl) rfl rfl ?_
      refine TL.v rfl (OpVal.fieldLoc rfl fo92_1 rfl) rfl rfl ?_
      refine TL.v rfl (OpVal.loadLoc rfl ag9 rfl (i := 0) rfl rfl) rfl rfl ?_
      obtain ⟨v9, u9, hh⟩ := bnd_e hh
      refine TL.op rfl (OpOk.call (whittleref09_add_con f1_0 u9) rfl rfl pf82 rfl rfl rfl rfl ?_)
      rintro _ τ108 _ hle108 ⟨a108_1, c108_1, rfl, hr108_0, rfl⟩
      replace f0_0 := f0_0.mono hle108
      replace f1_0 := f1_0.mono hle108
      have hr108_0b := hr108_0.rv.big
      refine TL.v rfl (OpVal.moveSl (.inr rfl) rfl) rfl rfl ?_
      refine TL.nil ?_
      refine S.n ?_
      refine ⟨by repeat (first | exact Agr.refl _ _ | exact Agr.mask | refine Agr.upd rfl ?_ | refine Agr.maskIn rfl ?_ | refine Agr.upds rfl ?_), (v9, (a108_1, c108_1, τ108)), ⟨hh, hr108_0, hle108⟩, by repeat (first | exact trivial | refine ⟨rfl, ?_⟩), Sub.pre 1 rfl, rfl⟩
    · replace hh := iteO_f h107 hh
      replace h107 := of_decide_eq_false h107
      refine TC.skip ?_
      refine S.n ?_
      refine ⟨by repeat (first | exact Agr.refl _ _ | exact Agr.mask | refine Agr.upd rfl ?_ | refine Agr.maskIn rfl ?_ | refine Agr.upds rfl ?_), (x1, (a1_0, c1_0, σ)), ⟨hh, f1_0, (Store.le.refl _)⟩, by repeat (first | exact trivial | refine ⟨rfl, ?_⟩), Sub.pre 1 rfl, rfl⟩
  · skip
    obtain ⟨l103, ⟨a104, c105, τ109⟩⟩ := g
    obtain ⟨hh, hr106, hle110⟩ := hg
    try dsimp only at hr106
    dsimp only at hle110
    replace f0_0 := f0_0.mono hle110
    replace f1_0 := f1_0.mono hle110
    show TC _ _ _ (upds (mask _ j _) [(1, .slice a104 l103.length c105)]) τ109 [Res.cells b101 #[.int .i64 x0.kind, .string (bs x0.text), .int .u64 ((x0.set.a : Nat) : Int), .int .u64 ((x0.set.b : Nat) : Int), .int .u64 ((x0.set.c : Nat) : Int), .int .u64 ((x0.set.d : Nat) : Int), .slice a0_0 x0.parts.length c0_0, .int .i64 x0.min, .int .i64 x0.max] 92]
    dsimp only [usesRoot_j1] at hh
    have hr106b := hr106.rv.big
    refine TC.seq ?_
    refine TC.seq ?_
    refine TC.region ?_
    refine TL.v rfl (OpVal.moveI (.inr rfl) rfl) rfl rfl ?_
    refine TL.nil ?_
    refine S.n ?_
    refine TC.block ?_
    refine TC.loopG (α := ((List (List UInt8)) × Nat) × ((Option Addr) × Nat × Store)) [1, 5, 13, 14, 15, 16, 17, 18, 19, 20, 21, 22, 23, 24, 25, 26] (fun g => [(1, .slice g.2.1 g.1.1.length g.2.2.1), (5, .int .i64 ((g.1.2 : Nat) : Int))]) (fun g => [Res.cells b101 #[.int .i64 x0.kind, .string (bs x0.text), .int .u64 ((x0.set.a : Nat) : Int), .int .u64 ((x0.set.b : Nat) : Int), .int .u64 ((x0.set.c : Nat) : Int), .int .u64 ((x0.set.d : Nat) : Int), .slice a0_0 x0.parts.length c0_0, .int .i64 x0.min, .int .i64 x0.max] 92]) (fun g => g.2.2.2) (fun g => iter (fun q : (List (List UInt8)) × Nat => usesRoot_b1 x0 q.1 q.2) g.1 = some r ∧ RS g.2.2.2 1 encS (.slice g.2.1 g.1.1.length g.2.2.1) g.1.1 ∧ Store.le τ109 g.2.2.2) (fun g => rounds (fun q : (List (List UInt8)) × Nat => usesRoot_b1 x0 q.1 q.2) g.1) ((l103, 0), (a104, c105, τ109)) (Sub.pre 1 rfl) rfl (by repeat (first | exact trivial | refine ⟨rfl, ?_⟩)) ⟨hh, hr106, (Store.le.refl _)⟩ (fun g1 j1 hg1 => ?_)
    obtain ⟨⟨l121, k125⟩, ⟨a122, c123, τ126⟩⟩ := g1
    obtain ⟨hh, hr124, hle127⟩ := hg1
    try dsimp only at hr124
    dsimp only at hle127
    replace f0_0 := f0_0.mono hle127
    replace f1_0 := f1_0.mono hle127
    replace hr106 := hr106.mono hle127
    show TC _ _ _ (upds (mask _ j1 _) [(1, .slice a122 l121.length c123), (5, .int .i64 ((k125 : Nat) : Int))]) τ126 [Res.cells b101 #[.int .i64 x0.kind, .string (bs x0.text), .int .u64 ((x0.set.a : Nat) : Int), .int .u64 ((x0.set.b : Nat) : Int), .int .u64 ((x0.set.c : Nat) : Int), .int .u64 ((x0.set.d : Nat) : Int), .slice a0_0 x0.parts.length c0_0, .int .i64 x0.min, .int .i64 x0.max] 92]
    obtain ⟨z1, hh, hR1⟩ := iter_e hh
    dsimp only [usesRoot_b1] at hh
    have hr124b := hr124.rv.big
    refine TC.seq ?_
    refine TC.seq ?_
    refine TC.region ?_
    refine TL.v rfl (OpVal.moveI (.inl rfl) rfl) rfl rfl ?_
    refine TL.v rfl (OpVal.fieldLoc rfl fo92_3 rfl) rfl rfl ?_
    refine TL.v rfl (OpVal.loadLoc rfl ag90 rfl (i := 0) rfl rfl) rfl rfl ?_
    refine TL.v rfl (OpVal.lenC rfl Try.underlying90 rfl) rfl rfl ?_
    refine TL.v rfl (OpVal.lss rfl rfl rfl) rfl rfl ?_
    refine TL.nil ?_
    refine S.n ?_
    refine TC.cond rfl (fun h128 => ?_) (fun h128 => ?_)
    · replace hh := iteO_t h128 hh
      replace h128 := of_decide_eq_true h128
      refine TC.skip ?_
      refine S.n ?_
      refine TC.seq ?_
      refine TC.block ?_
      refine TC.region ?_
      refine TL.v rfl (OpVal.fieldLoc rfl fo92_3 rfl) rfl rfl ?_
      refine TL.v rfl (OpVal.loadLoc rfl ag90 rfl (i := 0) rfl rfl) rfl rfl ?_
      refine TL.v rfl (OpVal.moveI (.inl rfl) rfl) rfl rfl ?_
      refine TL.v rfl (OpVal.indexN rfl Try.underlying90 sz92 rfl rfl f0_0.rv.sl (by omega)) rfl rfl ?_
      refine TL.v rfl (OpVal.loadSA ReLeaf.zero rfl ag92 sz92 rfl f0_0 (by omega) (by omega)) rfl rfl ?_
      refine TL.v rfl (OpVal.moveSl (.inl rfl) rfl) rfl rfl ?_
      obtain ⟨v23, u23, hh⟩ := bnd_e hh
      refine TL.op rfl (OpOk.call (usesLeaf_con hr124 u23) rfl rfl pf64 rfl rfl rfl rfl ?_)
      rintro _ τ129 _ hle129 ⟨a129_1, c129_1, rfl, hr129_0, rfl⟩
      replace f0_0 := f0_0.mono hle129
      replace f1_0 := f1_0.mono hle129
      replace hr106 := hr106.mono hle129
      replace hr124 := hr124.mono hle129
      have hr129_0b := hr129_0.rv.big
      refine TL.v rfl (OpVal.moveSl (.inr rfl) rfl) rfl rfl ?_
      refine TL.nil ?_
      refine B.n ?_
      refine S.n ?_
      refine TC.region ?_
      refine TL.v rfl (OpVal.moveI (.inl rfl) rfl) rfl rfl ?_
      refine TL.v rfl (OpVal.succ rfl rfl rfl (by omega)) rfl rfl ?_
      refine TL.v rfl (OpVal.moveI (.inr rfl) rfl) rfl rfl ?_
      refine TL.nil ?_
      refine S.n ?_
      obtain ⟨hh, hlt130⟩ := nxt_x hR1 hh
      refine ⟨by repeat (first | exact Agr.refl _ _ | exact Agr.mask | refine Agr.upd rfl ?_ | refine Agr.maskIn rfl ?_ | refine Agr.upds rfl ?_), ((v23, (k125 + 1)), (a129_1, c129_1, τ129)), hlt130, ⟨hh, hr129_0, (hle127.trans hle129)⟩, by repeat (first | exact trivial | refine ⟨rfl, ?_⟩), Sub.pre 1 rfl, rfl⟩
    · replace hh := iteO_f h128 hh
      replace h128 := of_decide_eq_false h128
      refine TC.exit ?_
      refine S.x ?_
      refine S.x ?_
      replace hh := fin_x hR1 hh
      refine TC.exitHere ?_
      refine S.n ?_
      refine TC.seq ?_
      refine TC.region ?_
      refine TL.v rfl (OpVal.moveSl (.inl rfl) rfl) rfl rfl ?_
      refine TL.v rfl (OpVal.moveSl (.inr rfl) rfl) rfl rfl ?_
      refine TL.nil ?_
      refine S.n ?_
      refine TC.ofSub (Sub.pre 0 rfl) ?_
      refine TC.ret ?_
      obtain rfl := Option.some.inj hh
      exact RetOk.mk' (rs := [.tmp 4]) [] rfl (.inl rfl) (RVs.tmp rfl RVs.nil) (List.sublist_append_left _ _) ⟨a122, c123, rfl, hr124, rfl⟩

noncomputable def whittleref09_Uses (x0 : ReRoot) : Option ((List (List UInt8))) :=
  bnd (usesRoot x0 ([] : List (List UInt8))) (fun v4 => some v4)
def whittleref09_Uses_P (σ : Store) (r : (List (List UInt8))) : Value → Store → List Res → Prop := fun v σ' H' =>
  ∃ (a1 : Option Addr), ∃ (c1 : Nat),  v = .slice a1 r.length c1 ∧ RS σ' 1 encS (.slice a1 r.length c1) r ∧ H' = []
theorem whittleref09_Uses_con {σ : Store} {x0 : ReRoot} {a0_0 : Option Addr} {c0_0 : Nat} (f0_0 : RS σ 9 encReLeaf (.slice a0_0 x0.parts.length c0_0) x0.parts) {r : (List (List UInt8))} (hh : whittleref09_Uses x0 = some r) :
    Con Try.prog 47 #[.agg #[.int .i64 x0.kind, .string (bs x0.text), .int .u64 ((x0.set.a : Nat) : Int), .int .u64 ((x0.set.b : Nat) : Int), .int .u64 ((x0.set.c : Nat) : Int), .int .u64 ((x0.set.d : Nat) : Int), .slice a0_0 x0.parts.length c0_0, .int .i64 x0.min, .int .i64 x0.max]] σ [] (whittleref09_Uses_P σ r) := by
  dsimp only [whittleref09_Uses] at hh
  have f0_0b := f0_0.rv.big
  refine Con.mk (n := 5) Try.func47 rfl rfl rfl (fun w0 => ?_)
  refine TC.seq ?_
  refine TC.region ?_
  refine TL.op rfl (OpOk.boxA rfl rfl rfl rfl (fun b101 => ?_))
  refine TL.v rfl (OpVal.moveSl (.inr rfl) rfl) rfl rfl ?_
  refine TL.nil ?_
  refine S.n ?_
  refine TC.seq ?_
  refine TC.region ?_
  refine TL.v rfl (OpVal.loadAll rfl ag92 sz92 rfl (i := 0) rfl rfl) rfl rfl ?_
  obtain ⟨v4, u4, hh⟩ := bnd_e hh
  refine TL.op rfl (OpOk.call (usesRoot_con (x0 := x0) f0_0 (RS.nilF _ encS encS_len) u4) rfl rfl pf64 rfl rfl rfl rfl ?_)
  rintro _ τ103 _ hle103 ⟨a103_1, c103_1, rfl, hr103_0, rfl⟩
  replace f0_0 := f0_0.mono hle103
  have hr103_0b := hr103_0.rv.big
  refine TL.v rfl (OpVal.moveSl (.inr rfl) rfl) rfl rfl ?_
  refine TL.nil ?_
  refine S.n ?_
  refine TC.ofSub (Sub.pre 0 rfl) ?_
  refine TC.ret ?_
  obtain rfl := Option.some.inj hh
  exact RetOk.mk' (rs := [.tmp 2]) [] rfl (.inl rfl) (RVs.tmp rfl RVs.nil) (List.sublist_append_left _ _) ⟨a103_1, c103_1, rfl, hr103_0, rfl⟩

noncomputable def whittleref15_Texts_b1 (x0 : List (List UInt8)) (l114 : List ReLeaf) (k117 : Nat) : Option (((List ReLeaf) × Nat) ⊕ ((List (List UInt8)))) :=
  iteO (decide (((k117 : Nat) : Int) < ((x0.length : Nat) : Int))) (grd ((l114.length + [(⟨3, (nth x0 k117 ([] : List UInt8)), BSet.zero, 0, 0⟩ : ReLeaf)].length) * 96 ≤ 140737488355328) (nxt ((l114 ++ [(⟨3, (nth x0 k117 ([] : List UInt8)), BSet.zero, 0, 0⟩ : ReLeaf)]), (k117 + 1)))) (fin (bnd (whittleref09_Uses (⟨5, ([] : List UInt8), BSet.zero, l114, 0, 0⟩ : ReRoot)) (fun v25 => some v25)))
noncomputable def whittleref15_Texts (x0 : List (List UInt8)) : Option ((List (List UInt8))) :=
  iter (fun q : (List ReLeaf) × Nat => whittleref15_Texts_b1 x0 q.1 q.2) (([] : List ReLeaf), 0)
def whittleref15_Texts_P (σ : Store) (r : (List (List UInt8))) : Value → Store → List Res → Prop := fun v σ' H' =>
  ∃ (a1 : Option Addr), ∃ (c1 : Nat),  v = .slice a1 r.length c1 ∧ RS σ' 1 encS (.slice a1 r.length c1) r ∧ H' = []
theorem whittleref15_Texts_con {σ : Store} {x0 : List (List UInt8)} {a0_0 : Option Addr} {c0_0 : Nat} (f0_0 : RS σ 1 encS (.slice a0_0 x0.length c0_0) x0) {r : (List (List UInt8))} (hh : whittleref15_Texts x0 = some r) :
    Con Try.prog 27 #[.slice a0_0 x0.length c0_0] σ [] (whittleref15_Texts_P σ r) := by
  dsimp only [whittleref15_Texts] at hh
  have f0_0b := f0_0.rv.big
  refine Con.mk (n := 24) Try.func27 rfl rfl rfl (fun w0 => ?_)
  refine TC.seq ?_
  refine TC.region ?_
  refine TL.v rfl (OpVal.moveSl (.inr rfl) rfl) rfl rfl ?_
  refine TL.nil ?_
  refine S.n ?_
  refine TC.seq ?_
  refine TC.region ?_
  refine TL.v rfl (OpVal.buildL rfl pl92 ze92 rfl) rfl rfl ?_
  refine TL.op rfl (OpOk.alloc rfl ze92 rfl rfl (fun b101 => ?_))
  refine TL.op rfl (OpOk.storeAll rfl sz92 rfl rfl rfl rfl rfl rfl ?_)
  refine TL.nil ?_
  refine S.n ?_
  refine TC.seq ?_
  refine TC.seq ?_
  refine TC.region ?_
  refine TL.v rfl (OpVal.moveI (.inr rfl) rfl) rfl rfl ?_
  refine TL.nil ?_
  refine S.n ?_
  refine TC.block ?_
  refine TC.nilS 92 9 encReLeaf ?_
  refine TC.loopG (α := ((List ReLeaf) × Nat) × ((Option Addr) × Nat)) [4, 6, 7, 8, 9, 10, 11, 12, 13, 14, 15, 16, 17, 18, 19, 20, 21] (fun g => [(4, .int .i64 ((g.1.2 : Nat) : Int))]) (fun g => [Res.cells b101 #[.int .i64 5, .string (bs ([] : List UInt8)), .int .u64 ((BSet.zero.a : Nat) : Int), .int .u64 ((BSet.zero.b : Nat) : Int), .int .u64 ((BSet.zero.c : Nat) : Int), .int .u64 ((BSet.zero.d : Nat) : Int), .slice g.2.1 g.1.1.length g.2.2, .int .i64 0, .int .i64 0] 92, Res.rowS 92 9 encReLeaf (.slice g.2.1 g.1.1.length g.2.2) g.1.1]) (fun g => σ) (fun g => iter (fun q : (List ReLeaf) × Nat => whittleref15_Texts_b1 x0 q.1 q.2) g.1 = some r) (fun g => rounds (fun q : (List ReLeaf) × Nat => whittleref15_Texts_b1 x0 q.1 q.2) g.1) ((([] : List ReLeaf), 0), (none, 0)) (Sub.front 1 rfl rfl (Sub.pre 2 rfl)) rfl (by repeat (first | exact trivial | refine ⟨rfl, ?_⟩)) hh (fun g1 j1 hg1 => ?_)
  obtain ⟨⟨l114, k117⟩, ⟨a115, c116⟩⟩ := g1
  have hh := hg1; clear hg1
  show TC _ _ _ (upds (mask _ j1 _) [(4, .int .i64 ((k117 : Nat) : Int))]) _ [Res.cells b101 #[.int .i64 5, .string (bs ([] : List UInt8)), .int .u64 ((BSet.zero.a : Nat) : Int), .int .u64 ((BSet.zero.b : Nat) : Int), .int .u64 ((BSet.zero.c : Nat) : Int), .int .u64 ((BSet.zero.d : Nat) : Int), .slice a115 l114.length c116, .int .i64 0, .int .i64 0] 92, Res.rowS 92 9 encReLeaf (.slice a115 l114.length c116) l114]
  obtain ⟨z1, hh, hR1⟩ := iter_e hh
  dsimp only [whittleref15_Texts_b1] at hh
  refine TC.isSl (i := 1) rfl (fun _ hb119 _ => ?_)
  refine TC.seq ?_
  refine TC.seq ?_
  refine TC.region ?_
  refine TL.v rfl (OpVal.moveI (.inl rfl) rfl) rfl rfl ?_
  refine TL.v rfl (OpVal.moveSl (.inl rfl) rfl) rfl rfl ?_
  refine TL.v rfl (OpVal.lenC rfl Try.underlying27 rfl) rfl rfl ?_
  refine TL.v rfl (OpVal.lss rfl rfl rfl) rfl rfl ?_
  refine TL.nil ?_
  refine S.n ?_
  refine TC.cond rfl (fun h120 => ?_) (fun h120 => ?_)
  · replace hh := iteO_t h120 hh
    replace h120 := of_decide_eq_true h120
    refine TC.skip ?_
    refine S.n ?_
    refine TC.seq ?_
    refine TC.block ?_
    have u18 := grd_c hh
    replace hh := grd_t hh
    refine TC.draw [8, 9, 10] (by kernel_rfl) ?_
    refine TA.takeP 0 rfl (by kernel_rfl) (by kernel_rfl) (by kernel_rfl) rfl (OpVal.fieldLoc rfl fo92_3 rfl) rfl rfl ?_
    refine TA.take 1 rfl (by kernel_rfl) (by kernel_rfl) (by kernel_rfl) (by kernel_rfl) rfl (OpVal.loadLoc rfl ag90 rfl (i := 0) rfl rfl) rfl rfl ?_
    refine TA.takeP 2 rfl (by kernel_rfl) (by kernel_rfl) (by kernel_rfl) rfl (OpVal.moveSl (.inl rfl) rfl) rfl rfl ?_
    refine TA.takeP 3 rfl (by kernel_rfl) (by kernel_rfl) (by kernel_rfl) rfl (OpVal.moveI (.inl rfl) rfl) rfl rfl ?_
    refine TA.take 4 rfl (by kernel_rfl) (by kernel_rfl) (by kernel_rfl) (by kernel_rfl) rfl (OpVal.indexN rfl Try.underlying27 sz9 rfl rfl f0_0.rv.sl (by omega)) rfl rfl ?_
    refine TA.take 5 rfl (by kernel_rfl) (by kernel_rfl) (by kernel_rfl) (by kernel_rfl) rfl (OpVal.loadS1 ([] : List UInt8) rfl ag9 rfl f0_0 (by omega) rfl) rfl rfl ?_
    refine TA.takeP 6 rfl (by kernel_rfl) (by kernel_rfl) (by kernel_rfl) rfl (OpVal.buildL rfl pl92 ze92 rfl) rfl rfl ?_
    refine TA.act 7 (by kernel_rfl) rfl rfl (OpOk.lit (enc := encReLeaf) [(⟨3, (nth x0 k117 ([] : List UInt8)), BSet.zero, 0, 0⟩ : ReLeaf)] rfl Try.underlying90 sz92 ze92 rfl rfl rfl encReLeaf_len (by decide) (by decide) ReLeaf.zero rfl (by decide) rfl (by decide) encReLeaf_one (fun a126 c127 => ⟨(fun w h => sees_of (Store.le.refl _) (fun r hr => (List.mem_cons_of_mem _ hr)) w h), ?_⟩))
    refine TA.front 2 rfl rfl ?_
    refine TA.last 8 (by kernel_rfl) rfl rfl rfl (OpOk.appendS rfl rfl Try.underlying90 sz92 by92 ze92 rfl rfl (by decide) rfl rfl rfl (.inr ⟨_, 0, rfl⟩) (by simpa using u18) (by decide) (fun a129 c130 => ?_))
    refine TZ.v 9 (by kernel_rfl) rfl rfl rfl (OpVal.fieldLoc rfl fo92_3 rfl) rfl rfl ?_
    refine TZ.front 2 rfl rfl ?_
    refine TZ.last 10 (by kernel_rfl) rfl rfl rfl (OpOk.storeSl rfl sz90 rfl rfl rfl rfl rfl ?_)
    refine TZ.done (by kernel_rfl) ?_
    refine B.n ?_
    refine S.n ?_
    refine TC.region ?_
    refine TL.v rfl (OpVal.moveI (.inl rfl) rfl) rfl rfl ?_
    refine TL.v rfl (OpVal.succ rfl rfl rfl (by omega)) rfl rfl ?_
    refine TL.v rfl (OpVal.moveI (.inr rfl) rfl) rfl rfl ?_
    refine TL.nil ?_
    refine S.n ?_
    obtain ⟨hh, hlt131⟩ := nxt_x hR1 hh
    refine ⟨by repeat (first | exact Agr.refl _ _ | exact Agr.mask | refine Agr.upd rfl ?_ | refine Agr.maskIn rfl ?_ | refine Agr.upds rfl ?_), (((l114 ++ [(⟨3, (nth x0 k117 ([] : List UInt8)), BSet.zero, 0, 0⟩ : ReLeaf)]), (k117 + 1)), (a129, c130)), hlt131, hh, by repeat (first | exact trivial | refine ⟨rfl, ?_⟩), Sub.front 1 rfl rfl (Sub.front 1 rfl rfl (Sub.pre 2 rfl)), rfl⟩
  · replace hh := iteO_f h120 hh
    replace h120 := of_decide_eq_false h120
    refine TC.exit ?_
    refine S.x ?_
    refine S.x ?_
    replace hh := fin_x hR1 hh
    refine TC.exitHere ?_
    refine S.n ?_
    refine TC.seq ?_
    refine TC.region ?_
    refine TL.v rfl (OpVal.loadAll rfl ag92 sz92 rfl (i := 0) rfl rfl) rfl rfl ?_
    refine TL.front 1 rfl rfl ?_
    refine TL.sealS encReLeaf_len (fun τ134 hle133 hr132 => ?_)
    replace f0_0 := f0_0.mono hle133
    have hr132b := hr132.rv.big
    obtain ⟨v25, u25, hh⟩ := bnd_e hh
    refine TL.op rfl (OpOk.call (whittleref09_Uses_con (x0 := (⟨5, ([] : List UInt8), BSet.zero, l114, 0, 0⟩ : ReRoot)) hr132 u25) rfl rfl pf47 rfl rfl rfl rfl ?_)
    rintro _ τ135 _ hle135 ⟨a135_1, c135_1, rfl, hr135_0, rfl⟩
    replace f0_0 := f0_0.mono hle135
    replace hr132 := hr132.mono hle135
    have hr135_0b := hr135_0.rv.big
    refine TL.v rfl (OpVal.moveSl (.inr rfl) rfl) rfl rfl ?_
    refine TL.nil ?_
    refine S.n ?_
    refine TC.ofSub (Sub.pre 0 rfl) ?_
    refine TC.ret ?_
    obtain rfl := Option.some.inj hh
    exact RetOk.mk' (rs := [.tmp 2]) [] rfl (.inl rfl) (RVs.tmp rfl RVs.nil) (List.sublist_append_left _ _) ⟨a135_1, c135_1, rfl, hr135_0, rfl⟩

noncomputable def whittleref15_Outs_j1 (k188 : Nat) (l192 : List (List UInt8)) : Option (((List (List UInt8)) × Nat) ⊕ (((List (List UInt8)) × Nat) ⊕ ((List (List UInt8)) × Int))) :=
  nxt (l192, (k188 + 1))
noncomputable def whittleref15_Outs_b4 (x0 : Fst) (l137 : List Tip) (k172 : Nat) (l185 : List (List UInt8)) (k188 : Nat) : Option (((List (List UInt8)) × Nat) ⊕ (((List (List UInt8)) × Nat) ⊕ ((List (List UInt8)) × Int))) :=
  iteO (decide (((k188 : Nat) : Int) < ((x0.ends.length : Nat) : Int))) (iteO (decide (((nth x0.ends k188 Tip.zero).state) = ((nth l137 k172 Tip.zero).state))) (grd (((nth l137 k172 Tip.zero).out).length + ((nth x0.ends k188 Tip.zero).out).length ≤ 9223372036854775807) (grd ((l185.length + [((nth l137 k172 Tip.zero).out ++ (nth x0.ends k188 Tip.zero).out)].length) * 16 ≤ 140737488355328) (whittleref15_Outs_j1 k188 (l185 ++ [((nth l137 k172 Tip.zero).out ++ (nth x0.ends k188 Tip.zero).out)])))) (whittleref15_Outs_j1 k188 l185)) (fin (nxt (l185, (k172 + 1))))
noncomputable def whittleref15_Outs_b3 (l137 : List Tip) (x0 : Fst) (l169 : List (List UInt8)) (k172 : Nat) : Option (((List (List UInt8)) × Nat) ⊕ ((List (List UInt8)) × Int)) :=
  iteO (decide (((k172 : Nat) : Int) < ((l137.length : Nat) : Int))) (iter (fun q : (List (List UInt8)) × Nat => whittleref15_Outs_b4 x0 l137 k172 q.1 q.2) (l169, 0)) (fin (bnd (whittleref15_Texts l169) (fun v104 => some (v104, 0))))
noncomputable def whittleref15_Outs_b2 (x1 : List UInt8) (x0 : Fst) (l137 : List Tip) (k140 : Nat) : Option (((List Tip) × Nat) ⊕ ((List (List UInt8)) × Int)) :=
  iteO (decide (((k140 : Nat) : Int) < ((x1.length : Nat) : Int))) (iteO (decide (4096 < ((l137.length : Nat) : Int))) (fin (some (([] : List (List UInt8)), 2))) (bnd (whittleref15_Step x0 l137 (nth x1 k140 (0 : UInt8))) (fun v47 => nxt (v47, (k140 + 1))))) (fin (iteO (decide (4096 < ((l137.length : Nat) : Int))) (some (([] : List (List UInt8)), 2)) (iter (fun q : (List (List UInt8)) × Nat => whittleref15_Outs_b3 l137 x0 q.1 q.2) (([] : List (List UInt8)), 0))))
noncomputable def whittleref15_Outs_b1 (x0 : Fst) (x1 : List UInt8) (l116 : List Tip) (k119 : Nat) : Option (((List Tip) × Nat) ⊕ ((List (List UInt8)) × Int)) :=
  iteO (decide (((k119 : Nat) : Int) < ((x0.starts.length : Nat) : Int))) (bnd (whittleref15_with l116 (nth x0.starts k119 Tip.zero)) (fun v27 => nxt (v27, (k119 + 1)))) (fin (iter (fun q : (List Tip) × Nat => whittleref15_Outs_b2 x1 x0 q.1 q.2) (l116, 0)))
noncomputable def whittleref15_Outs (x0 : Fst) (x1 : List UInt8) : Option ((List (List UInt8)) × Int) :=
  grd (x1.length ≤ 281474976710656) (bnd (whittleref15_Right x0) (fun v5 => iteO (!v5) (some (([] : List (List UInt8)), 1)) (iteO (decide (256 < ((x1.length : Nat) : Int))) (some (([] : List (List UInt8)), 2)) (iter (fun q : (List Tip) × Nat => whittleref15_Outs_b1 x0 x1 q.1 q.2) (([] : List Tip), 0)))))
def whittleref15_Outs_P (σ : Store) (r : (List (List UInt8)) × Int) : Value → Store → List Res → Prop := fun v σ' H' =>
  ∃ (a1 : Option Addr), ∃ (c1 : Nat),  v = .tuple #[.slice a1 r.1.length c1, .int .i64 r.2] ∧ RS σ' 1 encS (.slice a1 r.1.length c1) r.1 ∧ H' = []
theorem whittleref15_Outs_con {σ : Store} {x0 : Fst} {a0_0 : Option Addr} {c0_0 : Nat} {a0_1 : Option Addr} {c0_1 : Nat} {a0_2 : Option Addr} {c0_2 : Nat} {x1 : List UInt8} (f0_0 : RS σ 2 encTip (.slice a0_0 x0.starts.length c0_0) x0.starts) (f0_1 : RS σ 2 encTip (.slice a0_1 x0.ends.length c0_1) x0.ends) (f0_2 : RS σ 8 encArc (.slice a0_2 x0.arcs.length c0_2) x0.arcs) {r : (List (List UInt8)) × Int} (hh : whittleref15_Outs x0 x1 = some r) :
    Con Try.prog 9 #[.agg #[.int .i64 x0.states, .slice a0_0 x0.starts.length c0_0, .slice a0_1 x0.ends.length c0_1, .slice a0_2 x0.arcs.length c0_2], .string (bs x1)] σ [] (whittleref15_Outs_P σ r) := by
  dsimp only [whittleref15_Outs] at hh
  have f0_0b := f0_0.rv.big
  have f0_1b := f0_1.rv.big
  have f0_2b := f0_2.rv.big
  refine Con.mk (n := 92) Try.func9 rfl rfl rfl (fun w0 => ?_)
  have x1b := grd_c hh
  replace hh := grd_t hh
  refine TC.seq ?_
  refine TC.region ?_
  refine TL.op rfl (OpOk.boxA rfl rfl rfl rfl (fun b101 => ?_))
  refine TL.v rfl (OpVal.moveSl (.inr rfl) rfl) rfl rfl ?_
  refine TL.v rfl (OpVal.moveI (.inr rfl) rfl) rfl rfl ?_
  refine TL.nil ?_
  refine S.n ?_
  refine TC.seq ?_
  refine TC.seq ?_
  refine TC.region ?_
  refine TL.v rfl (OpVal.loadAll rfl ag25 sz25 rfl (i := 0) rfl rfl) rfl rfl ?_
  obtain ⟨v5, u5, hh⟩ := bnd_e hh
  refine TL.op rfl (OpOk.callP (whittleref15_Right_con (x0 := x0) f0_0 f0_1 f0_2 u5) rfl rfl pf24 rfl rfl rfl ?_)
  refine TL.v rfl (OpVal.not rfl rfl) rfl rfl ?_
  refine TL.nil ?_
  refine S.n ?_
  refine TC.cond rfl (fun h103 => ?_) (fun h103 => ?_)
  · replace hh := iteO_t h103 hh
    refine TC.seq ?_
    refine TC.region ?_
    refine TL.v rfl (OpVal.moveSl (.inr rfl) rfl) rfl rfl ?_
    refine TL.v rfl (OpVal.moveI (.inr rfl) rfl) rfl rfl ?_
    refine TL.nil ?_
    refine S.n ?_
    refine TC.ofSub (Sub.pre 0 rfl) ?_
    refine TC.ret ?_
    refine S.r ?_
    obtain rfl := Option.some.inj hh
    exact RetOk.mk' (rs := [.tmp 4, .tmp 5]) [] rfl (.inl rfl) (RVs.tmp rfl (RVs.tmp rfl RVs.nil)) (List.sublist_append_left _ _) ⟨none, 0, rfl, (RS.nilF _ encS encS_len), rfl⟩
  · replace hh := iteO_f h103 hh
    refine TC.skip ?_
    refine S.n ?_
    refine TC.seq ?_
    refine TC.seq ?_
    refine TC.region ?_
    refine TL.v rfl (OpVal.moveStr (.inl rfl) rfl) rfl rfl ?_
    refine TL.v rfl (OpVal.lenBs rfl Try.underlying9 rfl) rfl rfl ?_
    refine TL.v rfl (OpVal.gtr rfl rfl rfl) rfl rfl ?_
    refine TL.nil ?_
    refine S.n ?_
    refine TC.cond rfl (fun h104 => ?_) (fun h104 => ?_)
    · replace hh := iteO_t h104 hh
      replace h104 := of_decide_eq_true h104
      refine TC.seq ?_
      refine TC.region ?_
      refine TL.v rfl (OpVal.moveSl (.inr rfl) rfl) rfl rfl ?_
      refine TL.v rfl (OpVal.moveI (.inr rfl) rfl) rfl rfl ?_
      refine TL.nil ?_
      refine S.n ?_
      refine TC.ofSub (Sub.pre 0 rfl) ?_
      refine TC.ret ?_
      refine S.r ?_
      obtain rfl := Option.some.inj hh
      exact RetOk.mk' (rs := [.tmp 4, .tmp 5]) [] rfl (.inl rfl) (RVs.tmp rfl (RVs.tmp rfl RVs.nil)) (List.sublist_append_left _ _) ⟨none, 0, rfl, (RS.nilF _ encS encS_len), rfl⟩
    · replace hh := iteO_f h104 hh
      replace h104 := of_decide_eq_false h104
      refine TC.skip ?_
      refine S.n ?_
      refine TC.seq ?_
      refine TC.region ?_
      refine TL.v rfl (OpVal.moveSl (.inr rfl) rfl) rfl rfl ?_
      refine TL.nil ?_
      refine S.n ?_
      refine TC.seq ?_
      refine TC.seq ?_
      refine TC.region ?_
      refine TL.v rfl (OpVal.moveI (.inr rfl) rfl) rfl rfl ?_
      refine TL.nil ?_
      refine S.n ?_
      refine TC.block ?_
      refine TC.nilS 57 2 encTip ?_
      refine TC.loopG (α := ((List Tip) × Nat) × ((Option Addr) × Nat)) [6, 7, 18, 19, 20, 21, 22, 23, 24, 25, 26, 27, 28, 29, 30, 31] (fun g => [(6, .slice g.2.1 g.1.1.length g.2.2), (7, .int .i64 ((g.1.2 : Nat) : Int))]) (fun g => [Res.cells b101 #[.int .i64 x0.states, .slice a0_0 x0.starts.length c0_0, .slice a0_1 x0.ends.length c0_1, .slice a0_2 x0.arcs.length c0_2] 25, Res.rowS 57 2 encTip (.slice g.2.1 g.1.1.length g.2.2) g.1.1]) (fun g => σ) (fun g => iter (fun q : (List Tip) × Nat => whittleref15_Outs_b1 x0 x1 q.1 q.2) g.1 = some r) (fun g => rounds (fun q : (List Tip) × Nat => whittleref15_Outs_b1 x0 x1 q.1 q.2) g.1) ((([] : List Tip), 0), (none, 0)) (Sub.front 1 rfl rfl (Sub.pre 2 rfl)) rfl (by repeat (first | exact trivial | refine ⟨rfl, ?_⟩)) hh (fun g1 j1 hg1 => ?_)
      obtain ⟨⟨l116, k119⟩, ⟨a117, c118⟩⟩ := g1
      have hh := hg1; clear hg1
      show TC _ _ _ (upds (mask _ j1 _) [(6, .slice a117 l116.length c118), (7, .int .i64 ((k119 : Nat) : Int))]) _ [Res.cells b101 #[.int .i64 x0.states, .slice a0_0 x0.starts.length c0_0, .slice a0_1 x0.ends.length c0_1, .slice a0_2 x0.arcs.length c0_2] 25, Res.rowS 57 2 encTip (.slice a117 l116.length c118) l116]
      obtain ⟨z1, hh, hR1⟩ := iter_e hh
      dsimp only [whittleref15_Outs_b1] at hh
      refine TC.isSl (i := 1) rfl (fun _ hb121 _ => ?_)
      refine TC.seq ?_
      refine TC.seq ?_
      refine TC.region ?_
      refine TL.v rfl (OpVal.moveI (.inl rfl) rfl) rfl rfl ?_
      refine TL.v rfl (OpVal.fieldLoc rfl fo25_1 rfl) rfl rfl ?_
      refine TL.v rfl (OpVal.loadLoc rfl ag22 rfl (i := 0) rfl rfl) rfl rfl ?_
      refine TL.v rfl (OpVal.lenC rfl Try.underlying22 rfl) rfl rfl ?_
      refine TL.v rfl (OpVal.lss rfl rfl rfl) rfl rfl ?_
      refine TL.nil ?_
      refine S.n ?_
      refine TC.cond rfl (fun h122 => ?_) (fun h122 => ?_)
      · replace hh := iteO_t h122 hh
        replace h122 := of_decide_eq_true h122
        refine TC.skip ?_
        refine S.n ?_
        refine TC.seq ?_
        refine TC.block ?_
        refine TC.region ?_
        refine TL.v rfl (OpVal.moveSl (.inl rfl) rfl) rfl rfl ?_
        refine TL.v rfl (OpVal.fieldLoc rfl fo25_1 rfl) rfl rfl ?_
        refine TL.v rfl (OpVal.loadLoc rfl ag22 rfl (i := 0) rfl rfl) rfl rfl ?_
        refine TL.v rfl (OpVal.moveI (.inl rfl) rfl) rfl rfl ?_
        refine TL.v rfl (OpVal.indexN rfl Try.underlying22 sz57 rfl rfl f0_0.rv.sl (by omega)) rfl rfl ?_
        refine TL.v rfl (OpVal.loadSA Tip.zero rfl ag57 sz57 rfl f0_0 (by omega) (by omega)) rfl rfl ?_
        refine TL.front 1 rfl rfl ?_
        obtain ⟨v27, u27, hh⟩ := bnd_e hh
        refine TL.op rfl (OpOk.call (whittleref15_with_con u27) rfl rfl pf25 rfl rfl rfl rfl ?_)
        rintro _ _ _ hle123 ⟨a123_1, c123_2, rfl, rfl, rfl⟩
        refine TL.v rfl (OpVal.moveSl (.inr rfl) rfl) rfl rfl ?_
        refine TL.nil ?_
        refine B.n ?_
        refine S.n ?_
        refine TC.region ?_
        refine TL.v rfl (OpVal.moveI (.inl rfl) rfl) rfl rfl ?_
        refine TL.v rfl (OpVal.succ rfl rfl rfl (by omega)) rfl rfl ?_
        refine TL.v rfl (OpVal.moveI (.inr rfl) rfl) rfl rfl ?_
        refine TL.nil ?_
        refine S.n ?_
        obtain ⟨hh, hlt125⟩ := nxt_x hR1 hh
        refine ⟨by repeat (first | exact Agr.refl _ _ | exact Agr.mask | refine Agr.upd rfl ?_ | refine Agr.maskIn rfl ?_ | refine Agr.upds rfl ?_), ((v27, (k119 + 1)), (a123_1, c123_2)), hlt125, hh, by repeat (first | exact trivial | refine ⟨rfl, ?_⟩), Sub.front 1 rfl rfl (Sub.pre 2 rfl), rfl⟩
      · replace hh := iteO_f h122 hh
        replace h122 := of_decide_eq_false h122
        refine TC.exit ?_
        refine S.x ?_
        refine S.x ?_
        replace hh := fin_x hR1 hh
        refine TC.exitHere ?_
        refine S.n ?_
        refine TC.seq ?_
        refine TC.seq ?_
        refine TC.region ?_
        refine TL.v rfl (OpVal.moveI (.inr rfl) rfl) rfl rfl ?_
        refine TL.nil ?_
        refine S.n ?_
        refine TC.block ?_
        refine TC.loopG (α := ((List Tip) × Nat) × ((Option Addr) × Nat × Store)) [4, 5, 6, 8, 32, 33, 34, 35, 36, 37, 38, 39, 40, 41, 42, 43, 44, 45, 46] (fun g => [(6, .slice g.2.1 g.1.1.length g.2.2.1), (8, .int .i64 ((g.1.2 : Nat) : Int))]) (fun g => [Res.cells b101 #[.int .i64 x0.states, .slice a0_0 x0.starts.length c0_0, .slice a0_1 x0.ends.length c0_1, .slice a0_2 x0.arcs.length c0_2] 25, Res.rowS 57 2 encTip (.slice g.2.1 g.1.1.length g.2.2.1) g.1.1]) (fun g => g.2.2.2) (fun g => iter (fun q : (List Tip) × Nat => whittleref15_Outs_b2 x1 x0 q.1 q.2) g.1 = some r ∧ Store.le σ g.2.2.2) (fun g => rounds (fun q : (List Tip) × Nat => whittleref15_Outs_b2 x1 x0 q.1 q.2) g.1) ((l116, 0), (a117, c118, σ)) (Sub.front 1 rfl rfl (Sub.front 1 rfl rfl (Sub.pre 2 rfl))) rfl (by repeat (first | exact trivial | refine ⟨rfl, ?_⟩)) ⟨hh, (Store.le.refl _)⟩ (fun g2 j2 hg2 => ?_)
        obtain ⟨⟨l137, k140⟩, ⟨a138, c139, τ141⟩⟩ := g2
        obtain ⟨hh, hle142⟩ := hg2
        dsimp only at hle142
        replace f0_0 := f0_0.mono hle142
        replace f0_1 := f0_1.mono hle142
        replace f0_2 := f0_2.mono hle142
        show TC _ _ _ (upds (mask _ j2 _) [(6, .slice a138 l137.length c139), (8, .int .i64 ((k140 : Nat) : Int))]) τ141 [Res.cells b101 #[.int .i64 x0.states, .slice a0_0 x0.starts.length c0_0, .slice a0_1 x0.ends.length c0_1, .slice a0_2 x0.arcs.length c0_2] 25, Res.rowS 57 2 encTip (.slice a138 l137.length c139) l137]
        obtain ⟨z1, hh, hR1⟩ := iter_e hh
        dsimp only [whittleref15_Outs_b2] at hh
        refine TC.isSl (i := 1) rfl (fun _ hb143 _ => ?_)
        refine TC.seq ?_
        refine TC.seq ?_
        refine TC.region ?_
        refine TL.v rfl (OpVal.moveI (.inl rfl) rfl) rfl rfl ?_
        refine TL.v rfl (OpVal.moveStr (.inl rfl) rfl) rfl rfl ?_
        refine TL.v rfl (OpVal.lenBs rfl Try.underlying9 rfl) rfl rfl ?_
        refine TL.v rfl (OpVal.lss rfl rfl rfl) rfl rfl ?_
        refine TL.nil ?_
        refine S.n ?_
        refine TC.cond rfl (fun h144 => ?_) (fun h144 => ?_)
        · replace hh := iteO_t h144 hh
          replace h144 := of_decide_eq_true h144
          refine TC.skip ?_
          refine S.n ?_
          refine TC.seq ?_
          refine TC.block ?_
          refine TC.seq ?_
          refine TC.seq ?_
          refine TC.region ?_
          refine TL.v rfl (OpVal.moveSl (.inl rfl) rfl) rfl rfl ?_
          refine TL.v rfl (OpVal.lenC rfl Try.underlying22 rfl) rfl rfl ?_
          refine TL.v rfl (OpVal.gtr rfl rfl rfl) rfl rfl ?_
          refine TL.nil ?_
          refine S.n ?_
          refine TC.cond rfl (fun h145 => ?_) (fun h145 => ?_)
          · replace hh := iteO_t h145 hh
            replace h145 := of_decide_eq_true h145
            refine TC.seq ?_
            refine TC.region ?_
            refine TL.v rfl (OpVal.moveSl (.inr rfl) rfl) rfl rfl ?_
            refine TL.v rfl (OpVal.moveI (.inr rfl) rfl) rfl rfl ?_
            refine TL.nil ?_
            refine S.n ?_
            refine TC.ofSub (Sub.pre 0 rfl) ?_
            refine TC.ret ?_
            refine S.r ?_
            refine B.r ?_
            refine S.r ?_
            refine S.r ?_
            replace hh := fin_x hR1 hh
            refine B.r ?_
            refine S.r ?_
            obtain rfl := Option.some.inj hh
            exact RetOk.mk' (rs := [.tmp 4, .tmp 5]) [] rfl (.inl rfl) (RVs.tmp rfl (RVs.tmp rfl RVs.nil)) (List.sublist_append_left _ _) ⟨none, 0, rfl, (RS.nilF _ encS encS_len), rfl⟩
          · replace hh := iteO_f h145 hh
            replace h145 := of_decide_eq_false h145
            refine TC.skip ?_
            refine S.n ?_
            obtain ⟨v47, u47, hh⟩ := bnd_e hh
            refine TC.drawR (Hr := [Res.cells b101 #[.int .i64 x0.states, .slice a0_0 x0.starts.length c0_0, .slice a0_1 x0.ends.length c0_1, .slice a0_2 x0.arcs.length c0_2] 25]) (fun r hr => mem_pick [0] rfl hr) [] (by kernel_rfl) ?_
            refine TA.take 0 rfl (by kernel_rfl) (by kernel_rfl) (by kernel_rfl) (by kernel_rfl) rfl (OpVal.loadAll rfl ag25 sz25 rfl (i := 0) rfl rfl) rfl rfl ?_
            refine TA.takeP 1 rfl (by kernel_rfl) (by kernel_rfl) (by kernel_rfl) rfl (OpVal.moveSl (.inl rfl) rfl) rfl rfl ?_
            refine TA.takeP 2 rfl (by kernel_rfl) (by kernel_rfl) (by kernel_rfl) rfl (OpVal.moveStr (.inl rfl) rfl) rfl rfl ?_
            refine TA.takeP 3 rfl (by kernel_rfl) (by kernel_rfl) (by kernel_rfl) rfl (OpVal.moveI (.inl rfl) rfl) rfl rfl ?_
            refine TA.takeP 4 rfl (by kernel_rfl) (by kernel_rfl) (by kernel_rfl) rfl (OpVal.indexBs rfl Try.underlying9 rfl rfl (by omega)) rfl rfl ?_
            refine TA.front 1 rfl rfl ?_
            refine TA.sealS encTip_len (fun τ153 hle152 hr151 => ?_)
            replace f0_0 := f0_0.mono hle152
            replace f0_1 := f0_1.mono hle152
            replace f0_2 := f0_2.mono hle152
            have hr151b := hr151.rv.big
            refine TA.act 5 (by kernel_rfl) rfl rfl (OpOk.call (whittleref15_Step_con (x0 := x0) f0_0 f0_1 f0_2 hr151 u47) rfl rfl pf26 rfl rfl rfl rfl ?_)
            rintro _ _ _ hle154 ⟨a154_1, c154_1, rfl, rfl, rfl⟩
            refine ⟨(fun w h => sees_of hle152 (fun r hr => (List.mem_cons_of_mem _ hr)) w h), ?_⟩
            refine TA.takeP 6 rfl (by kernel_rfl) (by kernel_rfl) (by kernel_rfl) rfl (OpVal.moveSl (.inr rfl) rfl) rfl rfl ?_
            refine TA.done (by kernel_rfl) ?_
            refine B.n ?_
            refine S.n ?_
            refine TC.region ?_
            refine TL.v rfl (OpVal.moveI (.inl rfl) rfl) rfl rfl ?_
            refine TL.v rfl (OpVal.succ rfl rfl rfl (by omega)) rfl rfl ?_
            refine TL.v rfl (OpVal.moveI (.inr rfl) rfl) rfl rfl ?_
            refine TL.nil ?_
            refine S.n ?_
            obtain ⟨hh, hlt156⟩ := nxt_x hR1 hh
            refine ⟨by repeat (first | exact Agr.refl _ _ | exact Agr.mask | refine Agr.upd rfl ?_ | refine Agr.maskIn rfl ?_ | refine Agr.upds rfl ?_), ((v47, (k140 + 1)), (a154_1, c154_1, τ153)), hlt156, ⟨hh, (hle142.trans hle152)⟩, by repeat (first | exact trivial | refine ⟨rfl, ?_⟩), Sub.front 1 rfl rfl (Sub.pre 2 rfl), rfl⟩
        · replace hh := iteO_f h144 hh
          replace h144 := of_decide_eq_false h144
          refine TC.exit ?_
          refine S.x ?_
          refine S.x ?_
          replace hh := fin_x hR1 hh
          refine TC.exitHere ?_
          refine S.n ?_
          refine TC.seq ?_
          refine TC.seq ?_
          refine TC.region ?_
          refine TL.v rfl (OpVal.moveSl (.inl rfl) rfl) rfl rfl ?_
          refine TL.v rfl (OpVal.lenC rfl Try.underlying22 rfl) rfl rfl ?_
          refine TL.v rfl (OpVal.gtr rfl rfl rfl) rfl rfl ?_
          refine TL.nil ?_
          refine S.n ?_
          refine TC.cond rfl (fun h157 => ?_) (fun h157 => ?_)
          · replace hh := iteO_t h157 hh
            replace h157 := of_decide_eq_true h157
            refine TC.seq ?_
            refine TC.region ?_
            refine TL.v rfl (OpVal.moveSl (.inr rfl) rfl) rfl rfl ?_
            refine TL.v rfl (OpVal.moveI (.inr rfl) rfl) rfl rfl ?_
            refine TL.nil ?_
            refine S.n ?_
            refine TC.ofSub (Sub.pre 0 rfl) ?_
            refine TC.ret ?_
            refine S.r ?_
            obtain rfl := Option.some.inj hh
            exact RetOk.mk' (rs := [.tmp 4, .tmp 5]) [] rfl (.inl rfl) (RVs.tmp rfl (RVs.tmp rfl RVs.nil)) (List.sublist_append_left _ _) ⟨none, 0, rfl, (RS.nilF _ encS encS_len), rfl⟩
          · replace hh := iteO_f h157 hh
            replace h157 := of_decide_eq_false h157
            refine TC.skip ?_
            refine S.n ?_
            refine TC.seq ?_
            refine TC.region ?_
            refine TL.v rfl (OpVal.moveSl (.inr rfl) rfl) rfl rfl ?_
            refine TL.nil ?_
            refine S.n ?_
            refine TC.seq ?_
            refine TC.seq ?_
            refine TC.region ?_
            refine TL.v rfl (OpVal.moveI (.inr rfl) rfl) rfl rfl ?_
            refine TL.nil ?_
            refine S.n ?_
            refine TC.block ?_
            refine TC.nilS 9 1 encS ?_
            refine TC.loopG (α := ((List (List UInt8)) × Nat) × ((Option Addr) × Nat)) [9, 10, 11, 50, 51, 52, 53, 54, 55, 56, 57, 58, 59, 60, 61, 62, 63, 64, 65, 66, 67, 68, 69, 70, 71, 72, 73, 74, 75, 76, 77, 78, 79, 80, 81, 82, 83, 84, 85, 86, 87, 88, 89] (fun g => [(9, .slice g.2.1 g.1.1.length g.2.2), (10, .int .i64 ((g.1.2 : Nat) : Int))]) (fun g => [Res.cells b101 #[.int .i64 x0.states, .slice a0_0 x0.starts.length c0_0, .slice a0_1 x0.ends.length c0_1, .slice a0_2 x0.arcs.length c0_2] 25, Res.rowS 57 2 encTip (.slice a138 l137.length c139) l137, Res.rowS 9 1 encS (.slice g.2.1 g.1.1.length g.2.2) g.1.1]) (fun g => τ141) (fun g => iter (fun q : (List (List UInt8)) × Nat => whittleref15_Outs_b3 l137 x0 q.1 q.2) g.1 = some r) (fun g => rounds (fun q : (List (List UInt8)) × Nat => whittleref15_Outs_b3 l137 x0 q.1 q.2) g.1) ((([] : List (List UInt8)), 0), (none, 0)) (Sub.front 2 rfl rfl (Sub.front 2 rfl rfl (Sub.pre 3 rfl))) rfl (by repeat (first | exact trivial | refine ⟨rfl, ?_⟩)) hh (fun g3 j3 hg3 => ?_)
            obtain ⟨⟨l169, k172⟩, ⟨a170, c171⟩⟩ := g3
            have hh := hg3; clear hg3
            show TC _ _ _ (upds (mask _ j3 _) [(9, .slice a170 l169.length c171), (10, .int .i64 ((k172 : Nat) : Int))]) _ [Res.cells b101 #[.int .i64 x0.states, .slice a0_0 x0.starts.length c0_0, .slice a0_1 x0.ends.length c0_1, .slice a0_2 x0.arcs.length c0_2] 25, Res.rowS 57 2 encTip (.slice a138 l137.length c139) l137, Res.rowS 9 1 encS (.slice a170 l169.length c171) l169]
            obtain ⟨z1, hh, hR1⟩ := iter_e hh
            dsimp only [whittleref15_Outs_b3] at hh
            refine TC.isSl (i := 1) rfl (fun _ hb174 _ => ?_)
            refine TC.isSl (i := 2) rfl (fun _ hb175 _ => ?_)
            refine TC.seq ?_
            refine TC.seq ?_
            refine TC.region ?_
            refine TL.v rfl (OpVal.moveI (.inl rfl) rfl) rfl rfl ?_
            refine TL.v rfl (OpVal.moveSl (.inl rfl) rfl) rfl rfl ?_
            refine TL.v rfl (OpVal.lenC rfl Try.underlying22 rfl) rfl rfl ?_
            refine TL.v rfl (OpVal.lss rfl rfl rfl) rfl rfl ?_
            refine TL.nil ?_
            refine S.n ?_
            refine TC.cond rfl (fun h176 => ?_) (fun h176 => ?_)
            · replace hh := iteO_t h176 hh
              replace h176 := of_decide_eq_true h176
              refine TC.skip ?_
              refine S.n ?_
              refine TC.seq ?_
              refine TC.block ?_
              refine TC.seq ?_
              refine TC.region ?_
              refine TL.v rfl (OpVal.moveI (.inr rfl) rfl) rfl rfl ?_
              refine TL.nil ?_
              refine S.n ?_
              refine TC.block ?_
              refine TC.loopG (α := ((List (List UInt8)) × Nat) × ((Option Addr) × Nat)) [9, 11, 56, 57, 58, 59, 60, 61, 62, 63, 64, 65, 66, 67, 68, 69, 70, 71, 72, 73, 74, 75, 76, 77, 78, 79, 80, 81, 82, 83, 84, 85, 86, 87, 88, 89] (fun g => [(9, .slice g.2.1 g.1.1.length g.2.2), (11, .int .i64 ((g.1.2 : Nat) : Int))]) (fun g => [Res.cells b101 #[.int .i64 x0.states, .slice a0_0 x0.starts.length c0_0, .slice a0_1 x0.ends.length c0_1, .slice a0_2 x0.arcs.length c0_2] 25, Res.rowS 57 2 encTip (.slice a138 l137.length c139) l137, Res.rowS 9 1 encS (.slice g.2.1 g.1.1.length g.2.2) g.1.1]) (fun g => τ141) (fun g => iter (fun q : (List (List UInt8)) × Nat => whittleref15_Outs_b4 x0 l137 k172 q.1 q.2) g.1 = some z1) (fun g => rounds (fun q : (List (List UInt8)) × Nat => whittleref15_Outs_b4 x0 l137 k172 q.1 q.2) g.1) ((l169, 0), (a170, c171)) (Sub.front 2 rfl rfl (Sub.front 2 rfl rfl (Sub.front 2 rfl rfl (Sub.pre 3 rfl)))) rfl (by repeat (first | exact trivial | refine ⟨rfl, ?_⟩)) hh (fun g4 j4 hg4 => ?_)
              obtain ⟨⟨l185, k188⟩, ⟨a186, c187⟩⟩ := g4
              have hh := hg4; clear hg4
              show TC _ _ _ (upds (mask _ j4 _) [(9, .slice a186 l185.length c187), (11, .int .i64 ((k188 : Nat) : Int))]) _ [Res.cells b101 #[.int .i64 x0.states, .slice a0_0 x0.starts.length c0_0, .slice a0_1 x0.ends.length c0_1, .slice a0_2 x0.arcs.length c0_2] 25, Res.rowS 57 2 encTip (.slice a138 l137.length c139) l137, Res.rowS 9 1 encS (.slice a186 l185.length c187) l185]
              obtain ⟨z2, hh, hR2⟩ := iter_e hh
              dsimp only [whittleref15_Outs_b4] at hh
              refine TC.isSl (i := 1) rfl (fun _ hb189 _ => ?_)
              refine TC.isSl (i := 2) rfl (fun _ hb190 _ => ?_)
              refine TC.seq ?_
              refine TC.seq ?_
              refine TC.region ?_
              refine TL.v rfl (OpVal.moveI (.inl rfl) rfl) rfl rfl ?_
              refine TL.v rfl (OpVal.fieldLoc rfl fo25_2 rfl) rfl rfl ?_
              refine TL.v rfl (OpVal.loadLoc rfl ag22 rfl (i := 0) rfl rfl) rfl rfl ?_
              refine TL.v rfl (OpVal.lenC rfl Try.underlying22 rfl) rfl rfl ?_
              refine TL.v rfl (OpVal.lss rfl rfl rfl) rfl rfl ?_
              refine TL.nil ?_
              refine S.n ?_
              refine TC.cond rfl (fun h191 => ?_) (fun h191 => ?_)
              · replace hh := iteO_t h191 hh
                replace h191 := of_decide_eq_true h191
                refine TC.skip ?_
                refine S.n ?_
                refine TC.cutG (α := ((List (List UInt8))) × ((Option Addr) × Nat)) [9, 63, 64, 65, 66, 67, 68, 69, 70, 71, 72, 73, 74, 75, 76, 77, 78, 79, 80, 81, 82, 83, 84, 85, 86, 87, 88, 89] (fun g => [(9, .slice g.2.1 g.1.length g.2.2)]) (fun g => [Res.cells b101 #[.int .i64 x0.states, .slice a0_0 x0.starts.length c0_0, .slice a0_1 x0.ends.length c0_1, .slice a0_2 x0.arcs.length c0_2] 25, Res.rowS 57 2 encTip (.slice a138 l137.length c139) l137, Res.rowS 9 1 encS (.slice g.2.1 g.1.length g.2.2) g.1]) (fun g => τ141) (fun g => whittleref15_Outs_j1 k188 g.1 = some z2) ?_ (fun g j hg => ?_)
                · skip
                  refine TC.block ?_
                  refine TC.seq ?_
                  refine TC.draw [] (by kernel_rfl) ?_
                  refine TA.takeP 0 rfl (by kernel_rfl) (by kernel_rfl) (by kernel_rfl) rfl (OpVal.fieldLoc rfl fo25_2 rfl) rfl rfl ?_
                  refine TA.take 1 rfl (by kernel_rfl) (by kernel_rfl) (by kernel_rfl) (by kernel_rfl) rfl (OpVal.loadLoc rfl ag22 rfl (i := 0) rfl rfl) rfl rfl ?_
                  refine TA.takeP 2 rfl (by kernel_rfl) (by kernel_rfl) (by kernel_rfl) rfl (OpVal.moveI (.inl rfl) rfl) rfl rfl ?_
                  refine TA.take 3 rfl (by kernel_rfl) (by kernel_rfl) (by kernel_rfl) (by kernel_rfl) rfl (OpVal.indexN rfl Try.underlying22 sz57 rfl rfl f0_1.rv.sl (by omega)) rfl rfl ?_
                  refine TA.takeP 4 rfl (by kernel_rfl) (by kernel_rfl) (by kernel_rfl) rfl (OpVal.fieldElem rfl fo57_0 rfl f0_1.rv.sl (by omega)) rfl rfl ?_
                  refine TA.take 5 rfl (by kernel_rfl) (by kernel_rfl) (by kernel_rfl) (by kernel_rfl) rfl (OpVal.loadS Tip.zero rfl ag3 rfl f0_1 (by omega) (by omega) rfl) rfl rfl ?_
                  refine TA.takeP 6 rfl (by kernel_rfl) (by kernel_rfl) (by kernel_rfl) rfl (OpVal.moveSl (.inl rfl) rfl) rfl rfl ?_
                  refine TA.takeP 7 rfl (by kernel_rfl) (by kernel_rfl) (by kernel_rfl) rfl (OpVal.moveI (.inl rfl) rfl) rfl rfl ?_
                  refine TA.isSl (i := 1) rfl (fun hs197 _ _ => ?_)
                  refine TA.take 8 rfl (by kernel_rfl) (by kernel_rfl) (by kernel_rfl) (by kernel_rfl) rfl (OpVal.indexN rfl Try.underlying22 sz57 rfl rfl hs197 (by omega)) rfl rfl ?_
                  refine TA.isSl (i := 1) rfl (fun hs198 _ _ => ?_)
                  refine TA.takeP 9 rfl (by kernel_rfl) (by kernel_rfl) (by kernel_rfl) rfl (OpVal.fieldElem rfl fo57_0 rfl hs198 (by omega)) rfl rfl ?_
                  refine TA.take 10 rfl (by kernel_rfl) (by kernel_rfl) (by kernel_rfl) (by kernel_rfl) rfl (OpVal.loadO Tip.zero rfl ag3 rfl (q := 1) rfl encTip_len (by omega) (by omega) rfl) rfl rfl ?_
                  refine TA.takeP 11 rfl (by kernel_rfl) (by kernel_rfl) (by kernel_rfl) rfl (OpVal.eql rfl rfl rfl) rfl rfl ?_
                  refine TA.done (by kernel_rfl) ?_
                  refine S.n ?_
                  refine TC.cond rfl (fun h199 => ?_) (fun h199 => ?_)
                  · replace hh := iteO_t h199 hh
                    replace h199 := of_decide_eq_true h199
                    have u93 := grd_c hh
                    replace hh := grd_t hh
                    have u95 := grd_c hh
                    replace hh := grd_t hh
                    refine TC.draw [14, 15] (by kernel_rfl) ?_
                    refine TA.takeP 0 rfl (by kernel_rfl) (by kernel_rfl) (by kernel_rfl) rfl (OpVal.moveSl (.inl rfl) rfl) rfl rfl ?_
                    refine TA.takeP 1 rfl (by kernel_rfl) (by kernel_rfl) (by kernel_rfl) rfl (OpVal.moveSl (.inl rfl) rfl) rfl rfl ?_
                    refine TA.takeP 2 rfl (by kernel_rfl) (by kernel_rfl) (by kernel_rfl) rfl (OpVal.moveI (.inl rfl) rfl) rfl rfl ?_
                    refine TA.isSl (i := 1) rfl (fun hs207 _ _ => ?_)
                    refine TA.take 3 rfl (by kernel_rfl) (by kernel_rfl) (by kernel_rfl) (by kernel_rfl) rfl (OpVal.indexN rfl Try.underlying22 sz57 rfl rfl hs207 (by omega)) rfl rfl ?_
                    refine TA.isSl (i := 1) rfl (fun hs208 _ _ => ?_)
                    refine TA.takeP 4 rfl (by kernel_rfl) (by kernel_rfl) (by kernel_rfl) rfl (OpVal.fieldElem rfl fo57_1 rfl hs208 (by omega)) rfl rfl ?_
                    refine TA.take 5 rfl (by kernel_rfl) (by kernel_rfl) (by kernel_rfl) (by kernel_rfl) rfl (OpVal.loadO Tip.zero rfl ag9 rfl (q := 1) rfl encTip_len (by omega) (by omega) rfl) rfl rfl ?_
                    refine TA.takeP 6 rfl (by kernel_rfl) (by kernel_rfl) (by kernel_rfl) rfl (OpVal.fieldLoc rfl fo25_2 rfl) rfl rfl ?_
                    refine TA.take 7 rfl (by kernel_rfl) (by kernel_rfl) (by kernel_rfl) (by kernel_rfl) rfl (OpVal.loadLoc rfl ag22 rfl (i := 0) rfl rfl) rfl rfl ?_
                    refine TA.takeP 8 rfl (by kernel_rfl) (by kernel_rfl) (by kernel_rfl) rfl (OpVal.moveI (.inl rfl) rfl) rfl rfl ?_
                    refine TA.take 9 rfl (by kernel_rfl) (by kernel_rfl) (by kernel_rfl) (by kernel_rfl) rfl (OpVal.indexN rfl Try.underlying22 sz57 rfl rfl f0_1.rv.sl (by omega)) rfl rfl ?_
                    refine TA.takeP 10 rfl (by kernel_rfl) (by kernel_rfl) (by kernel_rfl) rfl (OpVal.fieldElem rfl fo57_1 rfl f0_1.rv.sl (by omega)) rfl rfl ?_
                    refine TA.take 11 rfl (by kernel_rfl) (by kernel_rfl) (by kernel_rfl) (by kernel_rfl) rfl (OpVal.loadS Tip.zero rfl ag9 rfl f0_1 (by omega) (by omega) rfl) rfl rfl ?_
                    refine TA.takeP 12 rfl (by kernel_rfl) (by kernel_rfl) (by kernel_rfl) rfl (OpVal.catBs rfl rfl rfl u93) rfl rfl ?_
                    refine TA.act 13 (by kernel_rfl) rfl rfl (OpOk.lit (enc := encS) [((nth l137 k172 Tip.zero).out ++ (nth x0.ends k188 Tip.zero).out)] rfl Try.underlying27 sz9 ze9 rfl rfl rfl encS_len (by decide) (by decide) ([] : List UInt8) rfl (by decide) rfl (by decide) encS_one (fun a209 c210 => ⟨(fun w h => sees_of (Store.le.refl _) (fun r hr => (List.mem_cons_of_mem _ hr)) w h), ?_⟩))
                    refine TA.front 3 rfl rfl ?_
                    refine TA.last 14 (by kernel_rfl) rfl rfl rfl (OpOk.appendS rfl rfl Try.underlying27 sz9 by9 ze9 rfl rfl (by decide) rfl rfl rfl (.inr ⟨_, 0, rfl⟩) (by simpa using u95) (by decide) (fun a212 c213 => ?_))
                    refine TZ.v 15 (by kernel_rfl) rfl rfl rfl (OpVal.moveSl (.inr rfl) rfl) rfl rfl ?_
                    refine TZ.done (by kernel_rfl) ?_
                    refine B.n ?_
                    refine S.n ?_
                    refine ⟨by repeat (first | exact Agr.refl _ _ | exact Agr.mask | refine Agr.upd rfl ?_ | refine Agr.maskIn rfl ?_ | refine Agr.upds rfl ?_), ((l185 ++ [((nth l137 k172 Tip.zero).out ++ (nth x0.ends k188 Tip.zero).out)]), (a212, c213)), hh, by repeat (first | exact trivial | refine ⟨rfl, ?_⟩), Sub.front 3 rfl rfl (Sub.front 3 rfl rfl (Sub.pre 3 rfl)), rfl⟩
                  · replace hh := iteO_f h199 hh
                    replace h199 := of_decide_eq_false h199
                    refine TC.skip ?_
                    refine B.n ?_
                    refine S.n ?_
                    refine ⟨by repeat (first | exact Agr.refl _ _ | exact Agr.mask | refine Agr.upd rfl ?_ | refine Agr.maskIn rfl ?_ | refine Agr.upds rfl ?_), (l185, (a186, c187)), hh, by repeat (first | exact trivial | refine ⟨rfl, ?_⟩), Sub.front 2 rfl rfl (Sub.front 2 rfl rfl (Sub.front 2 rfl rfl (Sub.pre 3 rfl))), rfl⟩
                · skip
                  obtain ⟨l192, ⟨a193, c194⟩⟩ := g
                  have hh := hg; clear hg
                  show TC _ _ _ (upds (mask _ j _) [(9, .slice a193 l192.length c194)]) _ [Res.cells b101 #[.int .i64 x0.states, .slice a0_0 x0.starts.length c0_0, .slice a0_1 x0.ends.length c0_1, .slice a0_2 x0.arcs.length c0_2] 25, Res.rowS 57 2 encTip (.slice a138 l137.length c139) l137, Res.rowS 9 1 encS (.slice a193 l192.length c194) l192]
                  dsimp only [whittleref15_Outs_j1] at hh
                  refine TC.isSl (i := 1) rfl (fun _ hb214 _ => ?_)
                  refine TC.isSl (i := 2) rfl (fun _ hb215 _ => ?_)
                  refine TC.region ?_
                  refine TL.v rfl (OpVal.moveI (.inl rfl) rfl) rfl rfl ?_
                  refine TL.v rfl (OpVal.succ rfl rfl rfl (by omega)) rfl rfl ?_
                  refine TL.v rfl (OpVal.moveI (.inr rfl) rfl) rfl rfl ?_
                  refine TL.nil ?_
                  refine S.n ?_
                  obtain ⟨hh, hlt216⟩ := nxt_x hR2 hh
                  refine ⟨by repeat (first | exact Agr.refl _ _ | exact Agr.mask | refine Agr.upd rfl ?_ | refine Agr.maskIn rfl ?_ | refine Agr.upds rfl ?_), ((l192, (k188 + 1)), (a193, c194)), hlt216, hh, by repeat (first | exact trivial | refine ⟨rfl, ?_⟩), Sub.front 2 rfl rfl (Sub.front 2 rfl rfl (Sub.front 2 rfl rfl (Sub.pre 3 rfl))), rfl⟩
              · replace hh := iteO_f h191 hh
                replace h191 := of_decide_eq_false h191
                refine TC.exit ?_
                refine S.x ?_
                refine S.x ?_
                replace hh := fin_x hR2 hh
                refine TC.exitHere ?_
                refine B.n ?_
                refine S.n ?_
                refine TC.region ?_
                refine TL.v rfl (OpVal.moveI (.inl rfl) rfl) rfl rfl ?_
                refine TL.v rfl (OpVal.succ rfl rfl rfl (by omega)) rfl rfl ?_
                refine TL.v rfl (OpVal.moveI (.inr rfl) rfl) rfl rfl ?_
                refine TL.nil ?_
                refine S.n ?_
                obtain ⟨hh, hlt217⟩ := nxt_x hR1 hh
                refine ⟨by repeat (first | exact Agr.refl _ _ | exact Agr.mask | refine Agr.upd rfl ?_ | refine Agr.maskIn rfl ?_ | refine Agr.upds rfl ?_), ((l185, (k172 + 1)), (a186, c187)), hlt217, hh, by repeat (first | exact trivial | refine ⟨rfl, ?_⟩), Sub.front 2 rfl rfl (Sub.front 2 rfl rfl (Sub.front 2 rfl rfl (Sub.pre 3 rfl))), rfl⟩
            · replace hh := iteO_f h176 hh
              replace h176 := of_decide_eq_false h176
              refine TC.exit ?_
              refine S.x ?_
              refine S.x ?_
              replace hh := fin_x hR1 hh
              refine TC.exitHere ?_
              refine S.n ?_
              refine TC.seq ?_
              refine TC.region ?_
              refine TL.v rfl (OpVal.moveSl (.inl rfl) rfl) rfl rfl ?_
              refine TL.front 2 rfl rfl ?_
              refine TL.sealS encS_len (fun τ220 hle219 hr218 => ?_)
              replace f0_0 := f0_0.mono hle219
              replace f0_1 := f0_1.mono hle219
              replace f0_2 := f0_2.mono hle219
              have hr218b := hr218.rv.big
              obtain ⟨v104, u104, hh⟩ := bnd_e hh
              refine TL.op rfl (OpOk.call (whittleref15_Texts_con hr218 u104) rfl rfl pf27 rfl rfl rfl rfl ?_)
              rintro _ τ221 _ hle221 ⟨a221_1, c221_1, rfl, hr221_0, rfl⟩
              replace f0_0 := f0_0.mono hle221
              replace f0_1 := f0_1.mono hle221
              replace f0_2 := f0_2.mono hle221
              replace hr218 := hr218.mono hle221
              have hr221_0b := hr221_0.rv.big
              refine TL.v rfl (OpVal.moveSl (.inr rfl) rfl) rfl rfl ?_
              refine TL.v rfl (OpVal.moveI (.inr rfl) rfl) rfl rfl ?_
              refine TL.nil ?_
              refine S.n ?_
              refine TC.ofSub (Sub.pre 0 rfl) ?_
              refine TC.ret ?_
              obtain rfl := Option.some.inj hh
              exact RetOk.mk' (rs := [.tmp 4, .tmp 5]) [] rfl (.inl rfl) (RVs.tmp rfl (RVs.tmp rfl RVs.nil)) (List.sublist_append_left _ _) ⟨a221_1, c221_1, rfl, hr221_0, rfl⟩

end Go.Proofs.Ytpijipnmfkehcaa
