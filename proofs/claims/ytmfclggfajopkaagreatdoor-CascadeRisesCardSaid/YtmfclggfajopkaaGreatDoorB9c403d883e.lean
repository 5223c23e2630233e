/- Parts of a proof, one behind the other: what a machine reaches, functions decompiled, plain lemmas. Conditions stand with each lemma. -/
import Derived.Test.YtmfclggfajopkaaGreatDoorBe9549f1917
import Derived.Test.YtmfclggfajopkaaGreatDoorB80c386d151
import Derived.Test.YtmfclggfajopkaaGreatDoorB7d0a49a232
import Derived.Lib.Builder
import Derived.Lib.AppendStr
import Derived.Lib.UnsafeStr

/- R3 -/
section
/- Decompiled: transducers that go one way; rules. -/
set_option linter.unusedVariables false
set_option linter.unusedSimpArgs false
namespace Go.Proofs.YtmfclggfajopkaaGreatDoor
open Go Go.E
set_option maxRecDepth 100000
private theorem ag23 : Go.E.aggOf Tryz.prog 23 = some false := by kernel_rfl
private theorem ag24 : Go.E.aggOf Tryz.prog 24 = some false := by kernel_rfl
private theorem ag26 : Go.E.aggOf Tryz.prog 26 = some true := by kernel_rfl
private theorem ag27 : Go.E.aggOf Tryz.prog 27 = some false := by kernel_rfl
private theorem ag28 : Go.E.aggOf Tryz.prog 28 = some false := by kernel_rfl
private theorem ag30 : Go.E.aggOf Tryz.prog 30 = some true := by kernel_rfl
private theorem ag9 : Go.E.aggOf Tryz.prog 9 = some false := by kernel_rfl
private theorem fo30_0 : Go.E.foOf Tryz.prog 30 0 = some 0 := by kernel_rfl
private theorem fo30_1 : Go.E.foOf Tryz.prog 30 1 = some 1 := by kernel_rfl
private theorem fo30_2 : Go.E.foOf Tryz.prog 30 2 = some 2 := by kernel_rfl
private theorem fo30_3 : Go.E.foOf Tryz.prog 30 3 = some 3 := by kernel_rfl
private theorem fo30_4 : Go.E.foOf Tryz.prog 30 4 = some 4 := by kernel_rfl
private theorem fo32_0 : Go.E.foOf Tryz.prog 32 0 = some 0 := by kernel_rfl
private theorem fo32_1 : Go.E.foOf Tryz.prog 32 1 = some 3 := by kernel_rfl
private theorem fo32_2 : Go.E.foOf Tryz.prog 32 2 = some 6 := by kernel_rfl
private theorem fo32_3 : Go.E.foOf Tryz.prog 32 3 = some 9 := by kernel_rfl
private theorem fo32_4 : Go.E.foOf Tryz.prog 32 4 = some 10 := by kernel_rfl
private theorem fo32_5 : Go.E.foOf Tryz.prog 32 5 = some 11 := by kernel_rfl
private theorem fo56_0 : Go.E.foOf Tryz.prog 56 0 = some 0 := by kernel_rfl
private theorem fo56_1 : Go.E.foOf Tryz.prog 56 1 = some 1 := by kernel_rfl
private theorem pf25 : Go.E.plainF Tryz.prog 25 = true := by kernel_rfl
private theorem pf26 : Go.E.plainF Tryz.prog 26 = true := by kernel_rfl
private theorem pf43 : Go.E.plainF Tryz.prog 43 = true := by kernel_rfl
private theorem pf44 : Go.E.plainF Tryz.prog 44 = true := by kernel_rfl
private theorem pf87 : Go.E.plainF Tryz.prog 87 = true := by kernel_rfl
private theorem sz22 : Go.E.szOf Tryz.prog 22 = some 1 := by kernel_rfl
private theorem sz26 : Go.E.szOf Tryz.prog 26 = some 3 := by kernel_rfl
private theorem sz28 : Go.E.szOf Tryz.prog 28 = some 1 := by kernel_rfl
private theorem sz30 : Go.E.szOf Tryz.prog 30 = some 5 := by kernel_rfl
private theorem sz9 : Go.E.szOf Tryz.prog 9 = some 1 := by kernel_rfl
private theorem ze26 : Go.E.zeroOf Tryz.prog 26 = some (.agg #[.slice none 0 0, .slice none 0 0, .slice none 0 0]) := by kernel_rfl
private theorem ze30 : Go.E.zeroOf Tryz.prog 30 = some (.agg #[.string ByteArray.empty, .slice none 0 0, .slice none 0 0, .slice none 0 0, .slice none 0 0]) := by kernel_rfl

noncomputable def seq_row_j1 (k105 : Nat) : Option ((Nat) ⊕ (Bool)) :=
 nxt (k105 + 1)
noncomputable def seq_row_b1 (x0 : List Int) (x2 : Int) (x1 : List (List UInt8)) (k105 : Nat) : Option ((Nat) ⊕ (Bool)) :=
 iteO (decide (((k105 : Nat) : Int) < ((x0.length : Nat) : Int))) (iteO (decide ((nth x0 k105 (0 : Int)) < (-1))) (fin (some false)) (iteO (decide (x2 ≤ (nth x0 k105 (0 : Int)))) (fin (some false)) (grd (k105 < x1.length) (iteO (decide (4096 < (((nth x1 k105 ([] : List UInt8)).length : Nat) : Int))) (fin (some false)) (iteO (decide ((nth x0 k105 (0 : Int)) = (-1))) (grd (k105 < x1.length) (iteO (decide ((nth x1 k105 ([] : List UInt8)) ≠ ([] : List UInt8))) (fin (some false)) (seq_row_j1 k105))) (seq_row_j1 k105)))))) (fin (some true))
noncomputable def seq_row (x0 : List Int) (x1 : List (List UInt8)) (x2 : Int) : Option (Bool) :=
 iteO (decide (((x0.length : Nat) : Int) ≠ 256)) (some false) (iteO (decide (((x1.length : Nat) : Int) ≠ 256)) (some false) (iter (fun q : Nat => seq_row_b1 x0 x2 x1 q) 0))
theorem seq_row_con {σ : Store} {x0 : List Int} {a0_0 : Option Addr} {c0_0 : Nat} {x1 : List (List UInt8)} {a1_0 : Option Addr} {c1_0 : Nat} {x2 : Int} (f0_0 : RS σ 1 Go.E.encI (.slice a0_0 x0.length c0_0) x0) (f1_0 : RS σ 1 Go.E.encS (.slice a1_0 x1.length c1_0) x1) {r : Bool} (hh : seq_row x0 x1 x2 = some r) :
  Con Tryz.prog 87 #[.slice a0_0 x0.length c0_0, .slice a1_0 x1.length c1_0, .int .i64 x2] σ [] (PureP (.bool r) σ) := by
 dsimp only [seq_row] at hh
 have f0_0b := f0_0.rv.big
 have f1_0b := f1_0.rv.big
 refine Con.mk (n := 51) Tryz.func87 z z z (fun w0 => ?_)
 refine TC.seq (TC.region (TL.v z (OpVal.moveB (.inr z) z) z z (TL.nil (S.n (TC.seq (TC.seq (TC.region (TL.v z (OpVal.moveSl (.inl z) z) z z (TL.v z (OpVal.lenC z Tryz.underlying22 z) z z ?_)))))))))
 refine TL.v z (OpVal.neq z z z) z z (TL.v z (OpVal.moveB (.inl z) z) z z (TL.split 12 z (fun h101 => ?_) (fun h101 => ?_)))
 ·replace hh := iteO_t h101 hh
  replace h101 := of_decide_eq_true h101
  refine TL.goff z z z z z z z z (TL.goff z z z z z z z z (TL.goff z z z z z z z z (TL.v z (OpVal.pickTB z z z) z z (TL.nil (S.n (TC.cond z (fun _ => ?_) (fun h => Bool.noConfusion h)))))))
  refine TC.seq (TC.region (TL.v z (OpVal.moveB (.inr z) z) z z (TL.nil (S.n (TC.ret (S.r ?_))))))
  obtain rfl := Option.some.inj hh
  exact RetOk.mk' (rs := [.tmp 6]) [] z (.inl z) (RVs.tmp z RVs.nil) (List.sublist_append_left _ _) ⟨z, z, z⟩
 ·replace hh := iteO_f h101 hh
  replace h101 := of_decide_eq_false h101
  refine TL.gv z z z z z (OpVal.moveSl (.inl z) z) z z (TL.gv z z z z z (OpVal.lenC z Tryz.underlying28 z) z z (TL.gv z z z z z (OpVal.neq z z z) z z (TL.v z (OpVal.pickFB z z z) z z (TL.nil (S.n (TC.cond z (fun h102 => ?_) (fun h102 => ?_)))))))
  ·replace hh := iteO_t h102 hh
   replace h102 := of_decide_eq_true h102
   refine TC.seq (TC.region (TL.v z (OpVal.moveB (.inr z) z) z z (TL.nil (S.n (TC.ret (S.r ?_))))))
   obtain rfl := Option.some.inj hh
   exact RetOk.mk' (rs := [.tmp 6]) [] z (.inl z) (RVs.tmp z RVs.nil) (List.sublist_append_left _ _) ⟨z, z, z⟩
  ·replace hh := iteO_f h102 hh
   replace h102 := of_decide_eq_false h102
   refine TC.skip (S.n (TC.seq (TC.seq (TC.region (TL.v z (OpVal.moveSl (.inl z) z) z z (TL.v z (OpVal.lenC z Tryz.underlying22 z) z z (TL.v z (OpVal.moveI (.inl z) z) z z (TL.nil (S.n ?_)))))))))
   refine TC.block (TC.loopG (α := (Nat) × (Unit)) [6, 7, 8, 19, 20, 21, 22, 23, 24, 25, 26, 27, 28, 29, 30, 31, 32, 33, 34, 35, 36, 37, 38, 39, 40, 41, 42, 43, 44, 45, 46, 47, 48, 49, 50] (fun g => [(19, .int .i64 ((g.1 : Nat) : Int))]) (fun g => []) (fun g => σ) (fun g => iter (fun q : Nat => seq_row_b1 x0 x2 x1 q) g.1 = some r) (fun g => rounds (fun q : Nat => seq_row_b1 x0 x2 x1 q) g.1) (0, ()) (Sub.pre 0 z) z (by repeat (first | exact trivial | refine ⟨z, ?_⟩)) hh (fun g1 j1 hg1 => ?_))
   obtain ⟨k105, _⟩ := g1
   have hh := hg1; clear hg1
   show TC _ _ _ (upds (mask _ j1 _) [(19, .int .i64 ((k105 : Nat) : Int))]) _ []
   obtain ⟨z1, hh, hR1⟩ := iter_e hh
   dsimp only [seq_row_b1] at hh
   refine TC.seq (TC.region (TL.v z (OpVal.lss z z z) z z (TL.nil (S.n (TC.seq (TC.cond z (fun h106 => ?_) (fun h106 => ?_)))))))
   ·replace hh := iteO_t h106 hh
    replace h106 := of_decide_eq_true h106
    refine TC.skip (S.n (TC.cutG (α := (Unit) × (Unit)) [6, 7, 8, 21, 22, 23, 24, 25, 26, 27, 28, 29, 30, 31, 32, 33, 34, 35, 36, 37, 38, 39, 40, 41, 42, 43, 44, 45, 46, 47, 48, 49] (fun g => []) (fun g => []) (fun g => σ) (fun g => seq_row_j1 k105 = some z1) ?_ (fun g j hg => ?_)))
    ·skip
     refine TC.block (TC.seq (TC.region (TL.v z (OpVal.moveI (.inl z) z) z z (TL.v z (OpVal.indexN z Tryz.underlying22 sz3 z z f0_0.rv.sl (by omega)) z z (TL.v z (OpVal.loadS1 (0 : Int) z ag3 z f0_0 (by omega) z) z z (TL.v z (OpVal.moveI (.inr z) z) z z (TL.v z (OpVal.moveI (.inr z) z) z z (TL.nil (S.n ?_)))))))))
     refine TC.seq (TC.region (TL.v z (OpVal.moveI (.inl z) z) z z (TL.v z (OpVal.lss z z z) z z (TL.v z (OpVal.moveB (.inl z) z) z z (TL.split 26 z (fun h107 => ?_) (fun h107 => ?_))))))
     ·replace hh := iteO_t h107 hh
      replace h107 := of_decide_eq_true h107
      refine TL.goff z z z z z z z z (TL.goff z z z z z z z z (TL.goff z z z z z z z z (TL.v z (OpVal.pickTB z z z) z z (TL.v z (OpVal.moveB (.inl z) z) z z (TL.goff z z z z z z z z (TL.goff z z z z z z z z (TL.goff z z z z z z z z (TL.goff z z z z z z z z (TL.goff z z z z z z z z ?_)))))))))
      refine TL.goff z z z z z z z z (TL.v z (OpVal.pickTB z z z) z z (TL.v z (OpVal.moveB (.inl z) z) z z (TL.goff z z z z z z z z (TL.goff z z z z z z z z (TL.goff z z z z z z z z (TL.goff' z z z z z z z (TL.goff' z z z z z z z (TL.goff' z z z z z z z (TL.goff' z z z z z z z ?_)))))))))
      refine TL.goff' z z z z z z z (TL.goff z z z z z z z z (TL.v z (OpVal.pickTB z z z) z z (TL.nil (S.n (TC.cond z (fun _ => ?_) (fun h => Bool.noConfusion h))))))
      refine TC.seq (TC.region (TL.v z (OpVal.moveB (.inr z) z) z z (TL.nil (S.n (TC.ret (B.r (S.r (S.r ?_))))))))
      replace hh := fin_x hR1 hh
      refine B.r (S.r ?_)
      obtain rfl := Option.some.inj hh
      exact RetOk.mk' (rs := [.tmp 6]) [] z (.inl z) (RVs.tmp z RVs.nil) (List.sublist_append_left _ _) ⟨z, z, z⟩
     ·replace hh := iteO_f h107 hh
      replace h107 := of_decide_eq_false h107
      refine TL.gv z z z z z (OpVal.moveI (.inl z) z) z z (TL.gv z z z z z (OpVal.moveI (.inl z) z) z z (TL.gv z z z z z (OpVal.geq z z z) z z (TL.v z (OpVal.pickFB z z z) z z (TL.v z (OpVal.moveB (.inl z) z) z z (TL.split 31 z (fun h108 => ?_) (fun h108 => ?_))))))
      ·replace hh := iteO_t h108 hh
       replace h108 := of_decide_eq_true h108
       refine TL.goff z z z z z z z z (TL.goff z z z z z z z z (TL.goff z z z z z z z z (TL.goff z z z z z z z z (TL.goff z z z z z z z z (TL.goff z z z z z z z z (TL.v z (OpVal.pickTB z z z) z z (TL.v z (OpVal.moveB (.inl z) z) z z (TL.goff z z z z z z z z (TL.goff z z z z z z z z ?_)))))))))
       refine TL.goff z z z z z z z z (TL.goff' z z z z z z z (TL.goff' z z z z z z z (TL.goff' z z z z z z z (TL.goff' z z z z z z z (TL.goff' z z z z z z z (TL.goff z z z z z z z z (TL.v z (OpVal.pickTB z z z) z z (TL.nil (S.n ?_)))))))))
       refine TC.cond z (fun _ => ?_) (fun h => Bool.noConfusion h)
       refine TC.seq (TC.region (TL.v z (OpVal.moveB (.inr z) z) z z (TL.nil (S.n (TC.ret (B.r (S.r (S.r ?_))))))))
       replace hh := fin_x hR1 hh
       refine B.r (S.r ?_)
       obtain rfl := Option.some.inj hh
       exact RetOk.mk' (rs := [.tmp 6]) [] z (.inl z) (RVs.tmp z RVs.nil) (List.sublist_append_left _ _) ⟨z, z, z⟩
      ·replace hh := iteO_f h108 hh
       replace h108 := of_decide_eq_false h108
       refine TL.gv z z z z z (OpVal.moveSl (.inl z) z) z z (TL.gv z z z z z (OpVal.moveI (.inl z) z) z z ?_)
       have u30 := grd_c hh
       replace hh := grd_t hh
       refine TL.gv z z z z z (OpVal.indexN z Tryz.underlying28 sz9 z z f1_0.rv.sl (by omega)) z z (TL.gv z z z z z (OpVal.loadS1 ([] : List UInt8) z ag9 z f1_0 (by omega) z) z z (TL.gv z z z z z (OpVal.lenBs z Tryz.underlying9 z) z z (TL.gv z z z z z (OpVal.gtr z z z) z z (TL.v z (OpVal.pickFB z z z) z z (TL.v z (OpVal.moveB (.inl z) z) z z (TL.split 39 z (fun h109 => ?_) (fun h109 => ?_)))))))
       ·replace hh := iteO_t h109 hh
        replace h109 := of_decide_eq_true h109
        refine TL.goff z z z z z z z z (TL.goff z z z z z z z z (TL.goff z z z z z z z z (TL.goff' z z z z z z z (TL.goff' z z z z z z z (TL.goff' z z z z z z z (TL.goff' z z z z z z z (TL.goff' z z z z z z z (TL.goff z z z z z z z z (TL.v z (OpVal.pickTB z z z) z z ?_)))))))))
        refine TL.nil (S.n (TC.cond z (fun _ => ?_) (fun h => Bool.noConfusion h)))
        refine TC.seq (TC.region (TL.v z (OpVal.moveB (.inr z) z) z z (TL.nil (S.n (TC.ret (B.r (S.r (S.r ?_))))))))
        replace hh := fin_x hR1 hh
        refine B.r (S.r ?_)
        obtain rfl := Option.some.inj hh
        exact RetOk.mk' (rs := [.tmp 6]) [] z (.inl z) (RVs.tmp z RVs.nil) (List.sublist_append_left _ _) ⟨z, z, z⟩
       ·replace hh := iteO_f h109 hh
        replace h109 := of_decide_eq_false h109
        refine TL.gv z z z z z (OpVal.moveI (.inl z) z) z z (TL.gv z z z z z (OpVal.eql z z z) z z (TL.gv z z z z z (OpVal.moveB (.inl z) z) z z (TL.split 42 z (fun h110 => ?_) (fun h110 => ?_))))
        ·replace hh := iteO_t h110 hh
         replace h110 := of_decide_eq_true h110
         refine TL.gv z z z z z (OpVal.moveSl (.inl z) z) z z (TL.gv z z z z z (OpVal.moveI (.inl z) z) z z ?_)
         have u41 := grd_c hh
         replace hh := grd_t hh
         refine TL.gv z z z z z (OpVal.indexN z Tryz.underlying28 sz9 z z f1_0.rv.sl (by omega)) z z (TL.gv z z z z z (OpVal.loadS1 ([] : List UInt8) z ag9 z f1_0 (by omega) z) z z (TL.gv z z z z z (OpVal.neqBs z z z) z z (TL.gv z z z z z (OpVal.pickTB z z z) z z (TL.v z (OpVal.pickFB z z z) z z (TL.nil (S.n (TC.cond z (fun h111 => ?_) (fun h111 => ?_))))))))
         ·replace hh := iteO_t h111 hh
          replace h111 := of_decide_eq_true h111
          refine TC.seq (TC.region (TL.v z (OpVal.moveB (.inr z) z) z z (TL.nil (S.n (TC.ret (B.r (S.r (S.r ?_))))))))
          replace hh := fin_x hR1 hh
          refine B.r (S.r ?_)
          obtain rfl := Option.some.inj hh
          exact RetOk.mk' (rs := [.tmp 6]) [] z (.inl z) (RVs.tmp z RVs.nil) (List.sublist_append_left _ _) ⟨z, z, z⟩
         ·replace hh := iteO_f h111 hh
          replace h111 := of_decide_eq_false h111
          refine TC.skip (B.n (S.n (⟨by repeat (first | exact Agr.refl _ _ | exact Agr.mask | refine Agr.upd z ?_ | refine Agr.maskIn z ?_ | refine Agr.upds z ?_), ((), ()), hh, by repeat (first | exact trivial | refine ⟨z, ?_⟩), Sub.pre 0 z, z⟩)))
        ·replace hh := iteO_f h110 hh
         replace h110 := of_decide_eq_false h110
         refine TL.goff z z z z z z z z (TL.goff z z z z z z z z (TL.goff z z z z z z z z (TL.goff z z z z z z z z (TL.goff z z z z z z z z (TL.gv z z z z z (OpVal.pickFB z z z) z z (TL.v z (OpVal.pickFB z z z) z z (TL.nil (S.n (TC.cond z (fun h => Bool.noConfusion h) (fun _ => ?_))))))))))
         refine TC.skip (B.n (S.n (⟨by repeat (first | exact Agr.refl _ _ | exact Agr.mask | refine Agr.upd z ?_ | refine Agr.maskIn z ?_ | refine Agr.upds z ?_), ((), ()), hh, by repeat (first | exact trivial | refine ⟨z, ?_⟩), Sub.pre 0 z, z⟩)))
    ·skip
     obtain ⟨_, _⟩ := g
     have hh := hg; clear hg
     show TC _ _ _ (upds (mask _ j _) []) _ []
     dsimp only [seq_row_j1] at hh
     refine TC.region (TL.v z (OpVal.succ z z z (by omega)) z z (TL.v z (OpVal.moveI (.inl z) z) z z (TL.nil (S.n ?_))))
     obtain ⟨hh, hlt112⟩ := nxt_x hR1 hh
     refine ⟨by repeat (first | exact Agr.refl _ _ | exact Agr.mask | refine Agr.upd z ?_ | refine Agr.maskIn z ?_ | refine Agr.upds z ?_), ((k105 + 1), ()), hlt112, hh, by repeat (first | exact trivial | refine ⟨z, ?_⟩), Sub.pre 0 z, z⟩
   ·replace hh := iteO_f h106 hh
    replace h106 := of_decide_eq_false h106
    refine TC.exit (S.x (S.x ?_))
    replace hh := fin_x hR1 hh
    refine TC.exitHere (S.n (TC.seq (TC.region (TL.v z (OpVal.moveB (.inr z) z) z z (TL.nil (S.n (TC.ret ?_)))))))
    obtain rfl := Option.some.inj hh
    exact RetOk.mk' (rs := [.tmp 6]) [] z (.inl z) (RVs.tmp z RVs.nil) (List.sublist_append_left _ _) ⟨z, z, z⟩

noncomputable def seq_Check_j2 (k112 : Nat) (x0 : Seq) : Option ((Nat) ⊕ (Int)) :=
 grd (k112 < x0.outs.length) (bnd (seq_row (nth x0.next k112 ([] : List Int)) (nth x0.outs k112 ([] : List (List UInt8))) ((x0.next.length : Nat) : Int)) (fun v85 => iteO (!v85) (fin (some 1)) (nxt (k112 + 1))))
noncomputable def seq_Check_b1 (x0 : Seq) (k112 : Nat) : Option ((Nat) ⊕ (Int)) :=
 iteO (decide (((k112 : Nat) : Int) < ((x0.next.length : Nat) : Int))) (grd (k112 < x0.tail.length) (iteO (decide (4096 < (((nth x0.tail k112 ([] : List UInt8)).length : Nat) : Int))) (fin (some 1)) (grd (k112 < x0.fin.length) (iteO (!(nth x0.fin k112 false)) (grd (k112 < x0.tail.length) (iteO (decide ((nth x0.tail k112 ([] : List UInt8)) ≠ ([] : List UInt8))) (fin (some 1)) (seq_Check_j2 k112 x0))) (seq_Check_j2 k112 x0))))) (fin (some 0))
noncomputable def seq_Check_j1 (x0 : Seq) : Option (Int) :=
 iter (fun q : Nat => seq_Check_b1 x0 q) 0
noncomputable def seq_Check (x0 : Seq) : Option (Int) :=
 iteO (decide (1024 < ((x0.next.length : Nat) : Int))) (some 1) (iteO (decide (((x0.outs.length : Nat) : Int) ≠ ((x0.next.length : Nat) : Int))) (some 1) (iteO (decide (((x0.fin.length : Nat) : Int) ≠ ((x0.next.length : Nat) : Int))) (some 1) (iteO (decide (((x0.tail.length : Nat) : Int) ≠ ((x0.next.length : Nat) : Int))) (some 1) (iteO (decide (4096 < ((x0.front.length : Nat) : Int))) (some 1) (iteO (decide (((x0.next.length : Nat) : Int) = 0)) (iteO (decide (x0.front ≠ ([] : List UInt8))) (some 1) (seq_Check_j1 x0)) (seq_Check_j1 x0))))))
theorem seq_Check_con {σ : Store} {x0 : Seq} {a0_0 : Option Addr} {c0_0 : Nat} {a0_1 : Option Addr} {c0_1 : Nat} {a0_2 : Option Addr} {c0_2 : Nat} {a0_3 : Option Addr} {c0_3 : Nat} (f0_0 : RZ σ (pkSl 1 Go.E.encI Go.E.encI_len) (.slice a0_0 x0.next.length c0_0) x0.next) (f0_1 : RZ σ (pkSl 1 Go.E.encS Go.E.encS_len) (.slice a0_1 x0.outs.length c0_1) x0.outs) (f0_2 : RS σ 1 encB (.slice a0_2 x0.fin.length c0_2) x0.fin) (f0_3 : RS σ 1 Go.E.encS (.slice a0_3 x0.tail.length c0_3) x0.tail) {r : Int} (hh : seq_Check x0 = some r) :
  Con Tryz.prog 44 #[.agg #[.string (bs x0.front), .slice a0_0 x0.next.length c0_0, .slice a0_1 x0.outs.length c0_1, .slice a0_2 x0.fin.length c0_2, .slice a0_3 x0.tail.length c0_3]] σ [] (PureP (.int .i64 r) σ) := by
 dsimp only [seq_Check] at hh
 have f0_0b := f0_0.big
 have f0_1b := f0_1.big
 have f0_2b := f0_2.rv.big
 have f0_3b := f0_3.rv.big
 refine Con.mk (n := 85) Tryz.func44 z z z (fun w0 => ?_)
 refine TC.seq (TC.region (TL.op z (OpOk.boxA z z z z (fun b101 => ?_))))
 refine TL.v z (OpVal.moveI (.inr z) z) z z (TL.nil (S.n (TC.seq (TC.region (TL.v z (OpVal.fieldLoc z fo30_1 z) z z (TL.v z (OpVal.loadLoc z ag23 z (i := 0) z z) z z (TL.v z (OpVal.lenC z Tryz.underlying23 z) z z (TL.v z (OpVal.moveI (.inr z) z) z z (TL.nil ?_)))))))))
 refine S.n (TC.seq (TC.seq (TC.region (TL.v z (OpVal.moveI (.inl z) z) z z (TL.v z (OpVal.gtr z z z) z z (TL.v z (OpVal.moveB (.inl z) z) z z (TL.split 10 z (fun h103 => ?_) (fun h103 => ?_))))))))
 ·replace hh := iteO_t h103 hh
  replace h103 := of_decide_eq_true h103
  refine TL.goff z z z z z z z z (TL.goff z z z z z z z z (TL.goff z z z z z z z z (TL.goff z z z z z z z z (TL.goff z z z z z z z z (TL.v z (OpVal.pickTB z z z) z z (TL.v z (OpVal.moveB (.inl z) z) z z (TL.goff z z z z z z z z (TL.goff z z z z z z z z (TL.goff z z z z z z z z ?_)))))))))
  refine TL.goff z z z z z z z z (TL.goff z z z z z z z z (TL.v z (OpVal.pickTB z z z) z z (TL.v z (OpVal.moveB (.inl z) z) z z (TL.goff z z z z z z z z (TL.goff z z z z z z z z (TL.goff z z z z z z z z (TL.goff z z z z z z z z (TL.goff z z z z z z z z (TL.v z (OpVal.pickTB z z z) z z ?_)))))))))
  refine TL.nil (S.n (TC.cond z (fun _ => ?_) (fun h => Bool.noConfusion h)))
  refine TC.seq (TC.region (TL.v z (OpVal.moveI (.inr z) z) z z (TL.nil (S.n (TC.ofSub (Sub.pre 0 z) (TC.ret (S.r ?_)))))))
  obtain rfl := Option.some.inj hh
  exact RetOk.mk' (rs := [.tmp 2]) [] z (.inl z) (RVs.tmp z RVs.nil) (List.sublist_append_left _ _) ⟨z, z, z⟩
 ·replace hh := iteO_f h103 hh
  replace h103 := of_decide_eq_false h103
  refine TL.gv z z z z z (OpVal.fieldLoc z fo30_2 z) z z (TL.gv z z z z z (OpVal.loadLoc z ag27 z (i := 0) z z) z z (TL.gv z z z z z (OpVal.lenC z Tryz.underlying27 z) z z (TL.gv z z z z z (OpVal.moveI (.inl z) z) z z (TL.gv z z z z z (OpVal.neq z z z) z z (TL.v z (OpVal.pickFB z z z) z z (TL.v z (OpVal.moveB (.inl z) z) z z (TL.split 17 z (fun h104 => ?_) (fun h104 => ?_))))))))
  ·replace hh := iteO_t h104 hh
   replace h104 := of_decide_eq_true h104
   refine TL.goff z z z z z z z z (TL.goff z z z z z z z z (TL.goff z z z z z z z z (TL.goff z z z z z z z z (TL.goff z z z z z z z z (TL.v z (OpVal.pickTB z z z) z z (TL.v z (OpVal.moveB (.inl z) z) z z (TL.goff z z z z z z z z (TL.goff z z z z z z z z (TL.goff z z z z z z z z ?_)))))))))
   refine TL.goff z z z z z z z z (TL.goff z z z z z z z z (TL.v z (OpVal.pickTB z z z) z z (TL.nil (S.n (TC.cond z (fun _ => ?_) (fun h => Bool.noConfusion h))))))
   refine TC.seq (TC.region (TL.v z (OpVal.moveI (.inr z) z) z z (TL.nil (S.n (TC.ofSub (Sub.pre 0 z) (TC.ret (S.r ?_)))))))
   obtain rfl := Option.some.inj hh
   exact RetOk.mk' (rs := [.tmp 2]) [] z (.inl z) (RVs.tmp z RVs.nil) (List.sublist_append_left _ _) ⟨z, z, z⟩
  ·replace hh := iteO_f h104 hh
   replace h104 := of_decide_eq_false h104
   refine TL.gv z z z z z (OpVal.fieldLoc z fo30_3 z) z z (TL.gv z z z z z (OpVal.loadLoc z ag24 z (i := 0) z z) z z (TL.gv z z z z z (OpVal.lenC z Tryz.underlying24 z) z z (TL.gv z z z z z (OpVal.moveI (.inl z) z) z z (TL.gv z z z z z (OpVal.neq z z z) z z (TL.v z (OpVal.pickFB z z z) z z (TL.v z (OpVal.moveB (.inl z) z) z z (TL.split 24 z (fun h105 => ?_) (fun h105 => ?_))))))))
   ·replace hh := iteO_t h105 hh
    replace h105 := of_decide_eq_true h105
    refine TL.goff z z z z z z z z (TL.goff z z z z z z z z (TL.goff z z z z z z z z (TL.goff z z z z z z z z (TL.goff z z z z z z z z (TL.v z (OpVal.pickTB z z z) z z (TL.nil (S.n (TC.cond z (fun _ => ?_) (fun h => Bool.noConfusion h)))))))))
    refine TC.seq (TC.region (TL.v z (OpVal.moveI (.inr z) z) z z (TL.nil (S.n (TC.ofSub (Sub.pre 0 z) (TC.ret (S.r ?_)))))))
    obtain rfl := Option.some.inj hh
    exact RetOk.mk' (rs := [.tmp 2]) [] z (.inl z) (RVs.tmp z RVs.nil) (List.sublist_append_left _ _) ⟨z, z, z⟩
   ·replace hh := iteO_f h105 hh
    replace h105 := of_decide_eq_false h105
    refine TL.gv z z z z z (OpVal.fieldLoc z fo30_4 z) z z (TL.gv z z z z z (OpVal.loadLoc z ag28 z (i := 0) z z) z z (TL.gv z z z z z (OpVal.lenC z Tryz.underlying28 z) z z (TL.gv z z z z z (OpVal.moveI (.inl z) z) z z (TL.gv z z z z z (OpVal.neq z z z) z z (TL.v z (OpVal.pickFB z z z) z z (TL.nil (S.n (TC.cond z (fun h106 => ?_) (fun h106 => ?_)))))))))
    ·replace hh := iteO_t h106 hh
     replace h106 := of_decide_eq_true h106
     refine TC.seq (TC.region (TL.v z (OpVal.moveI (.inr z) z) z z (TL.nil (S.n (TC.ofSub (Sub.pre 0 z) (TC.ret (S.r ?_)))))))
     obtain rfl := Option.some.inj hh
     exact RetOk.mk' (rs := [.tmp 2]) [] z (.inl z) (RVs.tmp z RVs.nil) (List.sublist_append_left _ _) ⟨z, z, z⟩
    ·replace hh := iteO_f h106 hh
     replace h106 := of_decide_eq_false h106
     refine TC.skip (S.n (TC.cutG (α := (Unit) × (Unit)) [2, 31, 32, 33, 34, 35, 36, 37, 38, 39, 40, 41, 42, 43] (fun g => []) (fun g => [Res.cells b101 #[.string (bs x0.front), .slice a0_0 x0.next.length c0_0, .slice a0_1 x0.outs.length c0_1, .slice a0_2 x0.fin.length c0_2, .slice a0_3 x0.tail.length c0_3] 30]) (fun g => σ) (fun g => seq_Check_j1 x0 = some r) ?_ (fun g j hg => ?_)))
     ·skip
      refine TC.seq (TC.region (TL.v z (OpVal.fieldLoc z fo30_0 z) z z (TL.v z (OpVal.loadLoc z ag9 z (i := 0) z z) z z (TL.v z (OpVal.lenBs z Tryz.underlying9 z) z z (TL.v z (OpVal.gtr z z z) z z (TL.v z (OpVal.moveB (.inl z) z) z z (TL.split 35 z (fun h107 => ?_) (fun h107 => ?_))))))))
      ·replace hh := iteO_t h107 hh
       replace h107 := of_decide_eq_true h107
       refine TL.goff z z z z z z z z (TL.goff z z z z z z z z (TL.goff z z z z z z z z (TL.goff' z z z z z z z (TL.goff' z z z z z z z (TL.goff' z z z z z z z (TL.goff z z z z z z z z (TL.v z (OpVal.pickTB z z z) z z (TL.nil (S.n ?_)))))))))
       refine TC.cond z (fun _ => ?_) (fun h => Bool.noConfusion h)
       refine TC.seq (TC.region (TL.v z (OpVal.moveI (.inr z) z) z z (TL.nil (S.n (TC.ofSub (Sub.pre 0 z) (TC.ret (S.r ?_)))))))
       obtain rfl := Option.some.inj hh
       exact RetOk.mk' (rs := [.tmp 2]) [] z (.inl z) (RVs.tmp z RVs.nil) (List.sublist_append_left _ _) ⟨z, z, z⟩
      ·replace hh := iteO_f h107 hh
       replace h107 := of_decide_eq_false h107
       refine TL.gv z z z z z (OpVal.moveI (.inl z) z) z z (TL.gv z z z z z (OpVal.eql z z z) z z (TL.gv z z z z z (OpVal.moveB (.inl z) z) z z (TL.split 38 z (fun h108 => ?_) (fun h108 => ?_))))
       ·replace hh := iteO_t h108 hh
        replace h108 := of_decide_eq_true h108
        refine TL.gv z z z z z (OpVal.fieldLoc z fo30_0 z) z z (TL.gv z z z z z (OpVal.loadLoc z ag9 z (i := 0) z z) z z (TL.gv z z z z z (OpVal.neqBs z z z) z z (TL.gv z z z z z (OpVal.pickTB z z z) z z (TL.v z (OpVal.pickFB z z z) z z (TL.nil (S.n (TC.cond z (fun h109 => ?_) (fun h109 => ?_))))))))
        ·replace hh := iteO_t h109 hh
         replace h109 := of_decide_eq_true h109
         refine TC.seq (TC.region (TL.v z (OpVal.moveI (.inr z) z) z z (TL.nil (S.n (TC.ofSub (Sub.pre 0 z) (TC.ret (S.r ?_)))))))
         obtain rfl := Option.some.inj hh
         exact RetOk.mk' (rs := [.tmp 2]) [] z (.inl z) (RVs.tmp z RVs.nil) (List.sublist_append_left _ _) ⟨z, z, z⟩
        ·replace hh := iteO_f h109 hh
         replace h109 := of_decide_eq_false h109
         refine TC.skip (S.n (⟨by repeat (first | exact Agr.refl _ _ | exact Agr.mask | refine Agr.upd z ?_ | refine Agr.maskIn z ?_ | refine Agr.upds z ?_), ((), ()), hh, by repeat (first | exact trivial | refine ⟨z, ?_⟩), Sub.pre 1 z, z⟩))
       ·replace hh := iteO_f h108 hh
        replace h108 := of_decide_eq_false h108
        refine TL.goff z z z z z z z z (TL.goff z z z z z z z z (TL.goff z z z z z z z z (TL.gv z z z z z (OpVal.pickFB z z z) z z (TL.v z (OpVal.pickFB z z z) z z (TL.nil (S.n (TC.cond z (fun h => Bool.noConfusion h) (fun _ => ?_))))))))
        refine TC.skip (S.n (⟨by repeat (first | exact Agr.refl _ _ | exact Agr.mask | refine Agr.upd z ?_ | refine Agr.maskIn z ?_ | refine Agr.upds z ?_), ((), ()), hh, by repeat (first | exact trivial | refine ⟨z, ?_⟩), Sub.pre 1 z, z⟩))
     ·skip
      obtain ⟨_, _⟩ := g
      have hh := hg; clear hg
      show TC _ _ _ (upds (mask _ j _) []) _ [Res.cells b101 #[.string (bs x0.front), .slice a0_0 x0.next.length c0_0, .slice a0_1 x0.outs.length c0_1, .slice a0_2 x0.fin.length c0_2, .slice a0_3 x0.tail.length c0_3] 30]
      dsimp only [seq_Check_j1] at hh
      refine TC.seq (TC.seq (TC.region (TL.v z (OpVal.moveI (.inl z) z) z z (TL.v z (OpVal.moveI (.inl z) z) z z (TL.nil (S.n (TC.block (TC.loopG (α := (Nat) × (Unit)) [2, 4, 45, 46, 47, 48, 49, 50, 51, 52, 53, 54, 55, 56, 57, 58, 59, 60, 61, 62, 63, 64, 65, 66, 67, 68, 69, 70, 71, 72, 73, 74, 75, 76, 77, 78, 79, 80, 81, 82, 83, 84] (fun g => [(45, .int .i64 ((g.1 : Nat) : Int))]) (fun g => [Res.cells b101 #[.string (bs x0.front), .slice a0_0 x0.next.length c0_0, .slice a0_1 x0.outs.length c0_1, .slice a0_2 x0.fin.length c0_2, .slice a0_3 x0.tail.length c0_3] 30]) (fun g => σ) (fun g => iter (fun q : Nat => seq_Check_b1 x0 q) g.1 = some r) (fun g => rounds (fun q : Nat => seq_Check_b1 x0 q) g.1) (0, ()) (Sub.pre 1 z) z (by repeat (first | exact trivial | refine ⟨z, ?_⟩)) hh (fun g1 j1 hg1 => ?_)))))))))
      obtain ⟨k112, _⟩ := g1
      have hh := hg1; clear hg1
      show TC _ _ _ (upds (mask _ j1 _) [(45, .int .i64 ((k112 : Nat) : Int))]) _ [Res.cells b101 #[.string (bs x0.front), .slice a0_0 x0.next.length c0_0, .slice a0_1 x0.outs.length c0_1, .slice a0_2 x0.fin.length c0_2, .slice a0_3 x0.tail.length c0_3] 30]
      obtain ⟨z1, hh, hR1⟩ := iter_e hh
      dsimp only [seq_Check_b1] at hh
      refine TC.seq (TC.region (TL.v z (OpVal.lss z z z) z z (TL.nil (S.n (TC.seq (TC.cond z (fun h113 => ?_) (fun h113 => ?_)))))))
      ·replace hh := iteO_t h113 hh
       replace h113 := of_decide_eq_true h113
       refine TC.skip (S.n (TC.seq (TC.block (TC.seq (TC.region (TL.v z (OpVal.moveI (.inl z) z) z z (TL.v z (OpVal.moveI (.inr z) z) z z (TL.nil (S.n ?_)))))))))
       refine TC.cutG (α := (Unit) × (Unit)) [2, 48, 49, 50, 51, 52, 53, 54, 55, 56, 57, 58, 59, 60, 61, 62, 63, 64, 65, 66, 67, 68, 69, 70] (fun g => []) (fun g => [Res.cells b101 #[.string (bs x0.front), .slice a0_0 x0.next.length c0_0, .slice a0_1 x0.outs.length c0_1, .slice a0_2 x0.fin.length c0_2, .slice a0_3 x0.tail.length c0_3] 30]) (fun g => σ) (fun g => seq_Check_j2 k112 x0 = some z1) ?_ (fun g j hg => ?_)
       ·skip
        refine TC.seq (TC.region (TL.v z (OpVal.fieldLoc z fo30_4 z) z z (TL.v z (OpVal.loadLoc z ag28 z (i := 0) z z) z z (TL.v z (OpVal.moveI (.inl z) z) z z ?_))))
        have u53 := grd_c hh
        replace hh := grd_t hh
        refine TL.v z (OpVal.indexN z Tryz.underlying28 sz9 z z f0_3.rv.sl (by omega)) z z (TL.v z (OpVal.loadS1 ([] : List UInt8) z ag9 z f0_3 (by omega) z) z z (TL.v z (OpVal.lenBs z Tryz.underlying9 z) z z (TL.v z (OpVal.gtr z z z) z z (TL.v z (OpVal.moveB (.inl z) z) z z (TL.split 55 z (fun h114 => ?_) (fun h114 => ?_))))))
        ·replace hh := iteO_t h114 hh
         replace h114 := of_decide_eq_true h114
         refine TL.goff z z z z z z z z (TL.goff z z z z z z z z (TL.goff z z z z z z z z (TL.goff z z z z z z z z (TL.goff z z z z z z z z (TL.goff z z z z z z z z (TL.goff z z z z z z z z (TL.goff' z z z z z z z (TL.goff' z z z z z z z (TL.goff' z z z z z z z ?_)))))))))
         refine TL.goff' z z z z z z z (TL.goff' z z z z z z z (TL.goff' z z z z z z z (TL.goff z z z z z z z z (TL.v z (OpVal.pickTB z z z) z z (TL.nil (S.n (TC.cond z (fun _ => ?_) (fun h => Bool.noConfusion h))))))))
         refine TC.seq (TC.region (TL.v z (OpVal.moveI (.inr z) z) z z (TL.nil (S.n (TC.ofSub (Sub.pre 0 z) (TC.ret (S.r (B.r (S.r ?_)))))))))
         refine S.r ?_
         replace hh := fin_x hR1 hh
         refine B.r (S.r ?_)
         obtain rfl := Option.some.inj hh
         exact RetOk.mk' (rs := [.tmp 2]) [] z (.inl z) (RVs.tmp z RVs.nil) (List.sublist_append_left _ _) ⟨z, z, z⟩
        ·replace hh := iteO_f h114 hh
         replace h114 := of_decide_eq_false h114
         refine TL.gv z z z z z (OpVal.fieldLoc z fo30_3 z) z z (TL.gv z z z z z (OpVal.loadLoc z ag24 z (i := 0) z z) z z (TL.gv z z z z z (OpVal.moveI (.inl z) z) z z ?_))
         have u61 := grd_c hh
         replace hh := grd_t hh
         refine TL.gv z z z z z (OpVal.indexN z Tryz.underlying24 sz4 z z f0_2.rv.sl (by omega)) z z (TL.gv z z z z z (OpVal.loadS1 false z ag4 z f0_2 (by omega) z) z z (TL.gv z z z z z (OpVal.not z z) z z (TL.gv z z z z z (OpVal.moveB (.inl z) z) z z (TL.split 62 z (fun h115 => ?_) (fun h115 => ?_)))))
         ·replace hh := iteO_t h115 hh
          refine TL.gv z z z z z (OpVal.fieldLoc z fo30_4 z) z z (TL.gv z z z z z (OpVal.loadLoc z ag28 z (i := 0) z z) z z (TL.gv z z z z z (OpVal.moveI (.inl z) z) z z ?_))
          have u68 := grd_c hh
          replace hh := grd_t hh
          refine TL.gv z z z z z (OpVal.indexN z Tryz.underlying28 sz9 z z f0_3.rv.sl (by omega)) z z (TL.gv z z z z z (OpVal.loadS1 ([] : List UInt8) z ag9 z f0_3 (by omega) z) z z (TL.gv z z z z z (OpVal.neqBs z z z) z z (TL.gv z z z z z (OpVal.pickTB z z z) z z (TL.v z (OpVal.pickFB z z z) z z (TL.nil (S.n (TC.cond z (fun h116 => ?_) (fun h116 => ?_))))))))
          ·replace hh := iteO_t h116 hh
           replace h116 := of_decide_eq_true h116
           refine TC.seq (TC.region (TL.v z (OpVal.moveI (.inr z) z) z z (TL.nil (S.n (TC.ofSub (Sub.pre 0 z) (TC.ret (S.r (B.r (S.r ?_)))))))))
           refine S.r ?_
           replace hh := fin_x hR1 hh
           refine B.r (S.r ?_)
           obtain rfl := Option.some.inj hh
           exact RetOk.mk' (rs := [.tmp 2]) [] z (.inl z) (RVs.tmp z RVs.nil) (List.sublist_append_left _ _) ⟨z, z, z⟩
          ·replace hh := iteO_f h116 hh
           replace h116 := of_decide_eq_false h116
           refine TC.skip (S.n (⟨by repeat (first | exact Agr.refl _ _ | exact Agr.mask | refine Agr.upd z ?_ | refine Agr.maskIn z ?_ | refine Agr.upds z ?_), ((), ()), hh, by repeat (first | exact trivial | refine ⟨z, ?_⟩), Sub.pre 1 z, z⟩))
         ·replace hh := iteO_f h115 hh
          refine TL.goff z z z z z z z z (TL.goff z z z z z z z z (TL.goff z z z z z z z z (TL.goff z z z z z z z z (TL.goff z z z z z z z z (TL.goff z z z z z z z z (TL.gv z z z z z (OpVal.pickFB z z z) z z (TL.v z (OpVal.pickFB z z z) z z (TL.nil (S.n ?_)))))))))
          refine TC.cond z (fun h => Bool.noConfusion h) (fun _ => ?_)
          refine TC.skip (S.n (⟨by repeat (first | exact Agr.refl _ _ | exact Agr.mask | refine Agr.upd z ?_ | refine Agr.maskIn z ?_ | refine Agr.upds z ?_), ((), ()), hh, by repeat (first | exact trivial | refine ⟨z, ?_⟩), Sub.pre 1 z, z⟩))
       ·skip
        obtain ⟨_, _⟩ := g
        have hh := hg; clear hg
        show TC _ _ _ (upds (mask _ j _) []) _ [Res.cells b101 #[.string (bs x0.front), .slice a0_0 x0.next.length c0_0, .slice a0_1 x0.outs.length c0_1, .slice a0_2 x0.fin.length c0_2, .slice a0_3 x0.tail.length c0_3] 30]
        dsimp only [seq_Check_j2] at hh
        refine TC.seq ?_
        have u82 := grd_c hh
        replace hh := grd_t hh
        obtain ⟨v85, u85, hh⟩ := bnd_e hh
        refine TC.draw [] (by kernel_rfl) (TA.takeP 0 z (by kernel_rfl) (by kernel_rfl) (by kernel_rfl) z (OpVal.fieldLoc z fo30_1 z) z z (TA.take 1 z (by kernel_rfl) (by kernel_rfl) (by kernel_rfl) (by kernel_rfl) z (OpVal.loadLoc z ag23 z (i := 0) z z) z z (TA.takeP 2 z (by kernel_rfl) (by kernel_rfl) (by kernel_rfl) z (OpVal.moveI (.inl z) z) z z (TA.take 3 z (by kernel_rfl) (by kernel_rfl) (by kernel_rfl) (by kernel_rfl) z (OpVal.indexN z Tryz.underlying23 sz22 z z f0_0.isSl (by omega)) z z ?_))))
        obtain ⟨p119, hk119, hg119⟩ := RZ.seg f0_0 k112 (by omega)
        replace hk119 : RS _ 1 Go.E.encI (.slice p119.1 (nth x0.next k112 ([] : List Int)).length p119.2) (nth x0.next k112 ([] : List Int)) := hk119
        have hk119b := hk119.rv.big
        refine TA.take 4 z (by kernel_rfl) (by kernel_rfl) (by kernel_rfl) (by kernel_rfl) z (OpVal.of (OpVal.loadSeg0 z ag22 z hg119 z) (v' := .slice p119.1 ((nth x0.next k112 ([] : List Int)).length) p119.2) z) z z (TA.takeP 5 z (by kernel_rfl) (by kernel_rfl) (by kernel_rfl) z (OpVal.fieldLoc z fo30_2 z) z z (TA.take 6 z (by kernel_rfl) (by kernel_rfl) (by kernel_rfl) (by kernel_rfl) z (OpVal.loadLoc z ag27 z (i := 0) z z) z z (TA.takeP 7 z (by kernel_rfl) (by kernel_rfl) (by kernel_rfl) z (OpVal.moveI (.inl z) z) z z (TA.take 8 z (by kernel_rfl) (by kernel_rfl) (by kernel_rfl) (by kernel_rfl) z (OpVal.indexN z Tryz.underlying27 sz28 z z f0_1.isSl (by omega)) z z ?_))))
        obtain ⟨p120, hk120, hg120⟩ := RZ.seg f0_1 k112 (by omega)
        replace hk120 : RS _ 1 Go.E.encS (.slice p120.1 (nth x0.outs k112 ([] : List (List UInt8))).length p120.2) (nth x0.outs k112 ([] : List (List UInt8))) := hk120
        have hk120b := hk120.rv.big
        refine TA.take 9 z (by kernel_rfl) (by kernel_rfl) (by kernel_rfl) (by kernel_rfl) z (OpVal.of (OpVal.loadSeg0 z ag28 z hg120 z) (v' := .slice p120.1 ((nth x0.outs k112 ([] : List (List UInt8))).length) p120.2) z) z z (TA.takeP 10 z (by kernel_rfl) (by kernel_rfl) (by kernel_rfl) z (OpVal.moveI (.inl z) z) z z (TA.act 11 (by kernel_rfl) z z (OpOk.callP (seq_row_con hk119 hk120 u85) z z pf87 z z z ⟨(fun w h => sees_of (Store.le.refl _) (fun r hr => hr) w h), ?_⟩)))
        refine TA.takeP 12 z (by kernel_rfl) (by kernel_rfl) (by kernel_rfl) z (OpVal.not z z) z z (TA.done (by kernel_rfl) (S.n (TC.cond z (fun h121 => ?_) (fun h121 => ?_))))
        ·replace hh := iteO_t h121 hh
         refine TC.seq (TC.region (TL.v z (OpVal.moveI (.inr z) z) z z (TL.nil (S.n (TC.ofSub (Sub.pre 0 z) (TC.ret (B.r (S.r (S.r ?_)))))))))
         replace hh := fin_x hR1 hh
         refine B.r (S.r ?_)
         obtain rfl := Option.some.inj hh
         exact RetOk.mk' (rs := [.tmp 2]) [] z (.inl z) (RVs.tmp z RVs.nil) (List.sublist_append_left _ _) ⟨z, z, z⟩
        ·replace hh := iteO_f h121 hh
         refine TC.skip (B.n (S.n (TC.region (TL.v z (OpVal.succ z z z (by omega)) z z (TL.v z (OpVal.moveI (.inl z) z) z z (TL.nil (S.n ?_)))))))
         obtain ⟨hh, hlt122⟩ := nxt_x hR1 hh
         refine ⟨by repeat (first | exact Agr.refl _ _ | exact Agr.mask | refine Agr.upd z ?_ | refine Agr.maskIn z ?_ | refine Agr.upds z ?_), ((k112 + 1), ()), hlt122, hh, by repeat (first | exact trivial | refine ⟨z, ?_⟩), Sub.pre 1 z, z⟩
      ·replace hh := iteO_f h113 hh
       replace h113 := of_decide_eq_false h113
       refine TC.exit (S.x (S.x ?_))
       replace hh := fin_x hR1 hh
       refine TC.exitHere (S.n (TC.seq (TC.region (TL.v z (OpVal.moveI (.inr z) z) z z (TL.nil (S.n (TC.ofSub (Sub.pre 0 z) (TC.ret ?_))))))))
       obtain rfl := Option.some.inj hh
       exact RetOk.mk' (rs := [.tmp 2]) [] z (.inl z) (RVs.tmp z RVs.nil) (List.sublist_append_left _ _) ⟨z, z, z⟩

noncomputable def rewrite_Check_b1 (x0 : Rule) (k113 : Nat) : Option ((Nat) ⊕ (Int)) :=
 iteO (decide (((k113 : Nat) : Int) < (([x0.of, x0.left, x0.right].length : Nat) : Int))) (bnd (dfa_Check (nth [x0.of, x0.left, x0.right] k113 Dfa.zero)) (fun v18 => iteO (decide (v18 ≠ 0)) (fin (some 1)) (nxt (k113 + 1)))) (fin (iteO x0.mapped (bnd (seq_Check x0.by') (fun v27 => iteO (decide (v27 ≠ 0)) (some 1) (iteO (decide (x0.out ≠ ([] : List UInt8))) (some 1) (some 0)))) (iteO (decide (x0.by'.front ≠ ([] : List UInt8))) (some 1) (iteO (decide (0 < ((x0.by'.next.length : Nat) : Int))) (some 1) (iteO (decide (0 < ((x0.by'.outs.length : Nat) : Int))) (some 1) (iteO (decide (0 < ((x0.by'.fin.length : Nat) : Int))) (some 1) (iteO (decide (0 < ((x0.by'.tail.length : Nat) : Int))) (some 1) (iteO (decide (256 < ((x0.out.length : Nat) : Int))) (some 1) (some 0)))))))))
noncomputable def rewrite_Check (x0 : Rule) : Option (Int) :=
 iter (fun q : Nat => rewrite_Check_b1 x0 q) 0
theorem rewrite_Check_con {σ : Store} {x0 : Rule} {a0_0 : Option Addr} {c0_0 : Nat} {a0_1 : Option Addr} {c0_1 : Nat} {a0_2 : Option Addr} {c0_2 : Nat} {a0_3 : Option Addr} {c0_3 : Nat} {a0_4 : Option Addr} {c0_4 : Nat} {a0_5 : Option Addr} {c0_5 : Nat} {a0_6 : Option Addr} {c0_6 : Nat} {a0_7 : Option Addr} {c0_7 : Nat} {a0_8 : Option Addr} {c0_8 : Nat} {a0_9 : Option Addr} {c0_9 : Nat} {a0_10 : Option Addr} {c0_10 : Nat} {a0_11 : Option Addr} {c0_11 : Nat} {a0_12 : Option Addr} {c0_12 : Nat} (f0_0 : RS σ 1 Go.E.encI (.slice a0_0 x0.of.cls.length c0_0) x0.of.cls) (f0_1 : RZ σ (pkSl 1 Go.E.encI Go.E.encI_len) (.slice a0_1 x0.of.next.length c0_1) x0.of.next) (f0_2 : RS σ 1 encB (.slice a0_2 x0.of.fin.length c0_2) x0.of.fin) (f0_3 : RS σ 1 Go.E.encI (.slice a0_3 x0.left.cls.length c0_3) x0.left.cls) (f0_4 : RZ σ (pkSl 1 Go.E.encI Go.E.encI_len) (.slice a0_4 x0.left.next.length c0_4) x0.left.next) (f0_5 : RS σ 1 encB (.slice a0_5 x0.left.fin.length c0_5) x0.left.fin) (f0_6 : RS σ 1 Go.E.encI (.slice a0_6 x0.right.cls.length c0_6) x0.right.cls) (f0_7 : RZ σ (pkSl 1 Go.E.encI Go.E.encI_len) (.slice a0_7 x0.right.next.length c0_7) x0.right.next) (f0_8 : RS σ 1 encB (.slice a0_8 x0.right.fin.length c0_8) x0.right.fin) (f0_9 : RZ σ (pkSl 1 Go.E.encI Go.E.encI_len) (.slice a0_9 x0.by'.next.length c0_9) x0.by'.next) (f0_10 : RZ σ (pkSl 1 Go.E.encS Go.E.encS_len) (.slice a0_10 x0.by'.outs.length c0_10) x0.by'.outs) (f0_11 : RS σ 1 encB (.slice a0_11 x0.by'.fin.length c0_11) x0.by'.fin) (f0_12 : RS σ 1 Go.E.encS (.slice a0_12 x0.by'.tail.length c0_12) x0.by'.tail) {r : Int} (hh : rewrite_Check x0 = some r) :
  Con Tryz.prog 13 #[.agg #[.slice a0_0 x0.of.cls.length c0_0, .slice a0_1 x0.of.next.length c0_1, .slice a0_2 x0.of.fin.length c0_2, .slice a0_3 x0.left.cls.length c0_3, .slice a0_4 x0.left.next.length c0_4, .slice a0_5 x0.left.fin.length c0_5, .slice a0_6 x0.right.cls.length c0_6, .slice a0_7 x0.right.next.length c0_7, .slice a0_8 x0.right.fin.length c0_8, .string (bs x0.out), .bool x0.mapped, .string (bs x0.by'.front), .slice a0_9 x0.by'.next.length c0_9, .slice a0_10 x0.by'.outs.length c0_10, .slice a0_11 x0.by'.fin.length c0_11, .slice a0_12 x0.by'.tail.length c0_12]] σ [] (PureP (.int .i64 r) σ) := by
 dsimp only [rewrite_Check] at hh
 have f0_0b := f0_0.rv.big
 have f0_1b := f0_1.big
 have f0_2b := f0_2.rv.big
 have f0_3b := f0_3.rv.big
 have f0_4b := f0_4.big
 have f0_5b := f0_5.rv.big
 have f0_6b := f0_6.rv.big
 have f0_7b := f0_7.big
 have f0_8b := f0_8.rv.big
 have f0_9b := f0_9.big
 have f0_10b := f0_10.big
 have f0_11b := f0_11.rv.big
 have f0_12b := f0_12.rv.big
 refine Con.mk (n := 66) Tryz.func13 z z z (fun w0 => ?_)
 refine TC.seq (TC.region (TL.op z (OpOk.boxA z z z z (fun b101 => ?_))))
 refine TL.v z (OpVal.moveI (.inr z) z) z z (TL.nil (S.n (TC.seq (TC.seq (TC.region (TL.v z (OpVal.fieldLoc z fo32_0 z) z z (TL.v z (OpVal.loadLocA z ag26 sz26 z (i := 0) z z z) z z (TL.v z (OpVal.fieldLoc z fo32_1 z) z z (TL.v z (OpVal.loadLocA z ag26 sz26 z (i := 0) z z z) z z ?_)))))))))
 refine TL.v z (OpVal.fieldLoc z fo32_2 z) z z (TL.v z (OpVal.loadLocA z ag26 sz26 z (i := 0) z z z) z z ?_)
 have zf105 : ZOk _ pkDfa ([(x0.of, ⟨a0_0, c0_0, a0_1, c0_1, a0_2, c0_2⟩), (x0.left, ⟨a0_3, c0_3, a0_4, c0_4, a0_5, c0_5⟩), (x0.right, ⟨a0_6, c0_6, a0_7, c0_7, a0_8, c0_8⟩)] : List (Dfa × pkDfa.P)) [x0.of, x0.left, x0.right] := ZOk.cons (⟨f0_0, f0_1, f0_2⟩) (ZOk.cons (⟨f0_3, f0_4, f0_5⟩) (ZOk.cons (⟨f0_6, f0_7, f0_8⟩) (ZOk.nil _ _)))
 refine TL.op z (OpOk.litZ zf105 z Tryz.underlying91 sz26 z ze26 z z z (by decide) (by decide) z (by decide) z (by decide) (fun a103 c104 => ?_))
 refine TL.v z (OpVal.lenC z Tryz.underlying91 z) z z (TL.v z (OpVal.moveI (.inl z) z) z z (TL.nil (S.n (TC.block (TC.loopG (α := (Nat) × (Store)) [2, 4, 14, 15, 16, 17, 18, 19, 20, 21] (fun g => [(14, .int .i64 ((g.1 : Nat) : Int))]) (fun g => [Res.cells b101 #[.slice a0_0 x0.of.cls.length c0_0, .slice a0_1 x0.of.next.length c0_1, .slice a0_2 x0.of.fin.length c0_2, .slice a0_3 x0.left.cls.length c0_3, .slice a0_4 x0.left.next.length c0_4, .slice a0_5 x0.left.fin.length c0_5, .slice a0_6 x0.right.cls.length c0_6, .slice a0_7 x0.right.next.length c0_7, .slice a0_8 x0.right.fin.length c0_8, .string (bs x0.out), .bool x0.mapped, .string (bs x0.by'.front), .slice a0_9 x0.by'.next.length c0_9, .slice a0_10 x0.by'.outs.length c0_10, .slice a0_11 x0.by'.fin.length c0_11, .slice a0_12 x0.by'.tail.length c0_12] 32, Res.rowS 26 3 pkDfa.en (.slice a103 [x0.of, x0.left, x0.right].length c104) ([(x0.of, ⟨a0_0, c0_0, a0_1, c0_1, a0_2, c0_2⟩), (x0.left, ⟨a0_3, c0_3, a0_4, c0_4, a0_5, c0_5⟩), (x0.right, ⟨a0_6, c0_6, a0_7, c0_7, a0_8, c0_8⟩)] : List (Dfa × pkDfa.P))]) (fun g => g.2) (fun g => iter (fun q : Nat => rewrite_Check_b1 x0 q) g.1 = some r ∧ ZOk g.2 pkDfa ([(x0.of, ⟨a0_0, c0_0, a0_1, c0_1, a0_2, c0_2⟩), (x0.left, ⟨a0_3, c0_3, a0_4, c0_4, a0_5, c0_5⟩), (x0.right, ⟨a0_6, c0_6, a0_7, c0_7, a0_8, c0_8⟩)] : List (Dfa × pkDfa.P)) [x0.of, x0.left, x0.right] ∧ Store.le σ g.2) (fun g => rounds (fun q : Nat => rewrite_Check_b1 x0 q) g.1) (0, σ) (Sub.front 1 z z (Sub.pre 2 z)) z (by repeat (first | exact trivial | refine ⟨z, ?_⟩)) ⟨hh, zf105, (Store.le.refl _)⟩ (fun g1 j1 hg1 => ?_))))))
 obtain ⟨k113, τ114⟩ := g1
 obtain ⟨hh, zf112, hle115⟩ := hg1
 try dsimp only at zf112
 dsimp only at hle115
 replace f0_0 := f0_0.mono hle115
 replace f0_1 := f0_1.mono hle115
 replace f0_2 := f0_2.mono hle115
 replace f0_3 := f0_3.mono hle115
 replace f0_4 := f0_4.mono hle115
 replace f0_5 := f0_5.mono hle115
 replace f0_6 := f0_6.mono hle115
 replace f0_7 := f0_7.mono hle115
 replace f0_8 := f0_8.mono hle115
 replace f0_9 := f0_9.mono hle115
 replace f0_10 := f0_10.mono hle115
 replace f0_11 := f0_11.mono hle115
 replace f0_12 := f0_12.mono hle115
 replace zf105 := zf105.mono hle115
 show TC _ _ _ (upds (mask _ j1 _) [(14, .int .i64 ((k113 : Nat) : Int))]) τ114 [Res.cells b101 #[.slice a0_0 x0.of.cls.length c0_0, .slice a0_1 x0.of.next.length c0_1, .slice a0_2 x0.of.fin.length c0_2, .slice a0_3 x0.left.cls.length c0_3, .slice a0_4 x0.left.next.length c0_4, .slice a0_5 x0.left.fin.length c0_5, .slice a0_6 x0.right.cls.length c0_6, .slice a0_7 x0.right.next.length c0_7, .slice a0_8 x0.right.fin.length c0_8, .string (bs x0.out), .bool x0.mapped, .string (bs x0.by'.front), .slice a0_9 x0.by'.next.length c0_9, .slice a0_10 x0.by'.outs.length c0_10, .slice a0_11 x0.by'.fin.length c0_11, .slice a0_12 x0.by'.tail.length c0_12] 32, Res.rowS 26 3 pkDfa.en (.slice a103 [x0.of, x0.left, x0.right].length c104) ([(x0.of, ⟨a0_0, c0_0, a0_1, c0_1, a0_2, c0_2⟩), (x0.left, ⟨a0_3, c0_3, a0_4, c0_4, a0_5, c0_5⟩), (x0.right, ⟨a0_6, c0_6, a0_7, c0_7, a0_8, c0_8⟩)] : List (Dfa × pkDfa.P))]
 obtain ⟨z1, hh, hR1⟩ := iter_e hh
 dsimp only [rewrite_Check_b1] at hh
 have zf112b := zf112.length
 refine TC.isSl (i := 1) z (fun _ hb116 _ => ?_)
 refine TC.seq (TC.region (TL.v z (OpVal.lss z z z) z z (TL.nil (S.n (TC.seq (TC.cond z (fun h117 => ?_) (fun h117 => ?_)))))))
 ·replace hh := iteO_t h117 hh
  replace h117 := of_decide_eq_true h117
  refine TC.skip (S.n (TC.seq (TC.block (TC.seq (TC.region (TL.isSl (i := 1) z (fun hs118 _ _ => ?_)))))))
  refine TL.v z (OpVal.indexN z Tryz.underlying91 sz26 z z (zf112.isSl hs118) (by omega)) z z ?_
  obtain ⟨p119, hp119⟩ : ∃ p, p = (nth ([(x0.of, ⟨a0_0, c0_0, a0_1, c0_1, a0_2, c0_2⟩), (x0.left, ⟨a0_3, c0_3, a0_4, c0_4, a0_5, c0_5⟩), (x0.right, ⟨a0_6, c0_6, a0_7, c0_7, a0_8, c0_8⟩)] : List (Dfa × pkDfa.P)) k113 (pkDfa.d, pkDfa.dp)).2 := ⟨_, rfl⟩
  have hk119 : RDfa τ114 (nth [x0.of, x0.left, x0.right] k113 Dfa.zero) p119 := by rw [hp119]; exact (zf112.at (by omega)).2
  refine TL.v z ((hp119 ▸ OpVal.loadOZA zf112 z ag26 sz26 z (by decide) z (q := 1) z (by omega))) z z (TL.op z (OpOk.alloc z ze26 z z (fun b120 => ?_)))
  refine TL.op z (OpOk.storeAll z sz26 z z z z z z ?_)
  refine TL.nil (S.n (TC.seq (TC.region (TL.v z (OpVal.loadAll z ag26 sz26 z (i := 0) z z) z z ?_))))
  obtain ⟨v18, u18, hh⟩ := bnd_e hh
  refine TL.op z (OpOk.callP (dfa_Check_con (x0 := (nth [x0.of, x0.left, x0.right] k113 Dfa.zero)) hk119.c hk119.n hk119.e u18) z z pf43 z z z ?_)
  refine TL.v z (OpVal.neq z z z) z z (TL.nil (S.n (TC.cond z (fun h122 => ?_) (fun h122 => ?_))))
  ·replace hh := iteO_t h122 hh
   replace h122 := of_decide_eq_true h122
   refine TC.seq (TC.region (TL.v z (OpVal.moveI (.inr z) z) z z (TL.nil (S.n (TC.ofSub (Sub.pre 0 z) (TC.back (TC.ret (B.r (S.r ?_)))))))))
   refine S.r ?_
   replace hh := fin_x hR1 hh
   refine B.r (S.r ?_)
   obtain rfl := Option.some.inj hh
   exact RetOk.mk' (rs := [.tmp 2]) [] z (.inl z) (RVs.tmp z RVs.nil) (List.sublist_append_left _ _) ⟨z, z, z⟩
  ·replace hh := iteO_f h122 hh
   replace h122 := of_decide_eq_false h122
   refine TC.skip (B.n (S.n (TC.region (TL.v z (OpVal.succ z z z (by omega)) z z (TL.v z (OpVal.moveI (.inl z) z) z z (TL.nil (S.n ?_)))))))
   obtain ⟨hh, hlt123⟩ := nxt_x hR1 hh
   refine ⟨by repeat (first | exact Agr.refl _ _ | exact Agr.mask | refine Agr.upd z ?_ | refine Agr.maskIn z ?_ | refine Agr.upds z ?_), ((k113 + 1), τ114), hlt123, ⟨hh, zf112, hle115⟩, by repeat (first | exact trivial | refine ⟨z, ?_⟩), Sub.front 2 z z (Sub.front 2 z z (Sub.pre 2 z)), z⟩
 ·replace hh := iteO_f h117 hh
  replace h117 := of_decide_eq_false h117
  refine TC.exit (S.x (S.x ?_))
  replace hh := fin_x hR1 hh
  refine TC.exitHere (S.n (TC.seq (TC.seq (TC.region (TL.v z (OpVal.fieldLoc z fo32_4 z) z z (TL.v z (OpVal.loadLoc z ag4 z (i := 0) z z) z z (TL.nil (S.n (TC.cond z (fun h124 => ?_) (fun h124 => ?_))))))))))
  ·replace hh := iteO_t h124 hh
   refine TC.seq (TC.seq (TC.region (TL.v z (OpVal.fieldLoc z fo32_5 z) z z (TL.v z (OpVal.loadLocA z ag30 sz30 z (i := 0) z z z) z z ?_))))
   obtain ⟨v27, u27, hh⟩ := bnd_e hh
   refine TL.op z (OpOk.callP (seq_Check_con (x0 := x0.by') f0_9 f0_10 f0_11 f0_12 u27) z z pf44 z z z ?_)
   refine TL.v z (OpVal.neq z z z) z z (TL.v z (OpVal.moveB (.inl z) z) z z (TL.split 28 z (fun h125 => ?_) (fun h125 => ?_)))
   ·replace hh := iteO_t h125 hh
    replace h125 := of_decide_eq_true h125
    refine TL.goff z z z z z z z z (TL.goff z z z z z z z z (TL.goff z z z z z z z z (TL.v z (OpVal.pickTB z z z) z z (TL.nil (S.n (TC.cond z (fun _ => ?_) (fun h => Bool.noConfusion h)))))))
    refine TC.seq (TC.region (TL.v z (OpVal.moveI (.inr z) z) z z (TL.nil (S.n (TC.ofSub (Sub.pre 0 z) (TC.back (TC.ret (S.r (S.r ?_)))))))))
    obtain rfl := Option.some.inj hh
    exact RetOk.mk' (rs := [.tmp 2]) [] z (.inl z) (RVs.tmp z RVs.nil) (List.sublist_append_left _ _) ⟨z, z, z⟩
   ·replace hh := iteO_f h125 hh
    replace h125 := of_decide_eq_false h125
    refine TL.gv z z z z z (OpVal.fieldLoc z fo32_3 z) z z (TL.gv z z z z z (OpVal.loadLoc z ag9 z (i := 0) z z) z z (TL.gv z z z z z (OpVal.neqBs z z z) z z (TL.v z (OpVal.pickFB z z z) z z (TL.nil (S.n (TC.cond z (fun h126 => ?_) (fun h126 => ?_)))))))
    ·replace hh := iteO_t h126 hh
     replace h126 := of_decide_eq_true h126
     refine TC.seq (TC.region (TL.v z (OpVal.moveI (.inr z) z) z z (TL.nil (S.n (TC.ofSub (Sub.pre 0 z) (TC.back (TC.ret (S.r (S.r ?_)))))))))
     obtain rfl := Option.some.inj hh
     exact RetOk.mk' (rs := [.tmp 2]) [] z (.inl z) (RVs.tmp z RVs.nil) (List.sublist_append_left _ _) ⟨z, z, z⟩
    ·replace hh := iteO_f h126 hh
     replace h126 := of_decide_eq_false h126
     refine TC.skip (S.n (TC.seq (TC.region (TL.v z (OpVal.moveI (.inr z) z) z z (TL.nil (S.n (TC.ofSub (Sub.pre 0 z) (TC.back (TC.ret ?_)))))))))
     refine S.r ?_
     obtain rfl := Option.some.inj hh
     exact RetOk.mk' (rs := [.tmp 2]) [] z (.inl z) (RVs.tmp z RVs.nil) (List.sublist_append_left _ _) ⟨z, z, z⟩
  ·replace hh := iteO_f h124 hh
   refine TC.skip (S.n (TC.seq (TC.region (TL.v z (OpVal.fieldLoc z fo32_5 z) z z (TL.v z (OpVal.loadLocA z ag30 sz30 z (i := 0) z z z) z z (TL.op z (OpOk.alloc z ze30 z z (fun b127 => ?_))))))))
   refine TL.op z (OpOk.storeAll z sz30 z z z z z z ?_)
   refine TL.nil (S.n (TC.seq (TC.seq (TC.region (TL.v z (OpVal.fieldLoc z fo30_0 z) z z (TL.v z (OpVal.loadLoc z ag9 z (i := 0) z z) z z (TL.v z (OpVal.neqBs z z z) z z (TL.v z (OpVal.moveB (.inl z) z) z z (TL.split 38 z (fun h129 => ?_) (fun h129 => ?_))))))))))
   ·replace hh := iteO_t h129 hh
    replace h129 := of_decide_eq_true h129
    refine TL.goff z z z z z z z z (TL.goff z z z z z z z z (TL.goff z z z z z z z z (TL.goff z z z z z z z z (TL.v z (OpVal.pickTB z z z) z z (TL.v z (OpVal.moveB (.inl z) z) z z (TL.goff z z z z z z z z (TL.goff z z z z z z z z (TL.goff z z z z z z z z (TL.goff z z z z z z z z ?_)))))))))
    refine TL.v z (OpVal.pickTB z z z) z z (TL.v z (OpVal.moveB (.inl z) z) z z (TL.goff z z z z z z z z (TL.goff z z z z z z z z (TL.goff z z z z z z z z (TL.goff z z z z z z z z (TL.v z (OpVal.pickTB z z z) z z (TL.v z (OpVal.moveB (.inl z) z) z z (TL.goff z z z z z z z z (TL.goff z z z z z z z z ?_)))))))))
    refine TL.goff z z z z z z z z (TL.goff z z z z z z z z (TL.v z (OpVal.pickTB z z z) z z (TL.nil (S.n (TC.cond z (fun _ => ?_) (fun h => Bool.noConfusion h))))))
    refine TC.seq (TC.region (TL.v z (OpVal.moveI (.inr z) z) z z (TL.nil (S.n (TC.ofSub (Sub.pre 0 z) (TC.back (TC.ret (S.r ?_))))))))
    obtain rfl := Option.some.inj hh
    exact RetOk.mk' (rs := [.tmp 2]) [] z (.inl z) (RVs.tmp z RVs.nil) (List.sublist_append_left _ _) ⟨z, z, z⟩
   ·replace hh := iteO_f h129 hh
    replace h129 := of_decide_eq_false h129
    refine TL.gv z z z z z (OpVal.fieldLoc z fo30_1 z) z z (TL.gv z z z z z (OpVal.loadLoc z ag23 z (i := 0) z z) z z (TL.gv z z z z z (OpVal.lenC z Tryz.underlying23 z) z z (TL.gv z z z z z (OpVal.gtr z z z) z z (TL.v z (OpVal.pickFB z z z) z z (TL.v z (OpVal.moveB (.inl z) z) z z (TL.split 44 z (fun h130 => ?_) (fun h130 => ?_)))))))
    ·replace hh := iteO_t h130 hh
     replace h130 := of_decide_eq_true h130
     refine TL.goff z z z z z z z z (TL.goff z z z z z z z z (TL.goff z z z z z z z z (TL.goff z z z z z z z z (TL.v z (OpVal.pickTB z z z) z z (TL.v z (OpVal.moveB (.inl z) z) z z (TL.goff z z z z z z z z (TL.goff z z z z z z z z (TL.goff z z z z z z z z (TL.goff z z z z z z z z ?_)))))))))
     refine TL.v z (OpVal.pickTB z z z) z z (TL.v z (OpVal.moveB (.inl z) z) z z (TL.goff z z z z z z z z (TL.goff z z z z z z z z (TL.goff z z z z z z z z (TL.goff z z z z z z z z (TL.v z (OpVal.pickTB z z z) z z (TL.nil (S.n (TC.cond z (fun _ => ?_) (fun h => Bool.noConfusion h))))))))))
     refine TC.seq (TC.region (TL.v z (OpVal.moveI (.inr z) z) z z (TL.nil (S.n (TC.ofSub (Sub.pre 0 z) (TC.back (TC.ret (S.r ?_))))))))
     obtain rfl := Option.some.inj hh
     exact RetOk.mk' (rs := [.tmp 2]) [] z (.inl z) (RVs.tmp z RVs.nil) (List.sublist_append_left _ _) ⟨z, z, z⟩
    ·replace hh := iteO_f h130 hh
     replace h130 := of_decide_eq_false h130
     refine TL.gv z z z z z (OpVal.fieldLoc z fo30_2 z) z z (TL.gv z z z z z (OpVal.loadLoc z ag27 z (i := 0) z z) z z (TL.gv z z z z z (OpVal.lenC z Tryz.underlying27 z) z z (TL.gv z z z z z (OpVal.gtr z z z) z z (TL.v z (OpVal.pickFB z z z) z z (TL.v z (OpVal.moveB (.inl z) z) z z (TL.split 50 z (fun h131 => ?_) (fun h131 => ?_)))))))
     ·replace hh := iteO_t h131 hh
      replace h131 := of_decide_eq_true h131
      refine TL.goff z z z z z z z z (TL.goff z z z z z z z z (TL.goff z z z z z z z z (TL.goff z z z z z z z z (TL.v z (OpVal.pickTB z z z) z z (TL.v z (OpVal.moveB (.inl z) z) z z (TL.goff z z z z z z z z (TL.goff z z z z z z z z (TL.goff z z z z z z z z (TL.goff z z z z z z z z ?_)))))))))
      refine TL.v z (OpVal.pickTB z z z) z z (TL.nil (S.n (TC.cond z (fun _ => ?_) (fun h => Bool.noConfusion h))))
      refine TC.seq (TC.region (TL.v z (OpVal.moveI (.inr z) z) z z (TL.nil (S.n (TC.ofSub (Sub.pre 0 z) (TC.back (TC.ret (S.r ?_))))))))
      obtain rfl := Option.some.inj hh
      exact RetOk.mk' (rs := [.tmp 2]) [] z (.inl z) (RVs.tmp z RVs.nil) (List.sublist_append_left _ _) ⟨z, z, z⟩
     ·replace hh := iteO_f h131 hh
      replace h131 := of_decide_eq_false h131
      refine TL.gv z z z z z (OpVal.fieldLoc z fo30_3 z) z z (TL.gv z z z z z (OpVal.loadLoc z ag24 z (i := 0) z z) z z (TL.gv z z z z z (OpVal.lenC z Tryz.underlying24 z) z z (TL.gv z z z z z (OpVal.gtr z z z) z z (TL.v z (OpVal.pickFB z z z) z z (TL.v z (OpVal.moveB (.inl z) z) z z (TL.split 56 z (fun h132 => ?_) (fun h132 => ?_)))))))
      ·replace hh := iteO_t h132 hh
       replace h132 := of_decide_eq_true h132
       refine TL.goff z z z z z z z z (TL.goff z z z z z z z z (TL.goff z z z z z z z z (TL.goff z z z z z z z z (TL.v z (OpVal.pickTB z z z) z z (TL.nil (S.n (TC.cond z (fun _ => ?_) (fun h => Bool.noConfusion h))))))))
       refine TC.seq (TC.region (TL.v z (OpVal.moveI (.inr z) z) z z (TL.nil (S.n (TC.ofSub (Sub.pre 0 z) (TC.back (TC.ret (S.r ?_))))))))
       obtain rfl := Option.some.inj hh
       exact RetOk.mk' (rs := [.tmp 2]) [] z (.inl z) (RVs.tmp z RVs.nil) (List.sublist_append_left _ _) ⟨z, z, z⟩
      ·replace hh := iteO_f h132 hh
       replace h132 := of_decide_eq_false h132
       refine TL.gv z z z z z (OpVal.fieldLoc z fo30_4 z) z z (TL.gv z z z z z (OpVal.loadLoc z ag28 z (i := 0) z z) z z (TL.gv z z z z z (OpVal.lenC z Tryz.underlying28 z) z z (TL.gv z z z z z (OpVal.gtr z z z) z z (TL.v z (OpVal.pickFB z z z) z z (TL.nil (S.n (TC.cond z (fun h133 => ?_) (fun h133 => ?_))))))))
       ·replace hh := iteO_t h133 hh
        replace h133 := of_decide_eq_true h133
        refine TC.seq (TC.region (TL.v z (OpVal.moveI (.inr z) z) z z (TL.nil (S.n (TC.ofSub (Sub.pre 0 z) (TC.back (TC.ret (S.r ?_))))))))
        obtain rfl := Option.some.inj hh
        exact RetOk.mk' (rs := [.tmp 2]) [] z (.inl z) (RVs.tmp z RVs.nil) (List.sublist_append_left _ _) ⟨z, z, z⟩
       ·replace hh := iteO_f h133 hh
        replace h133 := of_decide_eq_false h133
        refine TC.skip (S.n (TC.seq (TC.seq (TC.region (TL.v z (OpVal.fieldLoc z fo32_3 z) z z (TL.v z (OpVal.loadLoc z ag9 z (i := 1) z z) z z (TL.v z (OpVal.lenBs z Tryz.underlying9 z) z z (TL.v z (OpVal.gtr z z z) z z (TL.nil ?_)))))))))
        refine S.n (TC.cond z (fun h134 => ?_) (fun h134 => ?_))
        ·replace hh := iteO_t h134 hh
         replace h134 := of_decide_eq_true h134
         refine TC.seq (TC.region (TL.v z (OpVal.moveI (.inr z) z) z z (TL.nil (S.n (TC.ofSub (Sub.pre 0 z) (TC.back (TC.ret (S.r ?_))))))))
         obtain rfl := Option.some.inj hh
         exact RetOk.mk' (rs := [.tmp 2]) [] z (.inl z) (RVs.tmp z RVs.nil) (List.sublist_append_left _ _) ⟨z, z, z⟩
        ·replace hh := iteO_f h134 hh
         replace h134 := of_decide_eq_false h134
         refine TC.skip (S.n (TC.seq (TC.region (TL.v z (OpVal.moveI (.inr z) z) z z (TL.nil (S.n (TC.ofSub (Sub.pre 0 z) (TC.back (TC.ret ?_)))))))))
         obtain rfl := Option.some.inj hh
         exact RetOk.mk' (rs := [.tmp 2]) [] z (.inl z) (RVs.tmp z RVs.nil) (List.sublist_append_left _ _) ⟨z, z, z⟩

noncomputable def whittleref21_Few_b2 (x0 : Seq) (k108 : Nat) (i116 : Int) (k117 : Nat) : Option ((Int × Nat) ⊕ ((Nat) ⊕ (Bool))) :=
 iteO (decide (((k117 : Nat) : Int) < (((nth x0.outs k108 ([] : List (List UInt8))).length : Nat) : Int))) (nxt ((IntKind.i64.wrap (i116 + (((nth (nth x0.outs k108 ([] : List (List UInt8))) k117 ([] : List UInt8)).length : Nat) : Int))), (k117 + 1))) (fin (iteO (decide (20000 < i116)) (fin (some false)) (nxt (k108 + 1))))
noncomputable def whittleref21_Few_b1 (x0 : Seq) (k108 : Nat) : Option ((Nat) ⊕ (Bool)) :=
 iteO (decide (((k108 : Nat) : Int) < ((x0.outs.length : Nat) : Int))) (iteO (decide (300 < (((nth x0.outs k108 ([] : List (List UInt8))).length : Nat) : Int))) (fin (some false)) (iter (fun q : Int × Nat => whittleref21_Few_b2 x0 k108 q.1 q.2) (0, 0))) (fin (some true))
noncomputable def whittleref21_Few (x0 : Seq) : Option (Bool) :=
 iteO (decide (12 < ((x0.next.length : Nat) : Int))) (some false) (iteO (decide (13 < ((x0.outs.length : Nat) : Int))) (some false) (iteO (decide (5000 < ((x0.front.length : Nat) : Int))) (some false) (iter (fun q : Nat => whittleref21_Few_b1 x0 q) 0)))
theorem whittleref21_Few_con {σ : Store} {x0 : Seq} {a0_0 : Option Addr} {c0_0 : Nat} {a0_1 : Option Addr} {c0_1 : Nat} {a0_2 : Option Addr} {c0_2 : Nat} {a0_3 : Option Addr} {c0_3 : Nat} (f0_0 : RZ σ (pkSl 1 Go.E.encI Go.E.encI_len) (.slice a0_0 x0.next.length c0_0) x0.next) (f0_1 : RZ σ (pkSl 1 Go.E.encS Go.E.encS_len) (.slice a0_1 x0.outs.length c0_1) x0.outs) (f0_2 : RS σ 1 encB (.slice a0_2 x0.fin.length c0_2) x0.fin) (f0_3 : RS σ 1 Go.E.encS (.slice a0_3 x0.tail.length c0_3) x0.tail) {r : Bool} (hh : whittleref21_Few x0 = some r) :
  Con Tryz.prog 26 #[.agg #[.string (bs x0.front), .slice a0_0 x0.next.length c0_0, .slice a0_1 x0.outs.length c0_1, .slice a0_2 x0.fin.length c0_2, .slice a0_3 x0.tail.length c0_3]] σ [] (PureP (.bool r) σ) := by
 dsimp only [whittleref21_Few] at hh
 have f0_0b := f0_0.big
 have f0_1b := f0_1.big
 have f0_2b := f0_2.rv.big
 have f0_3b := f0_3.rv.big
 refine Con.mk (n := 59) Tryz.func26 z z z (fun w0 => ?_)
 refine TC.seq (TC.region (TL.op z (OpOk.boxA z z z z (fun b101 => ?_))))
 refine TL.v z (OpVal.moveB (.inr z) z) z z (TL.nil (S.n (TC.seq (TC.seq (TC.region (TL.v z (OpVal.fieldLoc z fo30_1 z) z z (TL.v z (OpVal.loadLoc z ag23 z (i := 0) z z) z z (TL.v z (OpVal.lenC z Tryz.underlying23 z) z z (TL.v z (OpVal.gtr z z z) z z ?_)))))))))
 refine TL.v z (OpVal.moveB (.inl z) z) z z (TL.split 10 z (fun h103 => ?_) (fun h103 => ?_))
 ·replace hh := iteO_t h103 hh
  replace h103 := of_decide_eq_true h103
  refine TL.goff z z z z z z z z (TL.goff z z z z z z z z (TL.goff z z z z z z z z (TL.goff z z z z z z z z (TL.v z (OpVal.pickTB z z z) z z (TL.v z (OpVal.moveB (.inl z) z) z z (TL.goff z z z z z z z z (TL.goff z z z z z z z z (TL.goff z z z z z z z z (TL.goff z z z z z z z z ?_)))))))))
  refine TL.v z (OpVal.pickTB z z z) z z (TL.nil (S.n (TC.cond z (fun _ => ?_) (fun h => Bool.noConfusion h))))
  refine TC.seq (TC.region (TL.v z (OpVal.moveB (.inr z) z) z z (TL.nil (S.n (TC.ofSub (Sub.pre 0 z) (TC.ret (S.r ?_)))))))
  obtain rfl := Option.some.inj hh
  exact RetOk.mk' (rs := [.tmp 2]) [] z (.inl z) (RVs.tmp z RVs.nil) (List.sublist_append_left _ _) ⟨z, z, z⟩
 ·replace hh := iteO_f h103 hh
  replace h103 := of_decide_eq_false h103
  refine TL.gv z z z z z (OpVal.fieldLoc z fo30_2 z) z z (TL.gv z z z z z (OpVal.loadLoc z ag27 z (i := 0) z z) z z (TL.gv z z z z z (OpVal.lenC z Tryz.underlying27 z) z z (TL.gv z z z z z (OpVal.gtr z z z) z z (TL.v z (OpVal.pickFB z z z) z z (TL.v z (OpVal.moveB (.inl z) z) z z (TL.split 16 z (fun h104 => ?_) (fun h104 => ?_)))))))
  ·replace hh := iteO_t h104 hh
   replace h104 := of_decide_eq_true h104
   refine TL.goff z z z z z z z z (TL.goff z z z z z z z z (TL.goff z z z z z z z z (TL.goff z z z z z z z z (TL.v z (OpVal.pickTB z z z) z z (TL.nil (S.n (TC.cond z (fun _ => ?_) (fun h => Bool.noConfusion h))))))))
   refine TC.seq (TC.region (TL.v z (OpVal.moveB (.inr z) z) z z (TL.nil (S.n (TC.ofSub (Sub.pre 0 z) (TC.ret (S.r ?_)))))))
   obtain rfl := Option.some.inj hh
   exact RetOk.mk' (rs := [.tmp 2]) [] z (.inl z) (RVs.tmp z RVs.nil) (List.sublist_append_left _ _) ⟨z, z, z⟩
  ·replace hh := iteO_f h104 hh
   replace h104 := of_decide_eq_false h104
   refine TL.gv z z z z z (OpVal.fieldLoc z fo30_0 z) z z (TL.gv z z z z z (OpVal.loadLoc z ag9 z (i := 0) z z) z z (TL.gv z z z z z (OpVal.lenBs z Tryz.underlying9 z) z z (TL.gv z z z z z (OpVal.gtr z z z) z z (TL.v z (OpVal.pickFB z z z) z z (TL.nil (S.n (TC.cond z (fun h105 => ?_) (fun h105 => ?_))))))))
   ·replace hh := iteO_t h105 hh
    replace h105 := of_decide_eq_true h105
    refine TC.seq (TC.region (TL.v z (OpVal.moveB (.inr z) z) z z (TL.nil (S.n (TC.ofSub (Sub.pre 0 z) (TC.ret (S.r ?_)))))))
    obtain rfl := Option.some.inj hh
    exact RetOk.mk' (rs := [.tmp 2]) [] z (.inl z) (RVs.tmp z RVs.nil) (List.sublist_append_left _ _) ⟨z, z, z⟩
   ·replace hh := iteO_f h105 hh
    replace h105 := of_decide_eq_false h105
    refine TC.skip (S.n (TC.seq (TC.seq (TC.region (TL.v z (OpVal.moveI (.inr z) z) z z (TL.nil (S.n (TC.block (TC.loopG (α := (Nat) × (Unit)) [2, 3, 4, 5, 22, 23, 24, 25, 26, 27, 28, 29, 30, 31, 32, 33, 34, 35, 36, 37, 38, 39, 40, 41, 42, 43, 44, 45, 46, 47, 48, 49, 50, 51, 52, 53, 54, 55, 56, 57, 58] (fun g => [(3, .int .i64 ((g.1 : Nat) : Int))]) (fun g => [Res.cells b101 #[.string (bs x0.front), .slice a0_0 x0.next.length c0_0, .slice a0_1 x0.outs.length c0_1, .slice a0_2 x0.fin.length c0_2, .slice a0_3 x0.tail.length c0_3] 30]) (fun g => σ) (fun g => iter (fun q : Nat => whittleref21_Few_b1 x0 q) g.1 = some r) (fun g => rounds (fun q : Nat => whittleref21_Few_b1 x0 q) g.1) (0, ()) (Sub.pre 1 z) z (by repeat (first | exact trivial | refine ⟨z, ?_⟩)) hh (fun g1 j1 hg1 => ?_))))))))))
    obtain ⟨k108, _⟩ := g1
    have hh := hg1; clear hg1
    show TC _ _ _ (upds (mask _ j1 _) [(3, .int .i64 ((k108 : Nat) : Int))]) _ [Res.cells b101 #[.string (bs x0.front), .slice a0_0 x0.next.length c0_0, .slice a0_1 x0.outs.length c0_1, .slice a0_2 x0.fin.length c0_2, .slice a0_3 x0.tail.length c0_3] 30]
    obtain ⟨z1, hh, hR1⟩ := iter_e hh
    dsimp only [whittleref21_Few_b1] at hh
    refine TC.seq (TC.seq (TC.region (TL.v z (OpVal.moveI (.inl z) z) z z (TL.v z (OpVal.fieldLoc z fo30_2 z) z z (TL.v z (OpVal.loadLoc z ag27 z (i := 0) z z) z z (TL.v z (OpVal.lenC z Tryz.underlying27 z) z z (TL.v z (OpVal.lss z z z) z z (TL.nil (S.n ?_)))))))))
    refine TC.cond z (fun h109 => ?_) (fun h109 => ?_)
    ·replace hh := iteO_t h109 hh
     replace h109 := of_decide_eq_true h109
     refine TC.skip (S.n (TC.seq (TC.block (TC.seq (TC.seq (TC.region (TL.v z (OpVal.fieldLoc z fo30_2 z) z z (TL.v z (OpVal.loadLoc z ag27 z (i := 0) z z) z z (TL.v z (OpVal.moveI (.inl z) z) z z ?_)))))))))
     refine TL.v z (OpVal.indexN z Tryz.underlying27 sz28 z z f0_1.isSl (by omega)) z z ?_
     obtain ⟨p110, hk110, hg110⟩ := RZ.seg f0_1 k108 (by omega)
     replace hk110 : RS _ 1 Go.E.encS (.slice p110.1 (nth x0.outs k108 ([] : List (List UInt8))).length p110.2) (nth x0.outs k108 ([] : List (List UInt8))) := hk110
     have hk110b := hk110.rv.big
     refine TL.v z (OpVal.of (OpVal.loadSeg0 z ag28 z hg110 z) (v' := .slice p110.1 ((nth x0.outs k108 ([] : List (List UInt8))).length) p110.2) z) z z (TL.v z (OpVal.lenC z Tryz.underlying28 z) z z (TL.v z (OpVal.gtr z z z) z z (TL.nil (S.n (TC.cond z (fun h111 => ?_) (fun h111 => ?_))))))
     ·replace hh := iteO_t h111 hh
      replace h111 := of_decide_eq_true h111
      refine TC.seq (TC.region (TL.v z (OpVal.moveB (.inr z) z) z z (TL.nil (S.n (TC.ofSub (Sub.pre 0 z) (TC.ret (S.r (B.r (S.r ?_)))))))))
      refine S.r ?_
      replace hh := fin_x hR1 hh
      refine B.r (S.r ?_)
      obtain rfl := Option.some.inj hh
      exact RetOk.mk' (rs := [.tmp 2]) [] z (.inl z) (RVs.tmp z RVs.nil) (List.sublist_append_left _ _) ⟨z, z, z⟩
     ·replace hh := iteO_f h111 hh
      replace h111 := of_decide_eq_false h111
      refine TC.skip (S.n (TC.seq (TC.region (TL.v z (OpVal.moveI (.inr z) z) z z (TL.nil (S.n (TC.seq (TC.seq (TC.region ?_)))))))))
      refine TL.v z (OpVal.moveI (.inr z) z) z z (TL.nil (S.n (TC.block (TC.loopG (α := (Int × Nat) × (Unit)) [4, 5, 36, 37, 38, 39, 40, 41, 42, 43, 44, 45, 46, 47, 48, 49, 50, 51, 52, 53, 54, 55, 56] (fun g => [(4, .int .i64 g.1.1), (5, .int .i64 ((g.1.2 : Nat) : Int))]) (fun g => [Res.cells b101 #[.string (bs x0.front), .slice a0_0 x0.next.length c0_0, .slice a0_1 x0.outs.length c0_1, .slice a0_2 x0.fin.length c0_2, .slice a0_3 x0.tail.length c0_3] 30]) (fun g => σ) (fun g => iter (fun q : Int × Nat => whittleref21_Few_b2 x0 k108 q.1 q.2) g.1 = some z1) (fun g => rounds (fun q : Int × Nat => whittleref21_Few_b2 x0 k108 q.1 q.2) g.1) ((0, 0), ()) (Sub.pre 1 z) z (by repeat (first | exact trivial | refine ⟨z, ?_⟩)) hh (fun g2 j2 hg2 => ?_)))))
      obtain ⟨⟨i116, k117⟩, _⟩ := g2
      have hh := hg2; clear hg2
      show TC _ _ _ (upds (mask _ j2 _) [(4, .int .i64 i116), (5, .int .i64 ((k117 : Nat) : Int))]) _ [Res.cells b101 #[.string (bs x0.front), .slice a0_0 x0.next.length c0_0, .slice a0_1 x0.outs.length c0_1, .slice a0_2 x0.fin.length c0_2, .slice a0_3 x0.tail.length c0_3] 30]
      obtain ⟨z2, hh, hR2⟩ := iter_e hh
      dsimp only [whittleref21_Few_b2] at hh
      refine TC.seq (TC.seq (TC.region (TL.v z (OpVal.moveI (.inl z) z) z z (TL.v z (OpVal.fieldLoc z fo30_2 z) z z (TL.v z (OpVal.loadLoc z ag27 z (i := 0) z z) z z (TL.v z (OpVal.moveI (.inl z) z) z z (TL.v z (OpVal.indexN z Tryz.underlying27 sz28 z z f0_1.isSl (by omega)) z z ?_)))))))
      obtain ⟨p118, hk118, hg118⟩ := RZ.seg f0_1 k108 (by omega)
      replace hk118 : RS _ 1 Go.E.encS (.slice p118.1 (nth x0.outs k108 ([] : List (List UInt8))).length p118.2) (nth x0.outs k108 ([] : List (List UInt8))) := hk118
      have hk118b := hk118.rv.big
      refine TL.v z (OpVal.of (OpVal.loadSeg0 z ag28 z hg118 z) (v' := .slice p118.1 ((nth x0.outs k108 ([] : List (List UInt8))).length) p118.2) z) z z (TL.v z (OpVal.lenC z Tryz.underlying28 z) z z (TL.v z (OpVal.lss z z z) z z (TL.nil (S.n (TC.cond z (fun h119 => ?_) (fun h119 => ?_))))))
      ·replace hh := iteO_t h119 hh
       replace h119 := of_decide_eq_true h119
       refine TC.skip (S.n (TC.seq (TC.block (TC.region (TL.v z (OpVal.moveI (.inl z) z) z z (TL.v z (OpVal.fieldLoc z fo30_2 z) z z (TL.v z (OpVal.loadLoc z ag27 z (i := 0) z z) z z (TL.v z (OpVal.moveI (.inl z) z) z z (TL.v z (OpVal.indexN z Tryz.underlying27 sz28 z z f0_1.isSl (by omega)) z z ?_)))))))))
       obtain ⟨p120, hk120, hg120⟩ := RZ.seg f0_1 k108 (by omega)
       replace hk120 : RS _ 1 Go.E.encS (.slice p120.1 (nth x0.outs k108 ([] : List (List UInt8))).length p120.2) (nth x0.outs k108 ([] : List (List UInt8))) := hk120
       have hk120b := hk120.rv.big
       refine TL.v z (OpVal.of (OpVal.loadSeg0 z ag28 z hg120 z) (v' := .slice p120.1 ((nth x0.outs k108 ([] : List (List UInt8))).length) p120.2) z) z z (TL.v z (OpVal.moveI (.inl z) z) z z (TL.v z (OpVal.indexN z Tryz.underlying28 sz9 z z hk120.rv.sl (by omega)) z z (TL.v z (OpVal.loadS1 ([] : List UInt8) z ag9 z hk120 (by omega) z) z z (TL.v z (OpVal.lenBs z Tryz.underlying9 z) z z (TL.v z (OpVal.addW z z z) z z (TL.v z (OpVal.moveI (.inr z) z) z z (TL.nil (B.n (S.n ?_)))))))))
       refine TC.region (TL.v z (OpVal.moveI (.inl z) z) z z (TL.v z (OpVal.succ z z z (by omega)) z z (TL.v z (OpVal.moveI (.inr z) z) z z (TL.nil (S.n ?_)))))
       obtain ⟨hh, hlt121⟩ := nxt_x hR2 hh
       refine ⟨by repeat (first | exact Agr.refl _ _ | exact Agr.mask | refine Agr.upd z ?_ | refine Agr.maskIn z ?_ | refine Agr.upds z ?_), (((IntKind.i64.wrap (i116 + (((nth (nth x0.outs k108 ([] : List (List UInt8))) k117 ([] : List UInt8)).length : Nat) : Int))), (k117 + 1)), ()), hlt121, hh, by repeat (first | exact trivial | refine ⟨z, ?_⟩), Sub.pre 1 z, z⟩
      ·replace hh := iteO_f h119 hh
       replace h119 := of_decide_eq_false h119
       refine TC.exit (S.x (S.x ?_))
       replace hh := fin_x hR2 hh
       refine TC.exitHere (S.n (TC.seq (TC.region (TL.v z (OpVal.moveI (.inl z) z) z z (TL.v z (OpVal.gtr z z z) z z (TL.nil (S.n (TC.cond z (fun h122 => ?_) (fun h122 => ?_)))))))))
       ·replace hh := iteO_t h122 hh
        replace h122 := of_decide_eq_true h122
        refine TC.seq (TC.region (TL.v z (OpVal.moveB (.inr z) z) z z (TL.nil (S.n (TC.ofSub (Sub.pre 0 z) (TC.ret (B.r (S.r (S.r ?_)))))))))
        replace hh := fin_x hR1 hh
        refine B.r (S.r ?_)
        obtain rfl := Option.some.inj hh
        exact RetOk.mk' (rs := [.tmp 2]) [] z (.inl z) (RVs.tmp z RVs.nil) (List.sublist_append_left _ _) ⟨z, z, z⟩
       ·replace hh := iteO_f h122 hh
        replace h122 := of_decide_eq_false h122
        refine TC.skip (B.n (S.n (TC.region (TL.v z (OpVal.moveI (.inl z) z) z z (TL.v z (OpVal.succ z z z (by omega)) z z (TL.v z (OpVal.moveI (.inr z) z) z z (TL.nil (S.n ?_))))))))
        obtain ⟨hh, hlt123⟩ := nxt_x hR1 hh
        refine ⟨by repeat (first | exact Agr.refl _ _ | exact Agr.mask | refine Agr.upd z ?_ | refine Agr.maskIn z ?_ | refine Agr.upds z ?_), ((k108 + 1), ()), hlt123, hh, by repeat (first | exact trivial | refine ⟨z, ?_⟩), Sub.pre 1 z, z⟩
    ·replace hh := iteO_f h109 hh
     replace h109 := of_decide_eq_false h109
     refine TC.exit (S.x (S.x ?_))
     replace hh := fin_x hR1 hh
     refine TC.exitHere (S.n (TC.seq (TC.region (TL.v z (OpVal.moveB (.inr z) z) z z (TL.nil (S.n (TC.ofSub (Sub.pre 0 z) (TC.ret ?_))))))))
     obtain rfl := Option.some.inj hh
     exact RetOk.mk' (rs := [.tmp 2]) [] z (.inl z) (RVs.tmp z RVs.nil) (List.sublist_append_left _ _) ⟨z, z, z⟩

noncomputable def whittleref24_Few (x0 : Rule) : Option (Bool) :=
 bnd (whittleref11_Few x0.of) (fun v5 => iteO v5 (bnd (whittleref11_Few x0.left) (fun v9 => iteO v9 (bnd (whittleref11_Few x0.right) (fun v14 => iteO v14 (bnd (whittleref21_Few x0.by') (fun v19 => iteO v19 (some (decide (((x0.out.length : Nat) : Int) ≤ 300))) (some false))) (some false))) (some false))) (some false))
theorem whittleref24_Few_con {σ : Store} {x0 : Rule} {a0_0 : Option Addr} {c0_0 : Nat} {a0_1 : Option Addr} {c0_1 : Nat} {a0_2 : Option Addr} {c0_2 : Nat} {a0_3 : Option Addr} {c0_3 : Nat} {a0_4 : Option Addr} {c0_4 : Nat} {a0_5 : Option Addr} {c0_5 : Nat} {a0_6 : Option Addr} {c0_6 : Nat} {a0_7 : Option Addr} {c0_7 : Nat} {a0_8 : Option Addr} {c0_8 : Nat} {a0_9 : Option Addr} {c0_9 : Nat} {a0_10 : Option Addr} {c0_10 : Nat} {a0_11 : Option Addr} {c0_11 : Nat} {a0_12 : Option Addr} {c0_12 : Nat} (f0_0 : RS σ 1 Go.E.encI (.slice a0_0 x0.of.cls.length c0_0) x0.of.cls) (f0_1 : RZ σ (pkSl 1 Go.E.encI Go.E.encI_len) (.slice a0_1 x0.of.next.length c0_1) x0.of.next) (f0_2 : RS σ 1 encB (.slice a0_2 x0.of.fin.length c0_2) x0.of.fin) (f0_3 : RS σ 1 Go.E.encI (.slice a0_3 x0.left.cls.length c0_3) x0.left.cls) (f0_4 : RZ σ (pkSl 1 Go.E.encI Go.E.encI_len) (.slice a0_4 x0.left.next.length c0_4) x0.left.next) (f0_5 : RS σ 1 encB (.slice a0_5 x0.left.fin.length c0_5) x0.left.fin) (f0_6 : RS σ 1 Go.E.encI (.slice a0_6 x0.right.cls.length c0_6) x0.right.cls) (f0_7 : RZ σ (pkSl 1 Go.E.encI Go.E.encI_len) (.slice a0_7 x0.right.next.length c0_7) x0.right.next) (f0_8 : RS σ 1 encB (.slice a0_8 x0.right.fin.length c0_8) x0.right.fin) (f0_9 : RZ σ (pkSl 1 Go.E.encI Go.E.encI_len) (.slice a0_9 x0.by'.next.length c0_9) x0.by'.next) (f0_10 : RZ σ (pkSl 1 Go.E.encS Go.E.encS_len) (.slice a0_10 x0.by'.outs.length c0_10) x0.by'.outs) (f0_11 : RS σ 1 encB (.slice a0_11 x0.by'.fin.length c0_11) x0.by'.fin) (f0_12 : RS σ 1 Go.E.encS (.slice a0_12 x0.by'.tail.length c0_12) x0.by'.tail) {r : Bool} (hh : whittleref24_Few x0 = some r) :
  Con Tryz.prog 7 #[.agg #[.slice a0_0 x0.of.cls.length c0_0, .slice a0_1 x0.of.next.length c0_1, .slice a0_2 x0.of.fin.length c0_2, .slice a0_3 x0.left.cls.length c0_3, .slice a0_4 x0.left.next.length c0_4, .slice a0_5 x0.left.fin.length c0_5, .slice a0_6 x0.right.cls.length c0_6, .slice a0_7 x0.right.next.length c0_7, .slice a0_8 x0.right.fin.length c0_8, .string (bs x0.out), .bool x0.mapped, .string (bs x0.by'.front), .slice a0_9 x0.by'.next.length c0_9, .slice a0_10 x0.by'.outs.length c0_10, .slice a0_11 x0.by'.fin.length c0_11, .slice a0_12 x0.by'.tail.length c0_12]] σ [] (PureP (.bool r) σ) := by
 dsimp only [whittleref24_Few] at hh
 have f0_0b := f0_0.rv.big
 have f0_1b := f0_1.big
 have f0_2b := f0_2.rv.big
 have f0_3b := f0_3.rv.big
 have f0_4b := f0_4.big
 have f0_5b := f0_5.rv.big
 have f0_6b := f0_6.rv.big
 have f0_7b := f0_7.big
 have f0_8b := f0_8.rv.big
 have f0_9b := f0_9.big
 have f0_10b := f0_10.big
 have f0_11b := f0_11.rv.big
 have f0_12b := f0_12.rv.big
 refine Con.mk (n := 27) Tryz.func7 z z z (fun w0 => ?_)
 refine TC.seq (TC.region (TL.op z (OpOk.boxA z z z z (fun b101 => ?_))))
 refine TL.v z (OpVal.moveB (.inr z) z) z z (TL.nil (S.n (TC.seq (TC.region (TL.v z (OpVal.fieldLoc z fo32_0 z) z z (TL.v z (OpVal.loadLocA z ag26 sz26 z (i := 0) z z z) z z ?_))))))
 obtain ⟨v5, u5, hh⟩ := bnd_e hh
 refine TL.op z (OpOk.callP (whittleref11_Few_con (x0 := x0.of) f0_0 f0_1 f0_2 u5) z z pf25 z z z ?_)
 refine TL.v z (OpVal.moveB (.inl z) z) z z (TL.split 6 z (fun h103 => ?_) (fun h103 => ?_))
 ·replace hh := iteO_t h103 hh
  refine TL.gv z z z z z (OpVal.fieldLoc z fo32_1 z) z z (TL.gv z z z z z (OpVal.loadLocA z ag26 sz26 z (i := 0) z z z) z z ?_)
  obtain ⟨v9, u9, hh⟩ := bnd_e hh
  refine TL.gon z z z z z (OpOk.callP (whittleref11_Few_con (x0 := x0.left) f0_3 f0_4 f0_5 u9) z z pf25 z z z ?_)
  refine TL.v z (OpVal.pickTB z z z) z z (TL.v z (OpVal.moveB (.inl z) z) z z (TL.split 11 z (fun h104 => ?_) (fun h104 => ?_)))
  ·replace hh := iteO_t h104 hh
   refine TL.gv z z z z z (OpVal.fieldLoc z fo32_2 z) z z (TL.gv z z z z z (OpVal.loadLocA z ag26 sz26 z (i := 0) z z z) z z ?_)
   obtain ⟨v14, u14, hh⟩ := bnd_e hh
   refine TL.gon z z z z z (OpOk.callP (whittleref11_Few_con (x0 := x0.right) f0_6 f0_7 f0_8 u14) z z pf25 z z z ?_)
   refine TL.v z (OpVal.pickTB z z z) z z (TL.v z (OpVal.moveB (.inl z) z) z z (TL.split 16 z (fun h105 => ?_) (fun h105 => ?_)))
   ·replace hh := iteO_t h105 hh
    refine TL.gv z z z z z (OpVal.fieldLoc z fo32_5 z) z z (TL.gv z z z z z (OpVal.loadLocA z ag30 sz30 z (i := 0) z z z) z z ?_)
    obtain ⟨v19, u19, hh⟩ := bnd_e hh
    refine TL.gon z z z z z (OpOk.callP (whittleref21_Few_con (x0 := x0.by') f0_9 f0_10 f0_11 f0_12 u19) z z pf26 z z z ?_)
    refine TL.v z (OpVal.pickTB z z z) z z (TL.v z (OpVal.moveB (.inl z) z) z z (TL.split 21 z (fun h106 => ?_) (fun h106 => ?_)))
    ·replace hh := iteO_t h106 hh
     refine TL.gv z z z z z (OpVal.fieldLoc z fo32_3 z) z z (TL.gv z z z z z (OpVal.loadLoc z ag9 z (i := 0) z z) z z (TL.gv z z z z z (OpVal.lenBs z Tryz.underlying9 z) z z (TL.gv z z z z z (OpVal.leq z z z) z z (TL.v z (OpVal.pickTB z z z) z z (TL.v z (OpVal.moveB (.inr z) z) z z (TL.nil (S.n (TC.ofSub (Sub.pre 0 z) (TC.ret ?_)))))))))
     obtain rfl := Option.some.inj hh
     exact RetOk.mk' (rs := [.tmp 2]) [] z (.inl z) (RVs.tmp z RVs.nil) (List.sublist_append_left _ _) ⟨z, z, z⟩
    ·replace hh := iteO_f h106 hh
     refine TL.goff z z z z z z z z (TL.goff z z z z z z z z (TL.goff z z z z z z z z (TL.goff z z z z z z z z (TL.v z (OpVal.pickFB z z z) z z (TL.v z (OpVal.moveB (.inr z) z) z z (TL.nil (S.n (TC.ofSub (Sub.pre 0 z) (TC.ret ?_)))))))))
     obtain rfl := Option.some.inj hh
     exact RetOk.mk' (rs := [.tmp 2]) [] z (.inl z) (RVs.tmp z RVs.nil) (List.sublist_append_left _ _) ⟨z, z, z⟩
   ·replace hh := iteO_f h105 hh
    refine TL.goff z z z z z z z z (TL.goff z z z z z z z z (TL.goff z z z z z z z z (TL.v z (OpVal.pickFB z z z) z z (TL.v z (OpVal.moveB (.inl z) z) z z (TL.goff z z z z z z z z (TL.goff z z z z z z z z (TL.goff z z z z z z z z (TL.goff z z z z z z z z (TL.v z (OpVal.pickFB z z z) z z ?_)))))))))
    refine TL.v z (OpVal.moveB (.inr z) z) z z (TL.nil (S.n (TC.ofSub (Sub.pre 0 z) (TC.ret ?_))))
    obtain rfl := Option.some.inj hh
    exact RetOk.mk' (rs := [.tmp 2]) [] z (.inl z) (RVs.tmp z RVs.nil) (List.sublist_append_left _ _) ⟨z, z, z⟩
  ·replace hh := iteO_f h104 hh
   refine TL.goff z z z z z z z z (TL.goff z z z z z z z z (TL.goff z z z z z z z z (TL.v z (OpVal.pickFB z z z) z z (TL.v z (OpVal.moveB (.inl z) z) z z (TL.goff z z z z z z z z (TL.goff z z z z z z z z (TL.goff z z z z z z z z (TL.v z (OpVal.pickFB z z z) z z (TL.v z (OpVal.moveB (.inl z) z) z z ?_)))))))))
   refine TL.goff z z z z z z z z (TL.goff z z z z z z z z (TL.goff z z z z z z z z (TL.goff z z z z z z z z (TL.v z (OpVal.pickFB z z z) z z (TL.v z (OpVal.moveB (.inr z) z) z z (TL.nil (S.n (TC.ofSub (Sub.pre 0 z) (TC.ret ?_)))))))))
   obtain rfl := Option.some.inj hh
   exact RetOk.mk' (rs := [.tmp 2]) [] z (.inl z) (RVs.tmp z RVs.nil) (List.sublist_append_left _ _) ⟨z, z, z⟩
 ·replace hh := iteO_f h103 hh
  refine TL.goff z z z z z z z z (TL.goff z z z z z z z z (TL.goff z z z z z z z z (TL.v z (OpVal.pickFB z z z) z z (TL.v z (OpVal.moveB (.inl z) z) z z (TL.goff z z z z z z z z (TL.goff z z z z z z z z (TL.goff z z z z z z z z (TL.v z (OpVal.pickFB z z z) z z (TL.v z (OpVal.moveB (.inl z) z) z z ?_)))))))))
  refine TL.goff z z z z z z z z (TL.goff z z z z z z z z (TL.goff z z z z z z z z (TL.v z (OpVal.pickFB z z z) z z (TL.v z (OpVal.moveB (.inl z) z) z z (TL.goff z z z z z z z z (TL.goff z z z z z z z z (TL.goff z z z z z z z z (TL.goff z z z z z z z z (TL.v z (OpVal.pickFB z z z) z z ?_)))))))))
  refine TL.v z (OpVal.moveB (.inr z) z) z z (TL.nil (S.n (TC.ofSub (Sub.pre 0 z) (TC.ret ?_))))
  obtain rfl := Option.some.inj hh
  exact RetOk.mk' (rs := [.tmp 2]) [] z (.inl z) (RVs.tmp z RVs.nil) (List.sublist_append_left _ _) ⟨z, z, z⟩

noncomputable def span_Check (x0 : Span) (x1 : Int) : Option (Int) :=
 iteO (decide (x0.frm < 0)) (some 1) (iteO (decide (x0.to < x0.frm)) (some 1) (iteO (decide (x1 < x0.to)) (some 1) (some 0)))
theorem span_Check_con {σ : Store} {x0 : Span} {x1 : Int}  {r : Int} (hh : span_Check x0 x1 = some r) :
  Con Tryz.prog 23 #[.agg #[.int .i64 x0.frm, .int .i64 x0.to], .int .i64 x1] σ [] (PureP (.int .i64 r) σ) := by
 dsimp only [span_Check] at hh
 refine Con.mk (n := 21) Tryz.func23 z z z (fun w0 => ?_)
 refine TC.seq (TC.region (TL.op z (OpOk.boxA z z z z (fun b101 => ?_))))
 refine TL.v z (OpVal.moveI (.inr z) z) z z (TL.nil (S.n (TC.seq (TC.seq (TC.region (TL.v z (OpVal.fieldLoc z fo56_0 z) z z (TL.v z (OpVal.loadLoc z ag3 z (i := 0) z z) z z (TL.v z (OpVal.lss z z z) z z (TL.v z (OpVal.moveB (.inl z) z) z z ?_)))))))))
 refine TL.split 8 z (fun h103 => ?_) (fun h103 => ?_)
 ·replace hh := iteO_t h103 hh
  replace h103 := of_decide_eq_true h103
  refine TL.goff z z z z z z z z (TL.goff z z z z z z z z (TL.goff z z z z z z z z (TL.goff z z z z z z z z (TL.goff z z z z z z z z (TL.v z (OpVal.pickTB z z z) z z (TL.v z (OpVal.moveB (.inl z) z) z z (TL.goff z z z z z z z z (TL.goff z z z z z z z z (TL.goff z z z z z z z z ?_)))))))))
  refine TL.goff z z z z z z z z (TL.v z (OpVal.pickTB z z z) z z (TL.nil (S.n (TC.cond z (fun _ => ?_) (fun h => Bool.noConfusion h)))))
  refine TC.seq (TC.region (TL.v z (OpVal.moveI (.inr z) z) z z (TL.nil (S.n (TC.ofSub (Sub.pre 0 z) (TC.ret (S.r ?_)))))))
  obtain rfl := Option.some.inj hh
  exact RetOk.mk' (rs := [.tmp 4]) [] z (.inl z) (RVs.tmp z RVs.nil) (List.sublist_append_left _ _) ⟨z, z, z⟩
 ·replace hh := iteO_f h103 hh
  replace h103 := of_decide_eq_false h103
  refine TL.gv z z z z z (OpVal.fieldLoc z fo56_0 z) z z (TL.gv z z z z z (OpVal.loadLoc z ag3 z (i := 0) z z) z z (TL.gv z z z z z (OpVal.fieldLoc z fo56_1 z) z z (TL.gv z z z z z (OpVal.loadLoc z ag3 z (i := 0) z z) z z (TL.gv z z z z z (OpVal.gtr z z z) z z (TL.v z (OpVal.pickFB z z z) z z (TL.v z (OpVal.moveB (.inl z) z) z z (TL.split 15 z (fun h104 => ?_) (fun h104 => ?_))))))))
  ·replace hh := iteO_t h104 hh
   replace h104 := of_decide_eq_true h104
   refine TL.goff z z z z z z z z (TL.goff z z z z z z z z (TL.goff z z z z z z z z (TL.goff z z z z z z z z (TL.v z (OpVal.pickTB z z z) z z (TL.nil (S.n (TC.cond z (fun _ => ?_) (fun h => Bool.noConfusion h))))))))
   refine TC.seq (TC.region (TL.v z (OpVal.moveI (.inr z) z) z z (TL.nil (S.n (TC.ofSub (Sub.pre 0 z) (TC.ret (S.r ?_)))))))
   obtain rfl := Option.some.inj hh
   exact RetOk.mk' (rs := [.tmp 4]) [] z (.inl z) (RVs.tmp z RVs.nil) (List.sublist_append_left _ _) ⟨z, z, z⟩
  ·replace hh := iteO_f h104 hh
   replace h104 := of_decide_eq_false h104
   refine TL.gv z z z z z (OpVal.fieldLoc z fo56_1 z) z z (TL.gv z z z z z (OpVal.loadLoc z ag3 z (i := 0) z z) z z (TL.gv z z z z z (OpVal.moveI (.inl z) z) z z (TL.gv z z z z z (OpVal.gtr z z z) z z (TL.v z (OpVal.pickFB z z z) z z (TL.nil (S.n (TC.cond z (fun h105 => ?_) (fun h105 => ?_))))))))
   ·replace hh := iteO_t h105 hh
    replace h105 := of_decide_eq_true h105
    refine TC.seq (TC.region (TL.v z (OpVal.moveI (.inr z) z) z z (TL.nil (S.n (TC.ofSub (Sub.pre 0 z) (TC.ret (S.r ?_)))))))
    obtain rfl := Option.some.inj hh
    exact RetOk.mk' (rs := [.tmp 4]) [] z (.inl z) (RVs.tmp z RVs.nil) (List.sublist_append_left _ _) ⟨z, z, z⟩
   ·replace hh := iteO_f h105 hh
    replace h105 := of_decide_eq_false h105
    refine TC.skip (S.n (TC.seq (TC.region (TL.v z (OpVal.moveI (.inr z) z) z z (TL.nil (S.n (TC.ofSub (Sub.pre 0 z) (TC.ret ?_))))))))
    obtain rfl := Option.some.inj hh
    exact RetOk.mk' (rs := [.tmp 4]) [] z (.inl z) (RVs.tmp z RVs.nil) (List.sublist_append_left _ _) ⟨z, z, z⟩

end Go.Proofs.YtmfclggfajopkaaGreatDoor
end

/- Sb -/
section
/- A strings.Builder in a block of one's own: its own address, bytes of a string put behind, what it holds as a string. Plain lemmas over any program; no condition. -/
set_option linter.unusedVariables false
set_option linter.unusedSimpArgs false
namespace Go.E
open Go

/-- What a builder holds as its own address: nothing yet, or that. -/
def badV (u : Bool) (b : Nat) : Value := match u with | true => loc b 0 | false => .pointer none

theorem cells_shape {b E : Nat} {cs : Array Value} {w : World} (h : (Res.cells b cs E).holds w) : w.shape? b = some (E, cs.size) := by
  have h1 : w.heap[b]? = some (.cells cs E (0, 0)) := h
  simp [World.shape?, h1]
section
variable {P : Program} {n : Nat} {e : Env} {σ : Store} {H : List Res} {o : Oper} {x y : Operand}
theorem OpVal.cvtUns {S T t b E i sz m : Nat} {cs : Array Value} (ho : o.op = .convert S T x) (hS : P.underlying S = some (.pointer t)) (hT : P.underlying T = some .unsafePointer) (hs : szOf P t = some sz) (h0 : sz ≠ 0)
    (hx : ev e x = loc b 0) (hi : H[i]? = some (Res.cells b cs E)) (hm : cs.size = m) (hc : 0 < m) : OpVal P n o e σ H (loc b 0) := fun w hw => by
  obtain ⟨j, hj, hjs⟩ := szOf_info hs
  have hsh := cells_shape (hw.2 _ (List.mem_of_getElem? hi))
  have h := Lib.run_to_unsafe (P := P) (w := w) (cells := cs.size) ⟨b, 0, none⟩ hS hT hj (by rw [hjs]; exact h0) hsh (by rw [hm]; exact hc)
  simp [execOp, ho, hx, loc, h]
theorem OpVal.cvtPtr {S T t b E i sz m : Nat} {cs : Array Value} (ho : o.op = .convert S T x) (hS : P.underlying S = some .unsafePointer) (hT : P.underlying T = some (.pointer t)) (hs : szOf P t = some sz)
    (hx : ev e x = loc b 0) (hi : H[i]? = some (Res.cells b cs E)) (hm : cs.size = m) (hl : liesAt P P.depth E (m / P.cellsOf E) 0 t 1 = true) : OpVal P n o e σ H (loc b 0) := fun w hw => by
  obtain ⟨j, hj, hjs⟩ := szOf_info hs
  have hsh := cells_shape (hw.2 _ (List.mem_of_getElem? hi))
  have h := Lib.run_from_unsafe (P := P) (w := w) (cells := cs.size) ⟨b, 0, none⟩ hS hT hj hsh (by rw [hm]; exact hl)
  simp [execOp, ho, hx, loc, h]
theorem OpVal.noEsc {p : Operand} {ts : Array TypeId} {J : FuncId} {fn : Func} {v : Value} (ho : o.op = .call { callee := .value x, args := #[p], argTypes := ts }) (hx : ev e x = .func (.func J) #[] #[]) (hf : P.funcs[J]? = some fn) (hname : (fn.name == "runtime.NumGoroutine") = false)
    (hb : fn.body.isNone = true) (hn : Extern.findNext fn = none) (he : Extern.find fn = some Extern.AbiNoEscape.same) (hp : ev e p = v) : OpVal P n o e σ H v := fun w _ => by
  have h := run_callFunc_extern hf hname hb hn he #[v] w
  rw [Lib.run_noEscape] at h
  simp [execOp, ho, resolve, Deferred.ofValue, invoke, hx, hp, h, Result.andThen]
theorem OpVal.neqSelf {T T' t b sz : Nat} (ho : o.op = .binOp .neq T x y T') (hT : P.underlying T = some (.pointer t)) (hs : szOf P t = some sz) (hx : ev e x = loc b 0) (hy : ev e y = loc b 0) : OpVal P n o e σ H (.bool false) := fun w _ => by
  obtain ⟨j, hj, _⟩ := szOf_info hs
  have h := Lib.run_neq_ptr_same (P := P) (w := w) ⟨b, 0, none⟩ hT hj
  simp only [execOp, ho, hx, hy, loc, Sem.run_bind, run_eqGuard_ptr, Result.andThen_ok]
  rw [h]; rfl
end
theorem strCells_bs (l : List UInt8) : Lib.strCells (bs l) = l.flatMap encU8 := by
  have h : ∀ l : List UInt8, l.map (fun b => Value.int IntKind.u8 ((b.toNat : Nat) : Int)) = l.flatMap encU8 := fun l => by
    induction l with
    | nil => rfl
    | cons x l ih => rw [List.map_cons, List.flatMap_cons, ih]; rfl
  simp [Lib.strCells, bs]
  exact h l
theorem appendS_blk {P : Program} {w w' : World} (base : Nat) (t u ty e : TypeId) (i : TypeInfo) (ht : P.underlying t = some (.slice e)) (hu : P.underlying u = some .string) (hi : P.info? e = some i) (hz : i.zero = some (.int .u8 0))
    (hsize : i.size = 1) (hby : i.bytes = 1) {v v' : Value} {n : Nat} {xs : List Value} (hown : w.ownsRow base e 1 v n xs) (s : ByteArray)
    (h63 : n + s.size ≤ maxLen) (hbytes : n + s.size ≤ 140737488355328) (hrun : (Builtin.append_ #[t, u] ty #[v, .string s]).run P w = .ok v' w') :
    (v'.ownBlock = v.ownBlock ∨ v'.ownBlock = some w.heap.size) ∧ w.drawn ≤ w'.drawn := by
  have hsmall : n + s.size ≤ 9223372036854775807 := by simp only [maxLen] at h63; omega
  have hxl : xs.length = n := by simpa using hown.1
  rcases hown.2 with ⟨rfl, rfl⟩ | ⟨g, cap, cur, rfl, hbg, hg, hnc, hcm, hcs, htake⟩
  · by_cases hm : s.size = 0
    · have hf := Lib.run_firstCells_string (P := P) (w := w) 1 s
      rw [hm] at hf
      have hr : (Builtin.append_ #[t, u] ty #[.slice none 0 0, .string s]).run P w = .ok (.slice none 0 0) w := by
        simp [Builtin.append_, run_underlying ht, run_underlying hu, sizeOf, typeInfo, hi, hsize, Builtin.lenOf, hm, hf]
      rw [hrun] at hr; cases hr; exact ⟨.inl rfl, Nat.le_refl _⟩
    · have hr := run_append_nil_string (P := P) w t u ty e i (.int .u8 0) ht hu hi hz s (by omega) (by omega) (by rw [hby]; omega)
      rw [hrun] at hr; cases hr; exact ⟨.inr rfl, Nat.le_succ _⟩
  · by_cases hroom : n + s.size ≤ cap
    · have hcs' : cur.size = cap := by simpa using hcs
      have hr := Lib.run_append_room_string (P := P) (w := w) t u ty e i ht hu hi hsize g n cap cur hg s hroom (by omega)
      rw [hrun] at hr; cases hr; exact ⟨.inl rfl, Nat.le_refl _⟩
    · have holds : ∀ j u, xs[j]? = some u → w.cell? ((⟨g, 0, none⟩ : Addr).add j) = some u := hown.cells (g := g) rfl
      have hr := Lib.run_append_grow_string (P := P) (w := w) t u ty e i (.int .u8 0) ht hu hi hz ⟨g, 0, none⟩ n cap xs (by rw [hsize]; simpa using hxl) holds s (by omega) (by omega) (by rw [hby]; exact growslice_fits (by omega) (by omega))
      rw [hrun] at hr; cases hr; exact ⟨.inr rfl, Nat.le_succ _⟩
theorem OpOk.appendStr {X : Ctx} {e : Env} {σ : Store} {F : List Res} {o : Oper} {x y : Operand} {K : Env → Store → List Res → Prop} {T ty E d : Nat} {v : Value} {l m : List UInt8}
    (ho : o.op = .call { callee := .builtin .append, args := #[x, y], argTypes := #[T, ty] }) (ht : X.P.underlying T = some (.slice E)) (hu : X.P.underlying ty = some .string) (hs : szOf X.P E = some 1) (hby : byOf X.P E = some 1) (hz : zeroOf X.P E = some (.int .u8 0))
    (hd : o.dst = some d) (hn : Nat.blt d X.n = true) (hx : ev e x = v) (hy : ev e y = .string (bs m)) (hb : l.length + m.length ≤ 140737488355328)
    (k : ∀ a c, K (upd e d (.slice a (l ++ m).length c)) σ (Res.rowS E 1 encU8 (.slice a (l ++ m).length c) (l ++ m) :: F)) : OpOk X o e σ (Res.rowS E 1 encU8 v l :: F) K := by
  obtain ⟨i, hi, hsi⟩ := szOf_info hs
  have hiz : i.zero = some (.int .u8 0) := by simpa [zeroOf, hi] using hz
  have hib : i.bytes = 1 := by simpa [byOf, hi] using hby
  intro u0 C0 τ0 w a hw ha K' Q hK
  obtain ⟨hown, hone, hbg⟩ := hw.holds _ (List.mem_cons_self ..)
  have hsz : (bs m).size = m.length := by show (bs m).data.size = _; simp [bs]
  have h1 : l.length + (bs m).size ≤ maxLen := by rw [hsz]; unfold maxLen; omega
  have h2 : l.length + (bs m).size ≤ 140737488355328 := by rw [hsz]; exact hb
  obtain ⟨v', w', hr, hown', hg, _⟩ := Lib.run_append_own_string (P := X.P) (w := w) 0 T ty o.type E i ht hu hi hiz hsi hib v l.length _ hown (bs m) h1 h2 (Nat.zero_le _)
  obtain ⟨hblk, hdr⟩ := appendS_blk 0 T ty o.type E i ht hu hi hiz hsi hib hown (bs m) h1 h2 hr
  rw [hsz, strCells_bs, ← List.flatMap_append, ← List.length_append] at hown'
  have hbk : ∀ b, v'.ownBlock = some b → v.ownBlock = some b ∨ w.heap.size ≤ b := fun b hb => by
    rcases hblk with h | h
    · exact .inl (h ▸ hb)
    · rw [h] at hb; cases hb; exact .inr (Nat.le_refl _)
  have hR : Reach u0 C0 τ0 σ w' (Res.rowS E 1 encU8 v' (l ++ m) :: F) :=
    hw.turn1 (Value.ownBlock v) (Value.ownBlock v') rfl rfl hg.os hg.tape hg.output hg.size hdr (fun q hq hne => hg.block q hq (fun hx => hne hx.symm)) ⟨hown', fun q hq => by
      obtain ⟨z, _, hz⟩ := List.mem_flatMap.1 hq
      exact encU8_one z q hz, by rw [List.length_append]; omega⟩ hbk
  obtain ⟨av, cv, rfl, _, _⟩ := isSl_row hown'
  refine Oper.wp_of_run (w' := w') (v := .slice av (l ++ m).length cv) ?_ (hK _ _ _ _ _ (k av cv) hR (put_dst ha hd hn _))
  rw [ha.eval']
  simp [execOp, ho, resolve, invoke, builtin, hx, hy, hr]

/-- A block that nobody looks at any more. -/
def Res.any (o : Option Nat) : Res where
  bl := o.toList
  holds w := ∀ b, o = some b → b < w.heap.size
  lt w b hb h := h b (by simpa using hb)
  keep w w' hb h := fun b e => by
    have h1 := h b e
    have h2 := hb b (by rw [e]; simp)
    rw [Array.getElem?_eq_getElem h1] at h2
    exact (Array.getElem?_eq_some_iff.1 h2).1
/-- Where a row's cells lie, asked as unsafe.SliceData does. -/
def SDat (v : Value) (l : List UInt8) (q : Option Addr) : Prop := l ≠ [] → ∃ g c, v = .slice (some ⟨g, 0, none⟩) l.length c ∧ q = some ⟨g, 0, none⟩
theorem OpOk.sliceDat {X : Ctx} {e : Env} {σ : Store} {F : List Res} {o : Oper} {x : Operand} {K : Env → Store → List Res → Prop} {T E d D : Nat} {v : Value} {l : List UInt8}
    (ho : o.op = .call { callee := .builtin .unsafeSliceData, args := #[x], argTypes := #[T] }) (hD : o.type = D) (hp : X.P.underlying D = some (.pointer E)) (hd : o.dst = some d) (hn : Nat.blt d X.n = true) (hx : ev e x = v)
    (k : ∀ q, SDat v l q → K (upd e d (.pointer q)) σ (Res.rowS E 1 encU8 v l :: F)) : OpOk X o e σ (Res.rowS E 1 encU8 v l :: F) K := by
  subst hD
  intro u0 C0 τ0 w a hw ha K' Q hK
  obtain ⟨hown, hone, hbg⟩ := hw.holds _ (List.mem_cons_self ..)
  rcases id hown.2 with ⟨rfl, hl⟩ | ⟨g, cap, cur, rfl, _, hg, hnc, hcm, hcs, htake⟩
  · have hl0 : l = [] := List.eq_nil_of_length_eq_zero hl
    have hr := Lib.run_unsafeSliceData_nil (P := X.P) (w := w) #[T] o.type 0 0
    refine Oper.wp_of_run (w' := w) (v := .pointer none) ?_ (hK _ _ _ _ _ (k none (fun h => absurd hl0 h)) hw (put_dst ha hd hn _))
    rw [ha.eval']
    simp [execOp, ho, resolve, invoke, builtin, hx, hr]
  · by_cases hc : cap = 0
    · subst hc
      have hl0 : l = [] := List.eq_nil_of_length_eq_zero (by omega)
      have hsh : w.shape? g = some (E, cur.size) := by simp [World.shape?, hg]
      have hr := Lib.run_unsafeSliceData_zero (P := X.P) (w := w) #[T] o.type E hp ⟨g, 0, none⟩ l.length (E, cur.size) hsh
      have hR : Reach u0 C0 τ0 σ (w.alloc (.view ⟨g, 0, none⟩ E)) (Res.any none :: Res.rowS E 1 encU8 (.slice (some ⟨g, 0, none⟩) l.length 0) l :: F) :=
        hw.gain1 none rfl rfl rfl rfl (by simp) (Nat.le_refl _) (fun k hk => alloc_old w _ k hk) (fun b hb => by cases hb) (fun b hb => by cases hb)
      refine Oper.wp_of_run (w' := w.alloc (.view ⟨g, 0, none⟩ E)) (v := .pointer (some ⟨w.heap.size, 0, none⟩)) ?_ (hK _ _ _ _ _ (k _ (fun h => absurd hl0 h)) (hR.sub (List.sublist_cons_self _ _)) (put_dst ha hd hn _))
      rw [ha.eval']
      simp [execOp, ho, resolve, invoke, builtin, hx, hr]
    · have hr := Lib.run_unsafeSliceData_row (P := X.P) (w := w) #[T] o.type ⟨g, 0, none⟩ l.length cap hc
      refine Oper.wp_of_run (w' := w) (v := .pointer (some ⟨g, 0, none⟩)) ?_ (hK _ _ _ _ _ (k _ (fun _ => ⟨g, cap, rfl, rfl⟩)) hw (put_dst ha hd hn _))
      rw [ha.eval']
      simp [execOp, ho, resolve, invoke, builtin, hx, hr]
/-- unsafe.String of it: the row is nobody's any more. -/
theorem OpOk.unsStr {X : Ctx} {e : Env} {σ : Store} {F : List Res} {o : Oper} {x y : Operand} {K : Env → Store → List Res → Prop} {T I E d : Nat} {v : Value} {l : List UInt8} {q : Option Addr}
    (ho : o.op = .call { callee := .builtin .unsafeString, args := #[x, y], argTypes := #[T, I] }) (hp : X.P.underlying T = some (.pointer E)) (hcE : X.P.cellsOf E = 1) (hd : o.dst = some d) (hn : Nat.blt d X.n = true) (hx : ev e x = .pointer q) (hq : SDat v l q) (hy : ev e y = .int .i64 (l.length : Nat))
    (k : K (upd e d (.string (bs l))) σ F) : OpOk X o e σ (Res.rowS E 1 encU8 v l :: F) K := by
  intro u0 C0 τ0 w a hw ha K' Q hK
  obtain ⟨hown, hone, hbg⟩ := hw.holds _ (List.mem_cons_self ..)
  by_cases hl : l = []
  · subst hl
    have hr := Lib.run_unsafeString_none (P := X.P) (w := w) T I o.type q
    refine Oper.wp_of_run (w' := w) (v := .string (bs [])) ?_ (hK _ _ _ _ _ k (hw.sub (List.sublist_cons_self _ _)) (put_dst ha hd hn _))
    rw [ha.eval']
    simp [execOp, ho, resolve, invoke, builtin, hx, hy, hr]
    rfl
  · obtain ⟨g, c, rfl, rfl⟩ := hq hl
    rcases id hown.2 with ⟨hv, _⟩ | ⟨g', cap, cur, hv, _, hg, hnc, hcm, hcs, htake⟩
    · cases hv
    · cases hv
      have hsh : w.shape? g = some (E, cur.size) := by simp [World.shape?, hg]
      have hr := Lib.run_unsafeString_row (P := X.P) (w := w) T I o.type E hp hcE g cur.size hsh l hl (by omega) (by unfold maxLen at hcm; omega) (fun j z hz => by
        refine hown.cells (g := g) rfl j (.int .u8 z.toNat) ?_
        have hj : j < l.length := (List.getElem?_eq_some_iff.1 hz).1
        rw [flat_one (enc := encU8) (fun _ => rfl) (0 : UInt8) l j hj]
        have h4 := getD_some l hj (0 : UInt8)
        rw [hz] at h4
        rw [← Option.some.inj h4]; rfl)
      have hln : ¬ l.length = 0 := fun h => hl (List.eq_nil_of_length_eq_zero h)
      have hfz : ∀ b, b ≠ g → (w.freeze ⟨g, 0, none⟩ l.length).heap[b]? = w.heap[b]? := fun b hb => by
        unfold World.freeze
        rw [if_neg hln]
        simp only [Array.getElem?_modify]
        rw [if_neg (fun h => hb h.symm)]
      have hsz : (w.freeze ⟨g, 0, none⟩ l.length).heap.size = w.heap.size := by
        unfold World.freeze
        rw [if_neg hln]; simp
      have hos : (w.freeze ⟨g, 0, none⟩ l.length).os = w.os ∧ (w.freeze ⟨g, 0, none⟩ l.length).tape = w.tape ∧ (w.freeze ⟨g, 0, none⟩ l.length).output = w.output ∧ (w.freeze ⟨g, 0, none⟩ l.length).drawn = w.drawn := by
        unfold World.freeze
        rw [if_neg hln]; exact ⟨rfl, rfl, rfl, rfl⟩
      have hgl : g < w.heap.size := (Array.getElem?_eq_some_iff.1 hg).1
      have hR : Reach u0 C0 τ0 σ (w.freeze ⟨g, 0, none⟩ l.length) (Res.any (some g) :: F) :=
        hw.turn1 (some g) (some g) rfl rfl hos.1 hos.2.1 hos.2.2.1 (by rw [hsz]; exact Nat.le_refl _) (by rw [hos.2.2.2]; exact Nat.le_refl _) (fun k hk hne => hfz k (fun h => hne (by rw [h]))) (fun b hb => by cases hb; rw [hsz]; exact hgl) (fun b hb => .inl hb)
      refine Oper.wp_of_run (w' := w.freeze ⟨g, 0, none⟩ l.length) (v := .string (bs l)) ?_ (hK _ _ _ _ _ k (hR.sub (List.sublist_cons_self _ _)) (put_dst ha hd hn _))
      rw [ha.eval']
      simp [execOp, ho, resolve, invoke, builtin, hx, hy, hr]
      rfl
section
variable {X : Ctx} {ops : Array Oper} {Q : QP} {e : Env} {σ : Store} {H H' : List Res} {c : Code} {l : List Oper}
theorem TL.asH (h : H = H') (k : TL X ops Q l e σ H') : TL X ops Q l e σ H := h ▸ k
end
end Go.E
end

/- R4 -/
section
/- Decompiled: a strings.Builder, alone and in a piece that grows. -/
set_option linter.unusedVariables false
set_option linter.unusedSimpArgs false
namespace Go.Proofs.YtmfclggfajopkaaGreatDoor
open Go Go.E
set_option maxRecDepth 100000
private theorem ag65 : Go.E.aggOf Tryz.prog 65 = some false := by kernel_rfl
private theorem fo68_0 : Go.E.foOf Tryz.prog 68 0 = some 0 := by kernel_rfl
private theorem sz65 : Go.E.szOf Tryz.prog 65 = some 1 := by kernel_rfl
private theorem sz68 : Go.E.szOf Tryz.prog 68 = some 2 := by kernel_rfl

noncomputable def copyCheckF (x0 : SB) : Option (SB) :=
 some (⟨x0.buf⟩ : SB)
theorem copyCheckF_con {σ : Store} {x0 : SB} {b0_0 : Nat} {a0_1 : Option Addr} {c0_2 : Nat}  {r : SB} (hh : copyCheckF x0 = some r) :
  Con Tryz.prog 96 #[loc b0_0 0] σ [Res.cells b0_0 #[badV false b0_0, .slice a0_1 x0.buf.length c0_2] 68, Res.rowS 5 1 encU8 (.slice a0_1 x0.buf.length c0_2) x0.buf] (fun v σ' H' => ∃ (uo1 : Bool), ∃ (ao2 : Option Addr), ∃ (co3 : Nat), v = .tuple #[] ∧ σ = σ' ∧ H' = [Res.cells b0_0 #[badV uo1 b0_0, .slice ao2 r.buf.length co3] 68, Res.rowS 5 1 encU8 (.slice ao2 r.buf.length co3) r.buf]) := by
 dsimp only [copyCheckF] at hh
 refine Con.mk (n := 20) Tryz.func96 z z z (fun w0 => ?_)
 refine TC.seq (TC.region (TL.v z (OpVal.moveLoc (.inl z) z) z z (TL.v z (OpVal.nilCheckLoc z z) z z (TL.v z (OpVal.fieldLoc z fo68_0 z) z z (TL.v z (OpVal.loadLoc z ag65 z (i := 0) z z) z z (TL.v z (OpVal.eqlNil z Tryz.underlying65 z z) z z (TL.nil (S.n (TC.cond z (fun _ => ?_) (fun h => Bool.noConfusion h))))))))))
 refine TC.region (TL.v z (OpVal.moveLoc (.inl z) z) z z (TL.v z (OpVal.moveLoc (.inl z) z) z z (TL.v z (OpVal.cvtUns z Tryz.underlying65 Tryz.underlying179 sz68 (by decide) z (i := 0) z z (by simp)) z z (TL.v z (OpVal.noEsc z z Tryz.func115 (by kernel_rfl) (by kernel_rfl) (by kernel_rfl) (by kernel_rfl) z) z z (TL.v z (OpVal.cvtPtr z Tryz.underlying179 Tryz.underlying65 sz68 z (i := 0) z z (by kernel_rfl)) z z (TL.v z (OpVal.nilCheckLoc z z) z z (TL.v z (OpVal.fieldLoc z fo68_0 z) z z (TL.op z (OpOk.storeLoc z sz65 z z z z z ?_)))))))))
 refine TL.nil ?_
 obtain rfl := Option.some.inj hh
 exact RetOk.mk' (rs := []) [Res.cells b0_0 #[badV true b0_0, .slice a0_1 x0.buf.length c0_2] 68, Res.rowS 5 1 encU8 (.slice a0_1 x0.buf.length c0_2) x0.buf] z (.inr z) RVs.nil (List.sublist_append_left _ _) ⟨true, a0_1, c0_2, z, z, z⟩

noncomputable def copyCheckT (x0 : SB) : Option (SB) :=
 some (⟨x0.buf⟩ : SB)
theorem copyCheckT_con {σ : Store} {x0 : SB} {b0_0 : Nat} {a0_1 : Option Addr} {c0_2 : Nat}  {r : SB} (hh : copyCheckT x0 = some r) :
  Con Tryz.prog 96 #[loc b0_0 0] σ [Res.cells b0_0 #[badV true b0_0, .slice a0_1 x0.buf.length c0_2] 68, Res.rowS 5 1 encU8 (.slice a0_1 x0.buf.length c0_2) x0.buf] (fun v σ' H' => ∃ (uo1 : Bool), ∃ (ao2 : Option Addr), ∃ (co3 : Nat), v = .tuple #[] ∧ σ = σ' ∧ H' = [Res.cells b0_0 #[badV uo1 b0_0, .slice ao2 r.buf.length co3] 68, Res.rowS 5 1 encU8 (.slice ao2 r.buf.length co3) r.buf]) := by
 dsimp only [copyCheckT] at hh
 refine Con.mk (n := 20) Tryz.func96 z z z (fun w0 => ?_)
 refine TC.seq (TC.region (TL.v z (OpVal.moveLoc (.inl z) z) z z (TL.v z (OpVal.nilCheckLoc z z) z z (TL.v z (OpVal.fieldLoc z fo68_0 z) z z (TL.v z (OpVal.loadLoc z ag65 z (i := 0) z z) z z (TL.v z (OpVal.eqlNil z Tryz.underlying65 z z) z z (TL.nil (S.n (TC.cond z (fun h => Bool.noConfusion h) (fun _ => ?_))))))))))
 refine TC.seq (TC.region (TL.v z (OpVal.moveLoc (.inl z) z) z z (TL.v z (OpVal.nilCheckLoc z z) z z (TL.v z (OpVal.fieldLoc z fo68_0 z) z z (TL.v z (OpVal.loadLoc z ag65 z (i := 0) z z) z z (TL.v z (OpVal.moveLoc (.inl z) z) z z (TL.v z (OpVal.neqSelf z Tryz.underlying65 sz68 z z) z z (TL.nil (S.n ?_)))))))))
 refine TC.cond z (fun h => Bool.noConfusion h) (fun _ => ?_)
 refine TC.skip ?_
 obtain rfl := Option.some.inj hh
 exact RetOk.mk' (rs := []) [Res.cells b0_0 #[badV true b0_0, .slice a0_1 x0.buf.length c0_2] 68, Res.rowS 5 1 encU8 (.slice a0_1 x0.buf.length c0_2) x0.buf] z (.inr z) RVs.nil (List.sublist_append_left _ _) ⟨true, a0_1, c0_2, z, z, z⟩

noncomputable def copyCheckUF (x0 : Turned) : Option (Turned) :=
 some (⟨(⟨x0.b.buf⟩ : SB), x0.at'⟩ : Turned)
theorem copyCheckUF_con {σ : Store} {x0 : Turned} {b0_0 : Nat} {a0_1 : Option Addr} {c0_2 : Nat} {a0_3 : Option Addr} {c0_4 : Nat}  {r : Turned} (hh : copyCheckUF x0 = some r) :
  Con Tryz.prog 96 #[loc b0_0 0] σ [Res.cells b0_0 #[badV false b0_0, .slice a0_1 x0.b.buf.length c0_2, .slice a0_3 x0.at'.length c0_4] 70, Res.rowS 5 1 encU8 (.slice a0_1 x0.b.buf.length c0_2) x0.b.buf, Res.rowS 56 2 encSpan (.slice a0_3 x0.at'.length c0_4) x0.at'] (fun v σ' H' => ∃ (uo1 : Bool), ∃ (ao2 : Option Addr), ∃ (co3 : Nat), ∃ (ao4 : Option Addr), ∃ (co5 : Nat), v = .tuple #[] ∧ σ = σ' ∧ H' = [Res.cells b0_0 #[badV uo1 b0_0, .slice ao2 r.b.buf.length co3, .slice ao4 r.at'.length co5] 70, Res.rowS 5 1 encU8 (.slice ao2 r.b.buf.length co3) r.b.buf, Res.rowS 56 2 encSpan (.slice ao4 r.at'.length co5) r.at']) := by
 dsimp only [copyCheckUF] at hh
 refine Con.mk (n := 20) Tryz.func96 z z z (fun w0 => ?_)
 refine TC.seq (TC.region (TL.v z (OpVal.moveLoc (.inl z) z) z z (TL.v z (OpVal.nilCheckLoc z z) z z (TL.v z (OpVal.fieldLoc z fo68_0 z) z z (TL.v z (OpVal.loadLoc z ag65 z (i := 0) z z) z z (TL.v z (OpVal.eqlNil z Tryz.underlying65 z z) z z (TL.nil (S.n (TC.cond z (fun _ => ?_) (fun h => Bool.noConfusion h))))))))))
 refine TC.region (TL.v z (OpVal.moveLoc (.inl z) z) z z (TL.v z (OpVal.moveLoc (.inl z) z) z z (TL.v z (OpVal.cvtUns z Tryz.underlying65 Tryz.underlying179 sz68 (by decide) z (i := 0) z z (by simp)) z z (TL.v z (OpVal.noEsc z z Tryz.func115 (by kernel_rfl) (by kernel_rfl) (by kernel_rfl) (by kernel_rfl) z) z z (TL.v z (OpVal.cvtPtr z Tryz.underlying179 Tryz.underlying65 sz68 z (i := 0) z z (by kernel_rfl)) z z (TL.v z (OpVal.nilCheckLoc z z) z z (TL.v z (OpVal.fieldLoc z fo68_0 z) z z (TL.op z (OpOk.storeLoc z sz65 z z z z z ?_)))))))))
 refine TL.nil ?_
 obtain rfl := Option.some.inj hh
 exact RetOk.mk' (rs := []) [Res.cells b0_0 #[badV true b0_0, .slice a0_1 x0.b.buf.length c0_2, .slice a0_3 x0.at'.length c0_4] 70, Res.rowS 5 1 encU8 (.slice a0_1 x0.b.buf.length c0_2) x0.b.buf, Res.rowS 56 2 encSpan (.slice a0_3 x0.at'.length c0_4) x0.at'] z (.inr z) RVs.nil (List.sublist_append_left _ _) ⟨true, a0_1, c0_2, a0_3, c0_4, z, z, z⟩

noncomputable def copyCheckUT (x0 : Turned) : Option (Turned) :=
 some (⟨(⟨x0.b.buf⟩ : SB), x0.at'⟩ : Turned)
theorem copyCheckUT_con {σ : Store} {x0 : Turned} {b0_0 : Nat} {a0_1 : Option Addr} {c0_2 : Nat} {a0_3 : Option Addr} {c0_4 : Nat}  {r : Turned} (hh : copyCheckUT x0 = some r) :
  Con Tryz.prog 96 #[loc b0_0 0] σ [Res.cells b0_0 #[badV true b0_0, .slice a0_1 x0.b.buf.length c0_2, .slice a0_3 x0.at'.length c0_4] 70, Res.rowS 5 1 encU8 (.slice a0_1 x0.b.buf.length c0_2) x0.b.buf, Res.rowS 56 2 encSpan (.slice a0_3 x0.at'.length c0_4) x0.at'] (fun v σ' H' => ∃ (uo1 : Bool), ∃ (ao2 : Option Addr), ∃ (co3 : Nat), ∃ (ao4 : Option Addr), ∃ (co5 : Nat), v = .tuple #[] ∧ σ = σ' ∧ H' = [Res.cells b0_0 #[badV uo1 b0_0, .slice ao2 r.b.buf.length co3, .slice ao4 r.at'.length co5] 70, Res.rowS 5 1 encU8 (.slice ao2 r.b.buf.length co3) r.b.buf, Res.rowS 56 2 encSpan (.slice ao4 r.at'.length co5) r.at']) := by
 dsimp only [copyCheckUT] at hh
 refine Con.mk (n := 20) Tryz.func96 z z z (fun w0 => ?_)
 refine TC.seq (TC.region (TL.v z (OpVal.moveLoc (.inl z) z) z z (TL.v z (OpVal.nilCheckLoc z z) z z (TL.v z (OpVal.fieldLoc z fo68_0 z) z z (TL.v z (OpVal.loadLoc z ag65 z (i := 0) z z) z z (TL.v z (OpVal.eqlNil z Tryz.underlying65 z z) z z (TL.nil (S.n (TC.cond z (fun h => Bool.noConfusion h) (fun _ => ?_))))))))))
 refine TC.seq (TC.region (TL.v z (OpVal.moveLoc (.inl z) z) z z (TL.v z (OpVal.nilCheckLoc z z) z z (TL.v z (OpVal.fieldLoc z fo68_0 z) z z (TL.v z (OpVal.loadLoc z ag65 z (i := 0) z z) z z (TL.v z (OpVal.moveLoc (.inl z) z) z z (TL.v z (OpVal.neqSelf z Tryz.underlying65 sz68 z z) z z (TL.nil (S.n ?_)))))))))
 refine TC.cond z (fun h => Bool.noConfusion h) (fun _ => ?_)
 refine TC.skip ?_
 obtain rfl := Option.some.inj hh
 exact RetOk.mk' (rs := []) [Res.cells b0_0 #[badV true b0_0, .slice a0_1 x0.b.buf.length c0_2, .slice a0_3 x0.at'.length c0_4] 70, Res.rowS 5 1 encU8 (.slice a0_1 x0.b.buf.length c0_2) x0.b.buf, Res.rowS 56 2 encSpan (.slice a0_3 x0.at'.length c0_4) x0.at'] z (.inr z) RVs.nil (List.sublist_append_left _ _) ⟨true, a0_1, c0_2, a0_3, c0_4, z, z, z⟩

end Go.Proofs.YtmfclggfajopkaaGreatDoor
end

/- R5 -/
section
/- Decompiled: what a strings.Builder does, alone and in a piece that grows. -/
set_option linter.unusedVariables false
set_option linter.unusedSimpArgs false
namespace Go.Proofs.YtmfclggfajopkaaGreatDoor
open Go Go.E
set_option maxRecDepth 100000
private theorem ag66 : Go.E.aggOf Tryz.prog 66 = some false := by kernel_rfl
private theorem by5 : Go.E.byOf Tryz.prog 5 = some 1 := by kernel_rfl
private theorem ce5 : Tryz.prog.cellsOf 5 = 1 := by kernel_rfl
private theorem fo68_1 : Go.E.foOf Tryz.prog 68 1 = some 1 := by kernel_rfl
private theorem pf96 : Go.E.plainF Tryz.prog 96 = true := by kernel_rfl
private theorem sz66 : Go.E.szOf Tryz.prog 66 = some 1 := by kernel_rfl
private theorem ze5 : Go.E.zeroOf Tryz.prog 5 = some (.int .u8 0) := by kernel_rfl
noncomputable def copyCheck (x0 : SB) : Option SB := copyCheckF x0
noncomputable def copyCheckU (x0 : Turned) : Option Turned := copyCheckUF x0
theorem copyCheck_con {σ : Store} {x0 : SB} {b0_0 : Nat} {u0_1 : Bool} {a0_2 : Option Addr} {c0_3 : Nat} {r : SB} (hh : copyCheck x0 = some r) :
  Con Tryz.prog 96 #[loc b0_0 0] σ [Res.cells b0_0 #[badV u0_1 b0_0, .slice a0_2 x0.buf.length c0_3] 68, Res.rowS 5 1 encU8 (.slice a0_2 x0.buf.length c0_3) x0.buf] (fun v σ' H' => ∃ (uo1 : Bool), ∃ (ao2 : Option Addr), ∃ (co3 : Nat), v = .tuple #[] ∧ σ = σ' ∧ H' = [Res.cells b0_0 #[badV uo1 b0_0, .slice ao2 r.buf.length co3] 68, Res.rowS 5 1 encU8 (.slice ao2 r.buf.length co3) r.buf]) := by
 cases u0_1
 ·exact copyCheckF_con hh
 ·exact copyCheckT_con hh
theorem copyCheckU_con {σ : Store} {x0 : Turned} {b0_0 : Nat} {u0_1 : Bool} {a0_2 : Option Addr} {c0_3 : Nat} {a0_4 : Option Addr} {c0_5 : Nat} {r : Turned} (hh : copyCheckU x0 = some r) :
  Con Tryz.prog 96 #[loc b0_0 0] σ [Res.cells b0_0 #[badV u0_1 b0_0, .slice a0_2 x0.b.buf.length c0_3, .slice a0_4 x0.at'.length c0_5] 70, Res.rowS 5 1 encU8 (.slice a0_2 x0.b.buf.length c0_3) x0.b.buf, Res.rowS 56 2 encSpan (.slice a0_4 x0.at'.length c0_5) x0.at'] (fun v σ' H' => ∃ (uo1 : Bool), ∃ (ao2 : Option Addr), ∃ (co3 : Nat), ∃ (ao4 : Option Addr), ∃ (co5 : Nat), v = .tuple #[] ∧ σ = σ' ∧ H' = [Res.cells b0_0 #[badV uo1 b0_0, .slice ao2 r.b.buf.length co3, .slice ao4 r.at'.length co5] 70, Res.rowS 5 1 encU8 (.slice ao2 r.b.buf.length co3) r.b.buf, Res.rowS 56 2 encSpan (.slice ao4 r.at'.length co5) r.at']) := by
 cases u0_1
 ·exact copyCheckUF_con hh
 ·exact copyCheckUT_con hh

noncomputable def writeS (x0 : SB) (x1 : List UInt8) : Option (Int × Unit × SB) :=
 grd (x1.length ≤ 281474976710656) (bnd (copyCheck (⟨x0.buf⟩ : SB)) (fun v4 => grd (v4.buf.length + x1.length ≤ 140737488355328) (some (((x1.length : Nat) : Int), (), (⟨(v4.buf ++ x1)⟩ : SB)))))
theorem writeS_con {σ : Store} {x0 : SB} {b0_0 : Nat} {u0_1 : Bool} {a0_2 : Option Addr} {c0_3 : Nat} {x1 : List UInt8}  {r : Int × Unit × SB} (hh : writeS x0 x1 = some r) :
  Con Tryz.prog 64 #[loc b0_0 0, .string (bs x1)] σ [Res.cells b0_0 #[badV u0_1 b0_0, .slice a0_2 x0.buf.length c0_3] 68, Res.rowS 5 1 encU8 (.slice a0_2 x0.buf.length c0_3) x0.buf] (fun v σ' H' => ∃ (uo1 : Bool), ∃ (ao2 : Option Addr), ∃ (co3 : Nat), v = .tuple #[.int .i64 r.1, .nilIface] ∧ σ = σ' ∧ H' = [Res.cells b0_0 #[badV uo1 b0_0, .slice ao2 r.2.2.buf.length co3] 68, Res.rowS 5 1 encU8 (.slice ao2 r.2.2.buf.length co3) r.2.2.buf]) := by
 dsimp only [writeS] at hh
 refine Con.mk (n := 19) Tryz.func64 z z z (fun w0 => ?_)
 have x1b := grd_c hh
 replace hh := grd_t hh
 refine TC.seq (TC.region (TL.v z (OpVal.moveI (.inr z) z) z z (TL.v z (OpVal.mv (.inr z)) z z (TL.nil (S.n (TC.seq (TC.region (TL.v z (OpVal.moveLoc (.inl z) z) z z (TL.front 1 z z ?_)))))))))
 refine TL.front 1 z z ?_
 obtain ⟨v4, u4, hh⟩ := bnd_e hh
 refine TL.op z (OpOk.call (copyCheck_con u4) z z pf96 z z z z ?_)
 rintro _ _ _ hle104 ⟨u104_1, a104_2, c104_3, rfl, rfl, rfl⟩
 refine TL.nil (S.n (TC.seq (TC.region (TL.v z (OpVal.moveLoc (.inl z) z) z z (TL.v z (OpVal.moveLoc (.inl z) z) z z (TL.v z (OpVal.nilCheckLoc z z) z z (TL.v z (OpVal.fieldLoc z fo68_1 z) z z (TL.v z (OpVal.loadLoc z ag66 z (i := 0) z z) z z (TL.v z (OpVal.moveStr (.inl z) z) z z ?_)))))))))
 refine TL.front 1 z z ?_
 have u11 := grd_c hh
 replace hh := grd_t hh
 refine TL.op z (OpOk.appendStr z Tryz.underlying66 Tryz.underlying9 sz5 by5 ze5 z z z z u11 (fun a106 c107 => ?_))
 refine TL.v z (OpVal.nilCheckLoc z z) z z (TL.v z (OpVal.fieldLoc z fo68_1 z) z z (TL.front 1 z z (TL.op z (OpOk.storeSl z sz66 z z z z z ?_))))
 refine TL.nil (S.n (TC.seq (TC.region (TL.v z (OpVal.moveStr (.inl z) z) z z (TL.v z (OpVal.lenBs z Tryz.underlying9 z) z z (TL.v z (OpVal.moveI (.inr z) z) z z (TL.v z (OpVal.mv (.inr z)) z z (TL.nil (S.n ?_)))))))))
 refine TC.ret ?_
 obtain rfl := Option.some.inj hh
 exact RetOk.mk' (rs := [.tmp 4, .tmp 5]) [Res.cells b0_0 #[badV u104_1 b0_0, .slice a106 ((v4.buf ++ x1).length) c107] 68, Res.rowS 5 1 encU8 (.slice a106 (v4.buf ++ x1).length c107) (v4.buf ++ x1)] z (.inl z) (RVs.tmp z (RVs.tmp z RVs.nil)) (List.sublist_append_left _ _) ⟨u104_1, a106, c107, z, z, z⟩

noncomputable def writeSU (x0 : Turned) (x1 : List UInt8) : Option (Int × Unit × Turned) :=
 grd (x1.length ≤ 281474976710656) (bnd (copyCheckU (⟨(⟨x0.b.buf⟩ : SB), x0.at'⟩ : Turned)) (fun v4 => grd (v4.b.buf.length + x1.length ≤ 140737488355328) (some (((x1.length : Nat) : Int), (), (⟨(⟨(v4.b.buf ++ x1)⟩ : SB), v4.at'⟩ : Turned)))))
theorem writeSU_con {σ : Store} {x0 : Turned} {b0_0 : Nat} {u0_1 : Bool} {a0_2 : Option Addr} {c0_3 : Nat} {a0_4 : Option Addr} {c0_5 : Nat} {x1 : List UInt8}  {r : Int × Unit × Turned} (hh : writeSU x0 x1 = some r) :
  Con Tryz.prog 64 #[loc b0_0 0, .string (bs x1)] σ [Res.cells b0_0 #[badV u0_1 b0_0, .slice a0_2 x0.b.buf.length c0_3, .slice a0_4 x0.at'.length c0_5] 70, Res.rowS 5 1 encU8 (.slice a0_2 x0.b.buf.length c0_3) x0.b.buf, Res.rowS 56 2 encSpan (.slice a0_4 x0.at'.length c0_5) x0.at'] (fun v σ' H' => ∃ (uo1 : Bool), ∃ (ao2 : Option Addr), ∃ (co3 : Nat), ∃ (ao4 : Option Addr), ∃ (co5 : Nat), v = .tuple #[.int .i64 r.1, .nilIface] ∧ σ = σ' ∧ H' = [Res.cells b0_0 #[badV uo1 b0_0, .slice ao2 r.2.2.b.buf.length co3, .slice ao4 r.2.2.at'.length co5] 70, Res.rowS 5 1 encU8 (.slice ao2 r.2.2.b.buf.length co3) r.2.2.b.buf, Res.rowS 56 2 encSpan (.slice ao4 r.2.2.at'.length co5) r.2.2.at']) := by
 dsimp only [writeSU] at hh
 refine Con.mk (n := 19) Tryz.func64 z z z (fun w0 => ?_)
 have x1b := grd_c hh
 replace hh := grd_t hh
 refine TC.seq (TC.region (TL.v z (OpVal.moveI (.inr z) z) z z (TL.v z (OpVal.mv (.inr z)) z z (TL.nil (S.n (TC.seq (TC.region (TL.v z (OpVal.moveLoc (.inl z) z) z z (TL.front 2 z z ?_)))))))))
 refine TL.front 2 z z (TL.front 2 z z ?_)
 obtain ⟨v4, u4, hh⟩ := bnd_e hh
 refine TL.op z (OpOk.call (copyCheckU_con u4) z z pf96 z z z z ?_)
 rintro _ _ _ hle106 ⟨u106_1, a106_2, c106_3, a106_4, c106_5, rfl, rfl, rfl⟩
 refine TL.nil (S.n (TC.seq (TC.region (TL.v z (OpVal.moveLoc (.inl z) z) z z (TL.v z (OpVal.moveLoc (.inl z) z) z z (TL.v z (OpVal.nilCheckLoc z z) z z (TL.v z (OpVal.fieldLoc z fo68_1 z) z z (TL.v z (OpVal.loadLoc z ag66 z (i := 0) z z) z z (TL.v z (OpVal.moveStr (.inl z) z) z z ?_)))))))))
 refine TL.front 1 z z ?_
 have u11 := grd_c hh
 replace hh := grd_t hh
 refine TL.op z (OpOk.appendStr z Tryz.underlying66 Tryz.underlying9 sz5 by5 ze5 z z z z u11 (fun a109 c110 => ?_))
 refine TL.v z (OpVal.nilCheckLoc z z) z z (TL.v z (OpVal.fieldLoc z fo68_1 z) z z (TL.front 1 z z (TL.op z (OpOk.storeSl z sz66 z z z z z ?_))))
 refine TL.nil (S.n (TC.seq (TC.region (TL.v z (OpVal.moveStr (.inl z) z) z z (TL.v z (OpVal.lenBs z Tryz.underlying9 z) z z (TL.v z (OpVal.moveI (.inr z) z) z z (TL.v z (OpVal.mv (.inr z)) z z (TL.nil (S.n ?_)))))))))
 refine TC.ret ?_
 obtain rfl := Option.some.inj hh
 exact RetOk.mk' (rs := [.tmp 4, .tmp 5]) [Res.cells b0_0 #[badV u106_1 b0_0, .slice a109 ((v4.b.buf ++ x1).length) c110, .slice a106_4 v4.at'.length c106_5] 70, Res.rowS 5 1 encU8 (.slice a109 (v4.b.buf ++ x1).length c110) (v4.b.buf ++ x1), Res.rowS 56 2 encSpan (.slice a106_4 v4.at'.length c106_5) v4.at'] z (.inl z) (RVs.tmp z (RVs.tmp z RVs.nil)) (List.sublist_append_left _ _) ⟨u106_1, a109, c110, a106_4, c106_5, z, z, z⟩

noncomputable def lenU (x0 : Turned) : Option (Int) :=
 some ((x0.b.buf.length : Nat) : Int)
theorem lenU_con {σ : Store} {x0 : Turned} {b0_0 : Nat} {u0_1 : Bool} {a0_2 : Option Addr} {c0_3 : Nat} {a0_4 : Option Addr} {c0_5 : Nat}  {r : Int} (hh : lenU x0 = some r) :
  Con Tryz.prog 32 #[loc b0_0 0] σ [Res.cells b0_0 #[badV u0_1 b0_0, .slice a0_2 x0.b.buf.length c0_3, .slice a0_4 x0.at'.length c0_5] 70, Res.rowS 5 1 encU8 (.slice a0_2 x0.b.buf.length c0_3) x0.b.buf, Res.rowS 56 2 encSpan (.slice a0_4 x0.at'.length c0_5) x0.at'] (fun v σ' H' => v = .int .i64 r ∧ σ = σ' ∧ H' = [Res.cells b0_0 #[badV u0_1 b0_0, .slice a0_2 x0.b.buf.length c0_3, .slice a0_4 x0.at'.length c0_5] 70, Res.rowS 5 1 encU8 (.slice a0_2 x0.b.buf.length c0_3) x0.b.buf, Res.rowS 56 2 encSpan (.slice a0_4 x0.at'.length c0_5) x0.at']) := by
 dsimp only [lenU] at hh
 refine Con.mk (n := 8) Tryz.func32 z z z (fun w0 => ?_)
 refine TC.seq (TC.region (TL.v z (OpVal.moveI (.inr z) z) z z (TL.nil (S.n (TC.seq (TC.region (TL.v z (OpVal.moveLoc (.inl z) z) z z (TL.v z (OpVal.nilCheckLoc z z) z z (TL.v z (OpVal.fieldLoc z fo68_1 z) z z ?_)))))))))
 refine TL.v z (OpVal.loadLoc z ag66 z (i := 0) z z) z z (TL.v z (OpVal.lenC z Tryz.underlying66 z) z z (TL.v z (OpVal.moveI (.inr z) z) z z (TL.nil (S.n (TC.ret ?_)))))
 obtain rfl := Option.some.inj hh
 exact RetOk.mk' (rs := [.tmp 2]) [Res.cells b0_0 #[badV u0_1 b0_0, .slice a0_2 x0.b.buf.length c0_3, .slice a0_4 x0.at'.length c0_5] 70, Res.rowS 5 1 encU8 (.slice a0_2 x0.b.buf.length c0_3) x0.b.buf, Res.rowS 56 2 encSpan (.slice a0_4 x0.at'.length c0_5) x0.at'] z (.inl z) (RVs.tmp z RVs.nil) (List.sublist_append_left _ _) ⟨z, z, z⟩

noncomputable def stringB (x0 : SB) : Option ((List UInt8)) :=
 some x0.buf
theorem stringB_con {σ : Store} {x0 : SB} {b0_0 : Nat} {u0_1 : Bool} {a0_2 : Option Addr} {c0_3 : Nat}  {r : (List UInt8)} (hh : stringB x0 = some r) :
  Con Tryz.prog 65 #[loc b0_0 0] σ [Res.cells b0_0 #[badV u0_1 b0_0, .slice a0_2 x0.buf.length c0_3] 68, Res.rowS 5 1 encU8 (.slice a0_2 x0.buf.length c0_3) x0.buf] (fun v σ' H' => v = .string (bs r) ∧ σ = σ' ∧ H' = []) := by
 dsimp only [stringB] at hh
 refine Con.mk (n := 14) Tryz.func65 z z z (fun w0 => ?_)
 refine TC.seq (TC.region (TL.v z (OpVal.moveStr (.inr z) z) z z (TL.nil (S.n (TC.seq (TC.drawR (Hr := [Res.cells b0_0 #[badV u0_1 b0_0, .slice a0_2 x0.buf.length c0_3] 68]) (fun r hr => mem_pick [0] z hr) [] (by kernel_rfl) (TA.takeP 0 z (by kernel_rfl) (by kernel_rfl) (by kernel_rfl) z (OpVal.moveLoc (.inl z) z) z z (TA.takeP 1 z (by kernel_rfl) (by kernel_rfl) (by kernel_rfl) z (OpVal.nilCheckLoc z z) z z (TA.takeP 2 z (by kernel_rfl) (by kernel_rfl) (by kernel_rfl) z (OpVal.fieldLoc z fo68_1 z) z z ?_)))))))))
 refine TA.take 3 z (by kernel_rfl) (by kernel_rfl) (by kernel_rfl) (by kernel_rfl) z (OpVal.loadLoc z ag66 z (i := 0) z z) z z (TA.takeP 5 z (by kernel_rfl) (by kernel_rfl) (by kernel_rfl) z (OpVal.moveLoc (.inl z) z) z z (TA.takeP 6 z (by kernel_rfl) (by kernel_rfl) (by kernel_rfl) z (OpVal.nilCheckLoc z z) z z (TA.takeP 7 z (by kernel_rfl) (by kernel_rfl) (by kernel_rfl) z (OpVal.fieldLoc z fo68_1 z) z z (TA.take 8 z (by kernel_rfl) (by kernel_rfl) (by kernel_rfl) (by kernel_rfl) z (OpVal.loadLoc z ag66 z (i := 0) z z) z z (TA.take 9 z (by kernel_rfl) (by kernel_rfl) (by kernel_rfl) (by kernel_rfl) z (OpVal.lenC z Tryz.underlying66 z) z z (TA.front 1 z z (TA.act 4 (by kernel_rfl) z z (OpOk.sliceDat z z Tryz.underlying156 z z z (fun sq105 sh106 => ⟨(fun w h => sees_of (Store.le.refl _) (fun r hr => (List.mem_cons_of_mem _ hr)) w h), ?_⟩)))))))))
 refine TA.act 10 (by kernel_rfl) z z (OpOk.unsStr z Tryz.underlying156 ce5 z z z sh106 z ⟨(fun w h => sees_of (Store.le.refl _) (fun r hr => hr) w h), ?_⟩)
 refine TA.takeP 11 z (by kernel_rfl) (by kernel_rfl) (by kernel_rfl) z (OpVal.moveStr (.inr z) z) z z (TA.done (by kernel_rfl) (S.n (TC.ofSub (Sub.pre 0 z) (TC.ret ?_))))
 obtain rfl := Option.some.inj hh
 exact RetOk.mk' (rs := [.tmp 2]) [] z (.inl z) (RVs.tmp z RVs.nil) (List.sublist_append_left _ _) ⟨z, z, z⟩

noncomputable def stringU (x0 : Turned) : Option ((List UInt8)) :=
 some x0.b.buf
theorem stringU_con {σ : Store} {x0 : Turned} {b0_0 : Nat} {u0_1 : Bool} {a0_2 : Option Addr} {c0_3 : Nat} {a0_4 : Option Addr} {c0_5 : Nat}  {r : (List UInt8)} (hh : stringU x0 = some r) :
  Con Tryz.prog 65 #[loc b0_0 0] σ [Res.cells b0_0 #[badV u0_1 b0_0, .slice a0_2 x0.b.buf.length c0_3, .slice a0_4 x0.at'.length c0_5] 70, Res.rowS 5 1 encU8 (.slice a0_2 x0.b.buf.length c0_3) x0.b.buf, Res.rowS 56 2 encSpan (.slice a0_4 x0.at'.length c0_5) x0.at'] (fun v σ' H' => v = .string (bs r) ∧ σ = σ' ∧ H' = [Res.cells b0_0 #[badV u0_1 b0_0, .slice a0_2 x0.b.buf.length c0_3, .slice a0_4 x0.at'.length c0_5] 70, Res.rowS 56 2 encSpan (.slice a0_4 x0.at'.length c0_5) x0.at']) := by
 dsimp only [stringU] at hh
 refine Con.mk (n := 14) Tryz.func65 z z z (fun w0 => ?_)
 refine TC.seq (TC.region (TL.v z (OpVal.moveStr (.inr z) z) z z (TL.nil (S.n (TC.seq (TC.drawR (Hr := [Res.cells b0_0 #[badV u0_1 b0_0, .slice a0_2 x0.b.buf.length c0_3, .slice a0_4 x0.at'.length c0_5] 70, Res.rowS 56 2 encSpan (.slice a0_4 x0.at'.length c0_5) x0.at']) (fun r hr => mem_pick [0, 2] z hr) [] (by kernel_rfl) (TA.takeP 0 z (by kernel_rfl) (by kernel_rfl) (by kernel_rfl) z (OpVal.moveLoc (.inl z) z) z z (TA.takeP 1 z (by kernel_rfl) (by kernel_rfl) (by kernel_rfl) z (OpVal.nilCheckLoc z z) z z (TA.takeP 2 z (by kernel_rfl) (by kernel_rfl) (by kernel_rfl) z (OpVal.fieldLoc z fo68_1 z) z z ?_)))))))))
 refine TA.take 3 z (by kernel_rfl) (by kernel_rfl) (by kernel_rfl) (by kernel_rfl) z (OpVal.loadLoc z ag66 z (i := 0) z z) z z (TA.takeP 5 z (by kernel_rfl) (by kernel_rfl) (by kernel_rfl) z (OpVal.moveLoc (.inl z) z) z z (TA.takeP 6 z (by kernel_rfl) (by kernel_rfl) (by kernel_rfl) z (OpVal.nilCheckLoc z z) z z (TA.takeP 7 z (by kernel_rfl) (by kernel_rfl) (by kernel_rfl) z (OpVal.fieldLoc z fo68_1 z) z z (TA.take 8 z (by kernel_rfl) (by kernel_rfl) (by kernel_rfl) (by kernel_rfl) z (OpVal.loadLoc z ag66 z (i := 0) z z) z z (TA.take 9 z (by kernel_rfl) (by kernel_rfl) (by kernel_rfl) (by kernel_rfl) z (OpVal.lenC z Tryz.underlying66 z) z z (TA.front 1 z z (TA.act 4 (by kernel_rfl) z z (OpOk.sliceDat z z Tryz.underlying156 z z z (fun sq106 sh107 => ⟨(fun w h => sees_of (Store.le.refl _) (fun r hr => (List.mem_cons_of_mem _ hr)) w h), ?_⟩)))))))))
 refine TA.act 10 (by kernel_rfl) z z (OpOk.unsStr z Tryz.underlying156 ce5 z z z sh107 z ⟨(fun w h => sees_of (Store.le.refl _) (fun r hr => hr) w h), ?_⟩)
 refine TA.takeP 11 z (by kernel_rfl) (by kernel_rfl) (by kernel_rfl) z (OpVal.moveStr (.inr z) z) z z (TA.done (by kernel_rfl) (S.n (TC.ret ?_)))
 obtain rfl := Option.some.inj hh
 exact RetOk.mk' (rs := [.tmp 2]) [Res.cells b0_0 #[badV u0_1 b0_0, .slice a0_2 x0.b.buf.length c0_3, .slice a0_4 x0.at'.length c0_5] 70, Res.rowS 56 2 encSpan (.slice a0_4 x0.at'.length c0_5) x0.at'] z (.inl z) (RVs.tmp z RVs.nil) (List.sublist_append_left _ _) ⟨z, z, z⟩

end Go.Proofs.YtmfclggfajopkaaGreatDoor
end

/- R6 -/
section
/- Decompiled: a piece that grows; what a rule makes of a factor. -/
set_option linter.unusedVariables false
set_option linter.unusedSimpArgs false
namespace Go.Proofs.YtmfclggfajopkaaGreatDoor
open Go Go.E
set_option maxRecDepth 100000
private theorem ag34 : Go.E.aggOf Tryz.prog 34 = some false := by kernel_rfl
private theorem ag56 : Go.E.aggOf Tryz.prog 56 = some true := by kernel_rfl
private theorem by56 : Go.E.byOf Tryz.prog 56 = some 16 := by kernel_rfl
private theorem fo64_0 : Go.E.foOf Tryz.prog 64 0 = some 0 := by kernel_rfl
private theorem fo70_0 : Go.E.foOf Tryz.prog 70 0 = some 0 := by kernel_rfl
private theorem fo70_1 : Go.E.foOf Tryz.prog 70 1 = some 2 := by kernel_rfl
private theorem pf32 : Go.E.plainF Tryz.prog 32 = true := by kernel_rfl
private theorem pf63 : Go.E.plainF Tryz.prog 63 = true := by kernel_rfl
private theorem pf64 : Go.E.plainF Tryz.prog 64 = true := by kernel_rfl
private theorem pf65 : Go.E.plainF Tryz.prog 65 = true := by kernel_rfl
private theorem pl56 : Go.E.plOf Tryz.prog 56 = some #[(0, 1), (1, 1)] := by kernel_rfl
private theorem sz34 : Go.E.szOf Tryz.prog 34 = some 1 := by kernel_rfl
private theorem sz56 : Go.E.szOf Tryz.prog 56 = some 2 := by kernel_rfl
private theorem ze56 : Go.E.zeroOf Tryz.prog 56 = some (.agg #[.int .i64 0, .int .i64 0]) := by kernel_rfl
private theorem ze68 : Go.E.zeroOf Tryz.prog 68 = some (.agg #[.pointer none, .slice none 0 0]) := by kernel_rfl

noncomputable def rewrite_turned_stay_b1 (x2 : Span) (v11 : Int × Unit × Turned) (l122 : List Span) (i125 : Int) : Option (((List Span) × Int) ⊕ (Turned)) :=
 iteO (decide (i125 < x2.to)) (grd ((l122.length + [(⟨i125, IntKind.i64.wrap (i125 + 1)⟩ : Span)].length) * 16 ≤ 140737488355328) (nxt ((l122 ++ [(⟨i125, IntKind.i64.wrap (i125 + 1)⟩ : Span)]), (IntKind.i64.wrap (i125 + 1))))) (fin (some (⟨(⟨v11.2.2.b.buf⟩ : SB), l122⟩ : Turned)))
noncomputable def rewrite_turned_stay (x0 : Turned) (x1 : List UInt8) (x2 : Span) : Option (Turned) :=
 grd (x1.length ≤ 281474976710656) (grd (0 ≤ x2.frm ∧ 0 ≤ x2.to ∧ x2.frm.toNat ≤ x2.to.toNat ∧ x2.to.toNat ≤ x1.length) (bnd (writeSU (⟨(⟨x0.b.buf⟩ : SB), x0.at'⟩ : Turned) ((x1.take x2.to.toNat).drop x2.frm.toNat)) (fun v11 => iter (fun q : (List Span) × Int => rewrite_turned_stay_b1 x2 v11 q.1 q.2) (v11.2.2.at', x2.frm))))
theorem rewrite_turned_stay_con {σ : Store} {x0 : Turned} {b0_0 : Nat} {u0_1 : Bool} {a0_2 : Option Addr} {c0_3 : Nat} {a0_4 : Option Addr} {c0_5 : Nat} {x1 : List UInt8} {x2 : Span}  {r : Turned} (hh : rewrite_turned_stay x0 x1 x2 = some r) :
  Con Tryz.prog 30 #[loc b0_0 0, .string (bs x1), .agg #[.int .i64 x2.frm, .int .i64 x2.to]] σ [Res.cells b0_0 #[badV u0_1 b0_0, .slice a0_2 x0.b.buf.length c0_3, .slice a0_4 x0.at'.length c0_5] 70, Res.rowS 5 1 encU8 (.slice a0_2 x0.b.buf.length c0_3) x0.b.buf, Res.rowS 56 2 encSpan (.slice a0_4 x0.at'.length c0_5) x0.at'] (fun v σ' H' => ∃ (uo1 : Bool), ∃ (ao2 : Option Addr), ∃ (co3 : Nat), ∃ (ao4 : Option Addr), ∃ (co5 : Nat), v = .tuple #[] ∧ σ = σ' ∧ H' = [Res.cells b0_0 #[badV uo1 b0_0, .slice ao2 r.b.buf.length co3, .slice ao4 r.at'.length co5] 70, Res.rowS 5 1 encU8 (.slice ao2 r.b.buf.length co3) r.b.buf, Res.rowS 56 2 encSpan (.slice ao4 r.at'.length co5) r.at']) := by
 dsimp only [rewrite_turned_stay] at hh
 refine Con.mk (n := 38) Tryz.func30 z z z (fun w0 => ?_)
 refine TC.weakR ?_
 have x1b := grd_c hh
 replace hh := grd_t hh
 refine TC.seq (TC.region (TL.op z (OpOk.boxA z z z z (fun b106 => ?_))))
 refine TL.nil (S.n (TC.seq ?_))
 have u10 := grd_c hh
 replace hh := grd_t hh
 obtain ⟨v11, u11, hh⟩ := bnd_e hh
 refine TC.drawR (Hr := [Res.cells b106 #[.int .i64 x2.frm, .int .i64 x2.to] 56]) (fun r hr => mem_pick [0] z hr) [] (by kernel_rfl) (TA.takeP 0 z (by kernel_rfl) (by kernel_rfl) (by kernel_rfl) z (OpVal.moveLoc (.inl z) z) z z (TA.takeP 1 z (by kernel_rfl) (by kernel_rfl) (by kernel_rfl) z (OpVal.nilCheckLoc z z) z z (TA.takeP 2 z (by kernel_rfl) (by kernel_rfl) (by kernel_rfl) z (OpVal.fieldLoc z fo70_0 z) z z (TA.takeP 3 z (by kernel_rfl) (by kernel_rfl) (by kernel_rfl) z (OpVal.moveStr (.inl z) z) z z (TA.takeP 4 z (by kernel_rfl) (by kernel_rfl) (by kernel_rfl) z (OpVal.fieldLoc z fo56_0 z) z z (TA.take 5 z (by kernel_rfl) (by kernel_rfl) (by kernel_rfl) (by kernel_rfl) z (OpVal.loadLoc z ag3 z (i := 0) z z) z z (TA.takeP 6 z (by kernel_rfl) (by kernel_rfl) (by kernel_rfl) z (OpVal.fieldLoc z fo56_1 z) z z (TA.take 7 z (by kernel_rfl) (by kernel_rfl) (by kernel_rfl) (by kernel_rfl) z (OpVal.loadLoc z ag3 z (i := 0) z z) z z (TA.take 8 rfl (by kernel_rfl) (by kernel_rfl) (by kernel_rfl) (by kernel_rfl) rfl (OpVal.sliceBs (l := x1) (i := x2.frm.toNat) (j := x2.to.toNat) rfl Tryz.underlying9 rfl (by show Value.int _ _ = _; rw [Int.toNat_of_nonneg (by omega)]) (by show Value.int _ _ = _; rw [Int.toNat_of_nonneg (by omega)]) (by omega) (by omega)) rfl rfl ?_)))))))))
 refine TA.front 3 z z (TA.front 3 z z (TA.front 3 z z (TA.act 9 (by kernel_rfl) z z (OpOk.call (writeSU_con u11) z z pf64 z z z z ?_))))
 rintro _ _ _ hle111 ⟨u111_1, a111_2, c111_3, a111_4, c111_5, rfl, rfl, rfl⟩
 refine ⟨(fun w h => sees_of (Store.le.refl _) (fun r hr => (List.mem_cons_of_mem _ (List.mem_cons_of_mem _ (List.mem_cons_of_mem _ hr)))) w h), ?_⟩
 refine TA.done (by kernel_rfl) (S.n (TC.seq (TC.region (TL.v z (OpVal.fieldLoc z fo56_0 z) z z (TL.v z (OpVal.loadLoc z ag3 z (i := 3) z z) z z (TL.v z (OpVal.moveI (.inr z) z) z z (TL.nil (S.n (TC.block ?_)))))))))
 refine TC.loopG (α := ((List Span) × Int) × ((Option Addr) × Nat)) [6, 19, 20, 21, 22, 23, 24, 25, 26, 27, 28, 29, 30, 31, 32, 33, 34, 35, 36, 37] (fun g => [(6, .int .i64 g.1.2)]) (fun g => [Res.cells b0_0 #[badV u111_1 b0_0, .slice a111_2 v11.2.2.b.buf.length c111_3, .slice g.2.1 g.1.1.length g.2.2] 70, Res.rowS 5 1 encU8 (.slice a111_2 v11.2.2.b.buf.length c111_3) v11.2.2.b.buf, Res.rowS 56 2 encSpan (.slice g.2.1 g.1.1.length g.2.2) g.1.1, Res.cells b106 #[.int .i64 x2.frm, .int .i64 x2.to] 56]) (fun g => σ) (fun g => iter (fun q : (List Span) × Int => rewrite_turned_stay_b1 x2 v11 q.1 q.2) g.1 = some r) (fun g => rounds (fun q : (List Span) × Int => rewrite_turned_stay_b1 x2 v11 q.1 q.2) g.1) ((v11.2.2.at', x2.frm), (a111_4, c111_5)) (Sub.front 3 z z (Sub.front 3 z z (Sub.front 3 z z (Sub.front 3 z z (Sub.pre 4 z))))) z (by repeat (first | exact trivial | refine ⟨z, ?_⟩)) hh (fun g1 j1 hg1 => ?_)
 obtain ⟨⟨l122, i125⟩, ⟨a123, c124⟩⟩ := g1
 have hh := hg1; clear hg1
 show TC _ _ _ (upds (mask _ j1 _) [(6, .int .i64 i125)]) _ [Res.cells b0_0 #[badV u111_1 b0_0, .slice a111_2 v11.2.2.b.buf.length c111_3, .slice a123 l122.length c124] 70, Res.rowS 5 1 encU8 (.slice a111_2 v11.2.2.b.buf.length c111_3) v11.2.2.b.buf, Res.rowS 56 2 encSpan (.slice a123 l122.length c124) l122, Res.cells b106 #[.int .i64 x2.frm, .int .i64 x2.to] 56]
 obtain ⟨z1, hh, hR1⟩ := iter_e hh
 dsimp only [rewrite_turned_stay_b1] at hh
 refine TC.isSl (i := 1) z (fun _ hb126 _ => ?_)
 refine TC.isSl (i := 2) z (fun _ hb127 _ => ?_)
 refine TC.seq (TC.seq (TC.region (TL.v z (OpVal.moveI (.inl z) z) z z (TL.v z (OpVal.fieldLoc z fo56_1 z) z z (TL.v z (OpVal.loadLoc z ag3 z (i := 3) z z) z z (TL.v z (OpVal.lss z z z) z z (TL.nil (S.n (TC.cond z (fun h128 => ?_) (fun h128 => ?_))))))))))
 ·replace hh := iteO_t h128 hh
  replace h128 := of_decide_eq_true h128
  refine TC.skip (S.n (TC.seq (TC.block (TC.region (TL.v z (OpVal.moveLoc (.inl z) z) z z (TL.v z (OpVal.moveLoc (.inl z) z) z z (TL.v z (OpVal.nilCheckLoc z z) z z (TL.v z (OpVal.fieldLoc z fo70_1 z) z z (TL.v z (OpVal.loadLoc z ag34 z (i := 0) z z) z z ?_)))))))))
  refine TL.v z (OpVal.moveI (.inl z) z) z z (TL.v z (OpVal.moveI (.inl z) z) z z (TL.v z (OpVal.addW z z z) z z (TL.v z (OpVal.buildL z pl56 ze56 z) z z (TL.op z (OpOk.lit (enc := encSpan) [(⟨i125, IntKind.i64.wrap (i125 + 1)⟩ : Span)] z Tryz.underlying34 sz56 ze56 z z z encSpan_len (by decide) (by decide) Span.zero z (by decide) z (by decide) encSpan_one (fun a129 c130 => ?_))))))
  refine TL.front 3 z z ?_
  have u29 := grd_c hh
  replace hh := grd_t hh
  refine TL.op z (OpOk.appendS z z Tryz.underlying34 sz56 by56 ze56 z z (by decide) z z z (.inr ⟨_, 0, z⟩) (by simpa using u29) (by decide) (fun a132 c133 => ?_))
  refine TL.v z (OpVal.nilCheckLoc z z) z z (TL.v z (OpVal.fieldLoc z fo70_1 z) z z (TL.front 2 z z (TL.op z (OpOk.storeSl z sz34 z z z z z ?_))))
  refine TL.nil (B.n (S.n (TC.region (TL.v z (OpVal.moveI (.inl z) z) z z (TL.v z (OpVal.addW z z z) z z (TL.v z (OpVal.moveI (.inr z) z) z z (TL.nil (S.n ?_))))))))
  obtain ⟨hh, hlt134⟩ := nxt_x hR1 hh
  refine ⟨by repeat (first | exact Agr.refl _ _ | exact Agr.mask | refine Agr.upd z ?_ | refine Agr.maskIn z ?_ | refine Agr.upds z ?_), (((l122 ++ [(⟨i125, IntKind.i64.wrap (i125 + 1)⟩ : Span)]), (IntKind.i64.wrap (i125 + 1))), (a132, c133)), hlt134, hh, by repeat (first | exact trivial | refine ⟨z, ?_⟩), Sub.front 4 z z (Sub.front 2 z z (Sub.front 4 z z (Sub.front 3 z z (Sub.pre 4 z)))), z⟩
 ·replace hh := iteO_f h128 hh
  replace h128 := of_decide_eq_false h128
  refine TC.exit (S.x (S.x ?_))
  replace hh := fin_x hR1 hh
  refine TC.exitHere ?_
  obtain rfl := Option.some.inj hh
  refine ⟨_, Sub.front 2 z z (Sub.front 2 z z (Sub.front 2 z z (Sub.pre 3 z))), ?_⟩
  exact RetOk.mk' (rs := []) [Res.cells b0_0 #[badV u111_1 b0_0, .slice a111_2 v11.2.2.b.buf.length c111_3, .slice a123 l122.length c124] 70, Res.rowS 5 1 encU8 (.slice a111_2 v11.2.2.b.buf.length c111_3) v11.2.2.b.buf, Res.rowS 56 2 encSpan (.slice a123 l122.length c124) l122] z (.inr z) RVs.nil (List.sublist_append_left _ _) ⟨u111_1, a111_2, c111_3, a123, c124, z, z, z⟩

noncomputable def rewrite_turned_put_b1 (x1 : List UInt8) (x2 : Span) (v16 : Int × Unit × Turned) (l121 : List Span) (k124 : Nat) : Option (((List Span) × Nat) ⊕ (Bool × Turned)) :=
 iteO (decide (((k124 : Nat) : Int) < ((x1.length : Nat) : Int))) (grd ((l121.length + [x2].length) * 16 ≤ 140737488355328) (nxt ((l121 ++ [x2]), (k124 + 1)))) (fin (some (true, (⟨(⟨v16.2.2.b.buf⟩ : SB), l121⟩ : Turned))))
noncomputable def rewrite_turned_put (x0 : Turned) (x1 : List UInt8) (x2 : Span) : Option (Bool × Turned) :=
 grd (x1.length ≤ 281474976710656) (bnd (lenU (⟨(⟨x0.b.buf⟩ : SB), x0.at'⟩ : Turned)) (fun v6 => iteO (decide (4096 < (IntKind.i64.wrap (v6 + ((x1.length : Nat) : Int))))) (some (false, (⟨(⟨x0.b.buf⟩ : SB), x0.at'⟩ : Turned))) (bnd (writeSU (⟨(⟨x0.b.buf⟩ : SB), x0.at'⟩ : Turned) x1) (fun v16 => iter (fun q : (List Span) × Nat => rewrite_turned_put_b1 x1 x2 v16 q.1 q.2) (v16.2.2.at', 0)))))
theorem rewrite_turned_put_con {σ : Store} {x0 : Turned} {b0_0 : Nat} {u0_1 : Bool} {a0_2 : Option Addr} {c0_3 : Nat} {a0_4 : Option Addr} {c0_5 : Nat} {x1 : List UInt8} {x2 : Span}  {r : Bool × Turned} (hh : rewrite_turned_put x0 x1 x2 = some r) :
  Con Tryz.prog 31 #[loc b0_0 0, .string (bs x1), .agg #[.int .i64 x2.frm, .int .i64 x2.to]] σ [Res.cells b0_0 #[badV u0_1 b0_0, .slice a0_2 x0.b.buf.length c0_3, .slice a0_4 x0.at'.length c0_5] 70, Res.rowS 5 1 encU8 (.slice a0_2 x0.b.buf.length c0_3) x0.b.buf, Res.rowS 56 2 encSpan (.slice a0_4 x0.at'.length c0_5) x0.at'] (fun v σ' H' => ∃ (uo1 : Bool), ∃ (ao2 : Option Addr), ∃ (co3 : Nat), ∃ (ao4 : Option Addr), ∃ (co5 : Nat), v = .bool r.1 ∧ σ = σ' ∧ H' = [Res.cells b0_0 #[badV uo1 b0_0, .slice ao2 r.2.b.buf.length co3, .slice ao4 r.2.at'.length co5] 70, Res.rowS 5 1 encU8 (.slice ao2 r.2.b.buf.length co3) r.2.b.buf, Res.rowS 56 2 encSpan (.slice ao4 r.2.at'.length co5) r.2.at']) := by
 dsimp only [rewrite_turned_put] at hh
 refine Con.mk (n := 35) Tryz.func31 z z z (fun w0 => ?_)
 have x1b := grd_c hh
 replace hh := grd_t hh
 refine TC.seq (TC.region (TL.op z (OpOk.boxA z z z z (fun b106 => ?_))))
 refine TL.v z (OpVal.moveB (.inr z) z) z z (TL.nil (S.n (TC.seq (TC.seq (TC.region (TL.v z (OpVal.moveLoc (.inl z) z) z z (TL.v z (OpVal.nilCheckLoc z z) z z (TL.v z (OpVal.fieldLoc z fo70_0 z) z z (TL.front 3 z z ?_)))))))))
 refine TL.front 3 z z (TL.front 3 z z ?_)
 obtain ⟨v6, u6, hh⟩ := bnd_e hh
 refine TL.op z (OpOk.call (lenU_con u6) z z pf32 z z z z ?_)
 rintro _ _ _ hle108 ⟨rfl, rfl, rfl⟩
 refine TL.v z (OpVal.moveStr (.inl z) z) z z (TL.v z (OpVal.lenBs z Tryz.underlying9 z) z z (TL.v z (OpVal.addW z z z) z z (TL.v z (OpVal.gtr z z z) z z (TL.nil (S.n (TC.cond z (fun h109 => ?_) (fun h109 => ?_)))))))
 ·replace hh := iteO_t h109 hh
  replace h109 := of_decide_eq_true h109
  refine TC.seq (TC.region (TL.v z (OpVal.moveB (.inr z) z) z z (TL.nil (S.n (TC.ofSub (Sub.front 2 z z (Sub.front 2 z z (Sub.front 2 z z (Sub.pre 3 z)))) (TC.ret (S.r ?_)))))))
  obtain rfl := Option.some.inj hh
  exact RetOk.mk' (rs := [.tmp 6]) [Res.cells b0_0 #[badV u0_1 b0_0, .slice a0_2 x0.b.buf.length c0_3, .slice a0_4 x0.at'.length c0_5] 70, Res.rowS 5 1 encU8 (.slice a0_2 x0.b.buf.length c0_3) x0.b.buf, Res.rowS 56 2 encSpan (.slice a0_4 x0.at'.length c0_5) x0.at'] z (.inl z) (RVs.tmp z RVs.nil) (List.sublist_append_left _ _) ⟨u0_1, a0_2, c0_3, a0_4, c0_5, z, z, z⟩
 ·replace hh := iteO_f h109 hh
  replace h109 := of_decide_eq_false h109
  refine TC.skip (S.n (TC.seq (TC.region (TL.v z (OpVal.moveLoc (.inl z) z) z z (TL.v z (OpVal.nilCheckLoc z z) z z (TL.v z (OpVal.fieldLoc z fo70_0 z) z z (TL.v z (OpVal.moveStr (.inl z) z) z z (TL.front 2 z z (TL.front 2 z z ?_)))))))))
  refine TL.front 2 z z ?_
  obtain ⟨v16, u16, hh⟩ := bnd_e hh
  refine TL.op z (OpOk.call (writeSU_con u16) z z pf64 z z z z ?_)
  rintro _ _ _ hle110 ⟨u110_1, a110_2, c110_3, a110_4, c110_5, rfl, rfl, rfl⟩
  refine TL.nil (S.n (TC.seq (TC.seq (TC.region (TL.v z (OpVal.moveStr (.inl z) z) z z (TL.v z (OpVal.lenBs z Tryz.underlying9 z) z z (TL.v z (OpVal.moveI (.inl z) z) z z (TL.nil (S.n ?_)))))))))
  refine TC.block (TC.loopG (α := ((List Span) × Nat) × ((Option Addr) × Nat)) [22, 23, 24, 25, 26, 27, 28, 29, 30, 31, 32, 33, 34] (fun g => [(22, .int .i64 ((g.1.2 : Nat) : Int))]) (fun g => [Res.cells b0_0 #[badV u110_1 b0_0, .slice a110_2 v16.2.2.b.buf.length c110_3, .slice g.2.1 g.1.1.length g.2.2] 70, Res.rowS 5 1 encU8 (.slice a110_2 v16.2.2.b.buf.length c110_3) v16.2.2.b.buf, Res.rowS 56 2 encSpan (.slice g.2.1 g.1.1.length g.2.2) g.1.1, Res.cells b106 #[.int .i64 x2.frm, .int .i64 x2.to] 56]) (fun g => σ) (fun g => iter (fun q : (List Span) × Nat => rewrite_turned_put_b1 x1 x2 v16 q.1 q.2) g.1 = some r) (fun g => rounds (fun q : (List Span) × Nat => rewrite_turned_put_b1 x1 x2 v16 q.1 q.2) g.1) ((v16.2.2.at', 0), (a110_4, c110_5)) (Sub.front 3 z z (Sub.front 3 z z (Sub.front 3 z z (Sub.front 3 z z (Sub.pre 4 z))))) z (by repeat (first | exact trivial | refine ⟨z, ?_⟩)) hh (fun g1 j1 hg1 => ?_))
  obtain ⟨⟨l121, k124⟩, ⟨a122, c123⟩⟩ := g1
  have hh := hg1; clear hg1
  show TC _ _ _ (upds (mask _ j1 _) [(22, .int .i64 ((k124 : Nat) : Int))]) _ [Res.cells b0_0 #[badV u110_1 b0_0, .slice a110_2 v16.2.2.b.buf.length c110_3, .slice a122 l121.length c123] 70, Res.rowS 5 1 encU8 (.slice a110_2 v16.2.2.b.buf.length c110_3) v16.2.2.b.buf, Res.rowS 56 2 encSpan (.slice a122 l121.length c123) l121, Res.cells b106 #[.int .i64 x2.frm, .int .i64 x2.to] 56]
  obtain ⟨z1, hh, hR1⟩ := iter_e hh
  dsimp only [rewrite_turned_put_b1] at hh
  refine TC.isSl (i := 1) z (fun _ hb125 _ => ?_)
  refine TC.isSl (i := 2) z (fun _ hb126 _ => ?_)
  refine TC.seq (TC.region (TL.v z (OpVal.lss z z z) z z (TL.nil (S.n (TC.seq (TC.cond z (fun h127 => ?_) (fun h127 => ?_)))))))
  ·replace hh := iteO_t h127 hh
   replace h127 := of_decide_eq_true h127
   refine TC.skip (S.n (TC.seq (TC.block ?_)))
   have u28 := grd_c hh
   replace hh := grd_t hh
   refine TC.draw [7, 8, 9, 10] (by kernel_rfl) (TA.takeP 0 z (by kernel_rfl) (by kernel_rfl) (by kernel_rfl) z (OpVal.moveLoc (.inl z) z) z z (TA.takeP 1 z (by kernel_rfl) (by kernel_rfl) (by kernel_rfl) z (OpVal.moveLoc (.inl z) z) z z (TA.takeP 2 z (by kernel_rfl) (by kernel_rfl) (by kernel_rfl) z (OpVal.nilCheckLoc z z) z z (TA.takeP 3 z (by kernel_rfl) (by kernel_rfl) (by kernel_rfl) z (OpVal.fieldLoc z fo70_1 z) z z (TA.take 4 z (by kernel_rfl) (by kernel_rfl) (by kernel_rfl) (by kernel_rfl) z (OpVal.loadLoc z ag34 z (i := 0) z z) z z (TA.take 5 z (by kernel_rfl) (by kernel_rfl) (by kernel_rfl) (by kernel_rfl) z (OpVal.loadAll z ag56 sz56 z (i := 3) z z) z z (TA.act 6 (by kernel_rfl) z z (OpOk.lit (enc := encSpan) [x2] z Tryz.underlying34 sz56 ze56 z z z encSpan_len (by decide) (by decide) Span.zero z (by decide) z (by decide) encSpan_one (fun a133 c134 => ⟨(fun w h => sees_of (Store.le.refl _) (fun r hr => (List.mem_cons_of_mem _ hr)) w h), ?_⟩)))))))))
   refine TA.front 3 z z (TA.last 7 (by kernel_rfl) z z z (OpOk.appendS z z Tryz.underlying34 sz56 by56 ze56 z z (by decide) z z z (.inr ⟨_, 0, z⟩) (by simpa using u28) (by decide) (fun a136 c137 => ?_)))
   refine TZ.v 8 (by kernel_rfl) z z z (OpVal.nilCheckLoc z z) z z (TZ.v 9 (by kernel_rfl) z z z (OpVal.fieldLoc z fo70_1 z) z z (TZ.front 2 z z (TZ.last 10 (by kernel_rfl) z z z (OpOk.storeSl z sz34 z z z z z ?_))))
   refine TZ.done (by kernel_rfl) (B.n (S.n (TC.region (TL.v z (OpVal.succ z z z (by omega)) z z (TL.v z (OpVal.moveI (.inl z) z) z z (TL.nil (S.n ?_)))))))
   obtain ⟨hh, hlt138⟩ := nxt_x hR1 hh
   refine ⟨by repeat (first | exact Agr.refl _ _ | exact Agr.mask | refine Agr.upd z ?_ | refine Agr.maskIn z ?_ | refine Agr.upds z ?_), (((l121 ++ [x2]), (k124 + 1)), (a136, c137)), hlt138, hh, by repeat (first | exact trivial | refine ⟨z, ?_⟩), Sub.front 4 z z (Sub.front 2 z z (Sub.front 4 z z (Sub.front 3 z z (Sub.pre 4 z)))), z⟩
  ·replace hh := iteO_f h127 hh
   replace h127 := of_decide_eq_false h127
   refine TC.exit (S.x (S.x ?_))
   replace hh := fin_x hR1 hh
   refine TC.exitHere (S.n (TC.seq (TC.region (TL.v z (OpVal.moveB (.inr z) z) z z (TL.nil (S.n (TC.ofSub (Sub.front 2 z z (Sub.front 2 z z (Sub.front 2 z z (Sub.pre 3 z)))) (TC.ret ?_))))))))
   obtain rfl := Option.some.inj hh
   exact RetOk.mk' (rs := [.tmp 6]) [Res.cells b0_0 #[badV u110_1 b0_0, .slice a110_2 v16.2.2.b.buf.length c110_3, .slice a122 l121.length c123] 70, Res.rowS 5 1 encU8 (.slice a110_2 v16.2.2.b.buf.length c110_3) v16.2.2.b.buf, Res.rowS 56 2 encSpan (.slice a122 l121.length c123) l121] z (.inl z) (RVs.tmp z RVs.nil) (List.sublist_append_left _ _) ⟨u110_1, a110_2, c110_3, a122, c123, z, z, z⟩

noncomputable def seq_Apply_b1 (x1 : List UInt8) (x0 : Seq) (l126 : List UInt8) (i129 : Int) (k130 : Nat) : Option (((List UInt8) × Int × Nat) ⊕ ((List UInt8) × Int × Bool × Int)) :=
 iteO (decide (((k130 : Nat) : Int) < ((x1.length : Nat) : Int))) (grd (0 ≤ i129 ∧ i129 < (x0.next.length : Int)) (grd ((nth x1 k130 (0 : UInt8)).toNat < (nth x0.next i129.toNat ([] : List Int)).length) (iteO (decide ((nth (nth x0.next i129.toNat ([] : List Int)) ((nth x1 k130 (0 : UInt8)).toNat) (0 : Int)) < 0)) (fin (some (([] : List UInt8), ((k130 : Nat) : Int), false, 0))) (grd (0 ≤ i129 ∧ i129 < (x0.outs.length : Int)) (grd ((nth x1 k130 (0 : UInt8)).toNat < (nth x0.outs i129.toNat ([] : List (List UInt8))).length) (bnd (writeS (⟨l126⟩ : SB) (nth (nth x0.outs i129.toNat ([] : List (List UInt8))) ((nth x1 k130 (0 : UInt8)).toNat) ([] : List UInt8))) (fun v60 => nxt (v60.2.2.buf, (nth (nth x0.next i129.toNat ([] : List Int)) ((nth x1 k130 (0 : UInt8)).toNat) (0 : Int)), (k130 + 1))))))))) (fin (grd (0 ≤ i129 ∧ i129 < (x0.fin.length : Int)) (iteO (!(nth x0.fin i129.toNat false)) (some (([] : List UInt8), ((x1.length : Nat) : Int), false, 0)) (grd (0 ≤ i129 ∧ i129 < (x0.tail.length : Int)) (bnd (writeS (⟨l126⟩ : SB) (nth x0.tail i129.toNat ([] : List UInt8))) (fun v82 => bnd (stringB (⟨v82.2.2.buf⟩ : SB)) (fun v83 => some (v83, ((x1.length : Nat) : Int), true, 0))))))))
noncomputable def seq_Apply (x0 : Seq) (x1 : List UInt8) : Option ((List UInt8) × Int × Bool × Int) :=
 grd (x1.length ≤ 281474976710656) (bnd (seq_Check x0) (fun v7 => iteO (decide (v7 ≠ 0)) (some (([] : List UInt8), 0, false, 1)) (iteO (decide (((x0.next.length : Nat) : Int) = 0)) (some (([] : List UInt8), 0, false, 0)) (bnd (writeS (⟨([] : List UInt8)⟩ : SB) x0.front) (fun v24 => iter (fun q : (List UInt8) × Int × Nat => seq_Apply_b1 x1 x0 q.1 q.2.1 q.2.2) (v24.2.2.buf, 0, 0))))))
theorem seq_Apply_con {σ : Store} {x0 : Seq} {a0_0 : Option Addr} {c0_0 : Nat} {a0_1 : Option Addr} {c0_1 : Nat} {a0_2 : Option Addr} {c0_2 : Nat} {a0_3 : Option Addr} {c0_3 : Nat} {x1 : List UInt8} (f0_0 : RZ σ (pkSl 1 Go.E.encI Go.E.encI_len) (.slice a0_0 x0.next.length c0_0) x0.next) (f0_1 : RZ σ (pkSl 1 Go.E.encS Go.E.encS_len) (.slice a0_1 x0.outs.length c0_1) x0.outs) (f0_2 : RS σ 1 encB (.slice a0_2 x0.fin.length c0_2) x0.fin) (f0_3 : RS σ 1 Go.E.encS (.slice a0_3 x0.tail.length c0_3) x0.tail) {r : (List UInt8) × Int × Bool × Int} (hh : seq_Apply x0 x1 = some r) :
  Con Tryz.prog 63 #[.agg #[.string (bs x0.front), .slice a0_0 x0.next.length c0_0, .slice a0_1 x0.outs.length c0_1, .slice a0_2 x0.fin.length c0_2, .slice a0_3 x0.tail.length c0_3], .string (bs x1)] σ [] (PureP (.tuple #[.string (bs r.1), .int .i64 r.2.1, .bool r.2.2.1, .int .i64 r.2.2.2]) σ) := by
 dsimp only [seq_Apply] at hh
 have f0_0b := f0_0.big
 have f0_1b := f0_1.big
 have f0_2b := f0_2.rv.big
 have f0_3b := f0_3.rv.big
 refine Con.mk (n := 70) Tryz.func63 z z z (fun w0 => ?_)
 have x1b := grd_c hh
 replace hh := grd_t hh
 refine TC.seq (TC.region (TL.op z (OpOk.boxA z z z z (fun b101 => ?_))))
 refine TL.v z (OpVal.moveStr (.inr z) z) z z (TL.v z (OpVal.moveI (.inr z) z) z z (TL.v z (OpVal.moveB (.inr z) z) z z (TL.v z (OpVal.moveI (.inr z) z) z z (TL.nil (S.n (TC.seq (TC.seq (TC.region (TL.v z (OpVal.loadAll z ag30 sz30 z (i := 0) z z) z z ?_)))))))))
 obtain ⟨v7, u7, hh⟩ := bnd_e hh
 refine TL.op z (OpOk.callP (seq_Check_con (x0 := x0) f0_0 f0_1 f0_2 f0_3 u7) z z pf44 z z z ?_)
 refine TL.v z (OpVal.neq z z z) z z (TL.nil (S.n (TC.cond z (fun h103 => ?_) (fun h103 => ?_))))
 ·replace hh := iteO_t h103 hh
  replace h103 := of_decide_eq_true h103
  refine TC.seq (TC.region (TL.v z (OpVal.moveStr (.inr z) z) z z (TL.v z (OpVal.moveI (.inr z) z) z z (TL.v z (OpVal.moveB (.inr z) z) z z (TL.v z (OpVal.moveI (.inr z) z) z z (TL.nil (S.n (TC.ofSub (Sub.pre 0 z) (TC.ret ?_)))))))))
  refine S.r ?_
  obtain rfl := Option.some.inj hh
  exact RetOk.mk' (rs := [.tmp 4, .tmp 5, .tmp 6, .tmp 7]) [] z (.inl z) (RVs.tmp z (RVs.tmp z (RVs.tmp z (RVs.tmp z RVs.nil)))) (List.sublist_append_left _ _) ⟨z, z, z⟩
 ·replace hh := iteO_f h103 hh
  replace h103 := of_decide_eq_false h103
  refine TC.skip (S.n (TC.seq (TC.seq (TC.region (TL.v z (OpVal.fieldLoc z fo30_1 z) z z (TL.v z (OpVal.loadLoc z ag23 z (i := 0) z z) z z (TL.v z (OpVal.lenC z Tryz.underlying23 z) z z (TL.v z (OpVal.eql z z z) z z (TL.nil ?_)))))))))
  refine S.n (TC.cond z (fun h104 => ?_) (fun h104 => ?_))
  ·replace hh := iteO_t h104 hh
   replace h104 := of_decide_eq_true h104
   refine TC.seq (TC.region (TL.v z (OpVal.moveStr (.inr z) z) z z (TL.v z (OpVal.moveI (.inr z) z) z z (TL.v z (OpVal.moveB (.inr z) z) z z (TL.v z (OpVal.moveI (.inr z) z) z z (TL.nil (S.n (TC.ofSub (Sub.pre 0 z) (TC.ret ?_)))))))))
   refine S.r ?_
   obtain rfl := Option.some.inj hh
   exact RetOk.mk' (rs := [.tmp 4, .tmp 5, .tmp 6, .tmp 7]) [] z (.inl z) (RVs.tmp z (RVs.tmp z (RVs.tmp z (RVs.tmp z RVs.nil)))) (List.sublist_append_left _ _) ⟨z, z, z⟩
  ·replace hh := iteO_f h104 hh
   replace h104 := of_decide_eq_false h104
   refine TC.skip (S.n (TC.seq (TC.region (TL.op z (OpOk.alloc z ze68 z z (fun b105 => ?_))))))
   refine TL.asH (H' := [Res.cells b105 #[badV false b105, .slice none 0 0] 68, Res.cells b101 #[.string (bs x0.front), .slice a0_0 x0.next.length c0_0, .slice a0_1 x0.outs.length c0_1, .slice a0_2 x0.fin.length c0_2, .slice a0_3 x0.tail.length c0_3] 30]) z (TL.nil (S.n (TC.seq (TC.region (TL.v z (OpVal.fieldLoc z fo30_0 z) z z (TL.v z (OpVal.loadLoc z ag9 z (i := 1) z z) z z (TL.nilS 5 1 encU8 (TL.front 1 z z ?_))))))))
   obtain ⟨v24, u24, hh⟩ := bnd_e hh
   refine TL.op z (OpOk.call (writeS_con u24) z z pf64 z z z z ?_)
   rintro _ _ _ hle108 ⟨u108_1, a108_2, c108_3, rfl, rfl, rfl⟩
   refine TL.nil (S.n (TC.seq (TC.region (TL.v z (OpVal.moveI (.inr z) z) z z (TL.nil (S.n (TC.seq (TC.seq (TC.region ?_)))))))))
   refine TL.v z (OpVal.moveStr (.inl z) z) z z (TL.v z (OpVal.lenBs z Tryz.underlying9 z) z z (TL.v z (OpVal.moveI (.inl z) z) z z (TL.nil (S.n (TC.block (TC.loopG (α := ((List UInt8) × Int × Nat) × (Bool × (Option Addr) × Nat)) [4, 5, 6, 7, 9, 10, 11, 24, 25, 26, 27, 28, 29, 30, 31, 32, 33, 34, 35, 36, 37, 38, 39, 40, 41, 42, 43, 44, 45, 46, 47, 48, 49, 50, 51, 52] (fun g => [(9, .int .i64 g.1.2.1), (24, .int .i64 ((g.1.2.2 : Nat) : Int))]) (fun g => [Res.cells b101 #[.string (bs x0.front), .slice a0_0 x0.next.length c0_0, .slice a0_1 x0.outs.length c0_1, .slice a0_2 x0.fin.length c0_2, .slice a0_3 x0.tail.length c0_3] 30, Res.cells b105 #[badV g.2.1 b105, .slice g.2.2.1 g.1.1.length g.2.2.2] 68, Res.rowS 5 1 encU8 (.slice g.2.2.1 g.1.1.length g.2.2.2) g.1.1]) (fun g => σ) (fun g => iter (fun q : (List UInt8) × Int × Nat => seq_Apply_b1 x1 x0 q.1 q.2.1 q.2.2) g.1 = some r) (fun g => rounds (fun q : (List UInt8) × Int × Nat => seq_Apply_b1 x1 x0 q.1 q.2.1 q.2.2) g.1) ((v24.2.2.buf, 0, 0), (u108_1, a108_2, c108_3)) (Sub.front 1 z z (Sub.front 1 z z (Sub.front 2 z z (Sub.pre 3 z)))) z (by repeat (first | exact trivial | refine ⟨z, ?_⟩)) hh (fun g1 j1 hg1 => ?_)))))))
   obtain ⟨⟨l126, i129, k130⟩, ⟨u124, a127, c128⟩⟩ := g1
   have hh := hg1; clear hg1
   show TC _ _ _ (upds (mask _ j1 _) [(9, .int .i64 i129), (24, .int .i64 ((k130 : Nat) : Int))]) _ [Res.cells b101 #[.string (bs x0.front), .slice a0_0 x0.next.length c0_0, .slice a0_1 x0.outs.length c0_1, .slice a0_2 x0.fin.length c0_2, .slice a0_3 x0.tail.length c0_3] 30, Res.cells b105 #[badV u124 b105, .slice a127 l126.length c128] 68, Res.rowS 5 1 encU8 (.slice a127 l126.length c128) l126]
   obtain ⟨z1, hh, hR1⟩ := iter_e hh
   dsimp only [seq_Apply_b1] at hh
   refine TC.isSl (i := 2) z (fun _ hb131 _ => ?_)
   refine TC.seq (TC.region (TL.v z (OpVal.lss z z z) z z (TL.nil (S.n (TC.seq (TC.cond z (fun h132 => ?_) (fun h132 => ?_)))))))
   ·replace hh := iteO_t h132 hh
    replace h132 := of_decide_eq_true h132
    refine TC.skip (S.n (TC.seq (TC.block (TC.seq (TC.region (TL.v z (OpVal.moveI (.inl z) z) z z (TL.v z (OpVal.moveI (.inr z) z) z z (TL.nil (S.n ?_)))))))))
    refine TC.seq ?_
    have u35 := grd_c hh
    replace hh := grd_t hh
    have u40 := grd_c hh
    replace hh := grd_t hh
    refine TC.draw [] (by kernel_rfl) (TA.takeP 0 z (by kernel_rfl) (by kernel_rfl) (by kernel_rfl) z (OpVal.fieldLoc z fo30_1 z) z z (TA.take 1 z (by kernel_rfl) (by kernel_rfl) (by kernel_rfl) (by kernel_rfl) z (OpVal.loadLoc z ag23 z (i := 0) z z) z z (TA.takeP 2 z (by kernel_rfl) (by kernel_rfl) (by kernel_rfl) z (OpVal.moveI (.inl z) z) z z (TA.take 3 z (by kernel_rfl) (by kernel_rfl) (by kernel_rfl) (by kernel_rfl) z (OpVal.index z Tryz.underlying23 sz22 z z f0_0.isSl u35.1 u35.2) z z ?_))))
    obtain ⟨p134, hk134, hg134⟩ := RZ.seg f0_0 i129.toNat (by omega)
    replace hk134 : RS _ 1 Go.E.encI (.slice p134.1 (nth x0.next i129.toNat ([] : List Int)).length p134.2) (nth x0.next i129.toNat ([] : List Int)) := hk134
    have hk134b := hk134.rv.big
    refine TA.take 4 z (by kernel_rfl) (by kernel_rfl) (by kernel_rfl) (by kernel_rfl) z (OpVal.of (OpVal.loadSeg0 z ag22 z hg134 z) (v' := .slice p134.1 ((nth x0.next i129.toNat ([] : List Int)).length) p134.2) z) z z (TA.takeP 5 z (by kernel_rfl) (by kernel_rfl) (by kernel_rfl) z (OpVal.moveStr (.inl z) z) z z (TA.takeP 6 z (by kernel_rfl) (by kernel_rfl) (by kernel_rfl) z (OpVal.moveI (.inl z) z) z z (TA.takeP 7 z (by kernel_rfl) (by kernel_rfl) (by kernel_rfl) z (OpVal.indexBs z Tryz.underlying9 z z (by omega)) z z (TA.take 8 z (by kernel_rfl) (by kernel_rfl) (by kernel_rfl) (by kernel_rfl) z (OpVal.indexN z Tryz.underlying22 sz3 z z hk134.rv.sl (by omega)) z z (TA.take 9 z (by kernel_rfl) (by kernel_rfl) (by kernel_rfl) (by kernel_rfl) z (OpVal.loadS1 (0 : Int) z ag3 z hk134 (by omega) z) z z (TA.takeP 10 z (by kernel_rfl) (by kernel_rfl) (by kernel_rfl) z (OpVal.moveI (.inr z) z) z z (TA.done (by kernel_rfl) (S.n (TC.seq ?_)))))))))
    refine TC.seq (TC.region (TL.v z (OpVal.moveI (.inl z) z) z z (TL.v z (OpVal.lss z z z) z z (TL.nil (S.n (TC.cond z (fun h135 => ?_) (fun h135 => ?_)))))))
    ·replace hh := iteO_t h135 hh
     replace h135 := of_decide_eq_true h135
     refine TC.seq (TC.region (TL.v z (OpVal.moveI (.inl z) z) z z (TL.v z (OpVal.moveStr (.inr z) z) z z (TL.v z (OpVal.moveI (.inr z) z) z z (TL.v z (OpVal.moveB (.inr z) z) z z (TL.v z (OpVal.moveI (.inr z) z) z z (TL.nil (S.n (TC.ofSub (Sub.pre 0 z) ?_)))))))))
     refine TC.ret (S.r (B.r (S.r (S.r ?_))))
     replace hh := fin_x hR1 hh
     refine B.r (S.r ?_)
     obtain rfl := Option.some.inj hh
     exact RetOk.mk' (rs := [.tmp 4, .tmp 5, .tmp 6, .tmp 7]) [] z (.inl z) (RVs.tmp z (RVs.tmp z (RVs.tmp z (RVs.tmp z RVs.nil)))) (List.sublist_append_left _ _) ⟨z, z, z⟩
    ·replace hh := iteO_f h135 hh
     replace h135 := of_decide_eq_false h135
     refine TC.skip (S.n (TC.seq ?_))
     have u53 := grd_c hh
     replace hh := grd_t hh
     have u58 := grd_c hh
     replace hh := grd_t hh
     obtain ⟨v60, u60, hh⟩ := bnd_e hh
     refine TC.drawR (Hr := [Res.cells b101 #[.string (bs x0.front), .slice a0_0 x0.next.length c0_0, .slice a0_1 x0.outs.length c0_1, .slice a0_2 x0.fin.length c0_2, .slice a0_3 x0.tail.length c0_3] 30]) (fun r hr => mem_pick [0] z hr) [] (by kernel_rfl) (TA.takeP 0 z (by kernel_rfl) (by kernel_rfl) (by kernel_rfl) z (OpVal.fieldLoc z fo30_2 z) z z (TA.take 1 z (by kernel_rfl) (by kernel_rfl) (by kernel_rfl) (by kernel_rfl) z (OpVal.loadLoc z ag27 z (i := 0) z z) z z (TA.takeP 2 z (by kernel_rfl) (by kernel_rfl) (by kernel_rfl) z (OpVal.moveI (.inl z) z) z z (TA.take 3 z (by kernel_rfl) (by kernel_rfl) (by kernel_rfl) (by kernel_rfl) z (OpVal.index z Tryz.underlying27 sz28 z z f0_1.isSl u53.1 u53.2) z z ?_))))
     obtain ⟨p139, hk139, hg139⟩ := RZ.seg f0_1 i129.toNat (by omega)
     replace hk139 : RS _ 1 Go.E.encS (.slice p139.1 (nth x0.outs i129.toNat ([] : List (List UInt8))).length p139.2) (nth x0.outs i129.toNat ([] : List (List UInt8))) := hk139
     have hk139b := hk139.rv.big
     refine TA.take 4 z (by kernel_rfl) (by kernel_rfl) (by kernel_rfl) (by kernel_rfl) z (OpVal.of (OpVal.loadSeg0 z ag28 z hg139 z) (v' := .slice p139.1 ((nth x0.outs i129.toNat ([] : List (List UInt8))).length) p139.2) z) z z (TA.takeP 5 z (by kernel_rfl) (by kernel_rfl) (by kernel_rfl) z (OpVal.moveStr (.inl z) z) z z (TA.takeP 6 z (by kernel_rfl) (by kernel_rfl) (by kernel_rfl) z (OpVal.moveI (.inl z) z) z z (TA.takeP 7 z (by kernel_rfl) (by kernel_rfl) (by kernel_rfl) z (OpVal.indexBs z Tryz.underlying9 z z (by omega)) z z (TA.take 8 z (by kernel_rfl) (by kernel_rfl) (by kernel_rfl) (by kernel_rfl) z (OpVal.indexN z Tryz.underlying28 sz9 z z hk139.rv.sl (by omega)) z z (TA.take 9 z (by kernel_rfl) (by kernel_rfl) (by kernel_rfl) (by kernel_rfl) z (OpVal.loadS1 ([] : List UInt8) z ag9 z hk139 (by omega) z) z z (TA.front 2 z z (TA.front 2 z z (TA.act 10 (by kernel_rfl) z z (OpOk.call (writeS_con u60) z z pf64 z z z z ?_)))))))))
     rintro _ _ _ hle140 ⟨u140_1, a140_2, c140_3, rfl, rfl, rfl⟩
     refine ⟨(fun w h => sees_of (Store.le.refl _) (fun r hr => (List.mem_cons_of_mem _ (List.mem_cons_of_mem _ hr))) w h), ?_⟩
     refine TA.done (by kernel_rfl) (S.n (TC.region (TL.v z (OpVal.moveI (.inl z) z) z z (TL.v z (OpVal.moveI (.inr z) z) z z (TL.nil (B.n (S.n (TC.region (TL.v z (OpVal.succ z z z (by omega)) z z ?_)))))))))
     refine TL.v z (OpVal.moveI (.inl z) z) z z (TL.nil (S.n ?_))
     obtain ⟨hh, hlt142⟩ := nxt_x hR1 hh
     refine ⟨by repeat (first | exact Agr.refl _ _ | exact Agr.mask | refine Agr.upd z ?_ | refine Agr.maskIn z ?_ | refine Agr.upds z ?_), ((v60.2.2.buf, (nth (nth x0.next i129.toNat ([] : List Int)) ((nth x1 k130 (0 : UInt8)).toNat) (0 : Int)), (k130 + 1)), (u140_1, a140_2, c140_3)), hlt142, hh, by repeat (first | exact trivial | refine ⟨z, ?_⟩), Sub.front 1 z z (Sub.front 1 z z (Sub.front 2 z z (Sub.pre 3 z))), z⟩
   ·replace hh := iteO_f h132 hh
    replace h132 := of_decide_eq_false h132
    refine TC.exit (S.x (S.x ?_))
    replace hh := fin_x hR1 hh
    refine TC.exitHere (S.n (TC.seq (TC.seq (TC.region (TL.v z (OpVal.fieldLoc z fo30_3 z) z z (TL.v z (OpVal.loadLoc z ag24 z (i := 0) z z) z z (TL.v z (OpVal.moveI (.inl z) z) z z ?_)))))))
    have u68 := grd_c hh
    replace hh := grd_t hh
    refine TL.v z (OpVal.index z Tryz.underlying24 sz4 z z f0_2.rv.sl u68.1 u68.2) z z (TL.v z (OpVal.loadS1 false z ag4 z f0_2 (by omega) z) z z (TL.v z (OpVal.not z z) z z (TL.nil (S.n (TC.cond z (fun h143 => ?_) (fun h143 => ?_))))))
    ·replace hh := iteO_t h143 hh
     refine TC.seq (TC.region (TL.v z (OpVal.moveStr (.inl z) z) z z (TL.v z (OpVal.lenBs z Tryz.underlying9 z) z z (TL.v z (OpVal.moveStr (.inr z) z) z z (TL.v z (OpVal.moveI (.inr z) z) z z (TL.v z (OpVal.moveB (.inr z) z) z z (TL.v z (OpVal.moveI (.inr z) z) z z (TL.nil (S.n ?_)))))))))
     refine TC.ofSub (Sub.pre 0 z) (TC.ret (S.r ?_))
     obtain rfl := Option.some.inj hh
     exact RetOk.mk' (rs := [.tmp 4, .tmp 5, .tmp 6, .tmp 7]) [] z (.inl z) (RVs.tmp z (RVs.tmp z (RVs.tmp z (RVs.tmp z RVs.nil)))) (List.sublist_append_left _ _) ⟨z, z, z⟩
    ·replace hh := iteO_f h143 hh
     refine TC.skip (S.n (TC.seq (TC.region (TL.v z (OpVal.fieldLoc z fo30_4 z) z z (TL.v z (OpVal.loadLoc z ag28 z (i := 0) z z) z z (TL.v z (OpVal.moveI (.inl z) z) z z ?_))))))
     have u80 := grd_c hh
     replace hh := grd_t hh
     refine TL.v z (OpVal.index z Tryz.underlying28 sz9 z z f0_3.rv.sl u80.1 u80.2) z z (TL.v z (OpVal.loadS1 ([] : List UInt8) z ag9 z f0_3 (by omega) z) z z (TL.front 2 z z (TL.front 2 z z ?_)))
     obtain ⟨v82, u82, hh⟩ := bnd_e hh
     refine TL.op z (OpOk.call (writeS_con u82) z z pf64 z z z z ?_)
     rintro _ _ _ hle144 ⟨u144_1, a144_2, c144_3, rfl, rfl, rfl⟩
     refine TL.nil (S.n (TC.seq (TC.region (TL.front 1 z z (TL.front 1 z z ?_)))))
     obtain ⟨v83, u83, hh⟩ := bnd_e hh
     refine TL.op z (OpOk.call (stringB_con u83) z z pf65 z z z z ?_)
     rintro _ _ _ hle146 ⟨rfl, rfl, rfl⟩
     refine TL.v z (OpVal.moveStr (.inl z) z) z z (TL.v z (OpVal.lenBs z Tryz.underlying9 z) z z (TL.v z (OpVal.moveStr (.inr z) z) z z (TL.v z (OpVal.moveI (.inr z) z) z z (TL.v z (OpVal.moveB (.inr z) z) z z (TL.v z (OpVal.moveI (.inr z) z) z z (TL.nil (S.n (TC.ofSub (Sub.pre 0 z) (TC.ret ?_)))))))))
     obtain rfl := Option.some.inj hh
     exact RetOk.mk' (rs := [.tmp 4, .tmp 5, .tmp 6, .tmp 7]) [] z (.inl z) (RVs.tmp z (RVs.tmp z (RVs.tmp z (RVs.tmp z RVs.nil)))) (List.sublist_append_left _ _) ⟨z, z, z⟩

noncomputable def rewrite_how_out (x0 : How) (x1 : List UInt8) : Option ((List UInt8) × Bool) :=
 grd (x1.length ≤ 281474976710656) (some (x0.r.out, true))
theorem rewrite_how_out_con {σ : Store} {x0 : How} {a0_0 : Option Addr} {c0_0 : Nat} {a0_1 : Option Addr} {c0_1 : Nat} {a0_2 : Option Addr} {c0_2 : Nat} {a0_3 : Option Addr} {c0_3 : Nat} {a0_4 : Option Addr} {c0_4 : Nat} {a0_5 : Option Addr} {c0_5 : Nat} {a0_6 : Option Addr} {c0_6 : Nat} {a0_7 : Option Addr} {c0_7 : Nat} {a0_8 : Option Addr} {c0_8 : Nat} {a0_9 : Option Addr} {c0_9 : Nat} {a0_10 : Option Addr} {c0_10 : Nat} {a0_11 : Option Addr} {c0_11 : Nat} {a0_12 : Option Addr} {c0_12 : Nat} {x1 : List UInt8} (f0_0 : RS σ 1 Go.E.encI (.slice a0_0 x0.r.of.cls.length c0_0) x0.r.of.cls) (f0_1 : RZ σ (pkSl 1 Go.E.encI Go.E.encI_len) (.slice a0_1 x0.r.of.next.length c0_1) x0.r.of.next) (f0_2 : RS σ 1 encB (.slice a0_2 x0.r.of.fin.length c0_2) x0.r.of.fin) (f0_3 : RS σ 1 Go.E.encI (.slice a0_3 x0.r.left.cls.length c0_3) x0.r.left.cls) (f0_4 : RZ σ (pkSl 1 Go.E.encI Go.E.encI_len) (.slice a0_4 x0.r.left.next.length c0_4) x0.r.left.next) (f0_5 : RS σ 1 encB (.slice a0_5 x0.r.left.fin.length c0_5) x0.r.left.fin) (f0_6 : RS σ 1 Go.E.encI (.slice a0_6 x0.r.right.cls.length c0_6) x0.r.right.cls) (f0_7 : RZ σ (pkSl 1 Go.E.encI Go.E.encI_len) (.slice a0_7 x0.r.right.next.length c0_7) x0.r.right.next) (f0_8 : RS σ 1 encB (.slice a0_8 x0.r.right.fin.length c0_8) x0.r.right.fin) (f0_9 : RZ σ (pkSl 1 Go.E.encI Go.E.encI_len) (.slice a0_9 x0.r.by'.next.length c0_9) x0.r.by'.next) (f0_10 : RZ σ (pkSl 1 Go.E.encS Go.E.encS_len) (.slice a0_10 x0.r.by'.outs.length c0_10) x0.r.by'.outs) (f0_11 : RS σ 1 encB (.slice a0_11 x0.r.by'.fin.length c0_11) x0.r.by'.fin) (f0_12 : RS σ 1 Go.E.encS (.slice a0_12 x0.r.by'.tail.length c0_12) x0.r.by'.tail) {r : (List UInt8) × Bool} (hh : rewrite_how_out x0 x1 = some r) :
  Con Tryz.prog 28 #[.agg #[.slice a0_0 x0.r.of.cls.length c0_0, .slice a0_1 x0.r.of.next.length c0_1, .slice a0_2 x0.r.of.fin.length c0_2, .slice a0_3 x0.r.left.cls.length c0_3, .slice a0_4 x0.r.left.next.length c0_4, .slice a0_5 x0.r.left.fin.length c0_5, .slice a0_6 x0.r.right.cls.length c0_6, .slice a0_7 x0.r.right.next.length c0_7, .slice a0_8 x0.r.right.fin.length c0_8, .string (bs x0.r.out), .bool x0.r.mapped, .string (bs x0.r.by'.front), .slice a0_9 x0.r.by'.next.length c0_9, .slice a0_10 x0.r.by'.outs.length c0_10, .slice a0_11 x0.r.by'.fin.length c0_11, .slice a0_12 x0.r.by'.tail.length c0_12], .string (bs x1)] σ [] (PureP (.tuple #[.string (bs r.1), .bool r.2]) σ) := by
 dsimp only [rewrite_how_out] at hh
 have f0_0b := f0_0.rv.big
 have f0_1b := f0_1.big
 have f0_2b := f0_2.rv.big
 have f0_3b := f0_3.rv.big
 have f0_4b := f0_4.big
 have f0_5b := f0_5.rv.big
 have f0_6b := f0_6.rv.big
 have f0_7b := f0_7.big
 have f0_8b := f0_8.rv.big
 have f0_9b := f0_9.big
 have f0_10b := f0_10.big
 have f0_11b := f0_11.rv.big
 have f0_12b := f0_12.rv.big
 refine Con.mk (n := 9) Tryz.func28 z z z (fun w0 => ?_)
 have x1b := grd_c hh
 replace hh := grd_t hh
 refine TC.seq (TC.region (TL.op z (OpOk.boxA z z z z (fun b101 => ?_))))
 refine TL.v z (OpVal.moveStr (.inr z) z) z z (TL.v z (OpVal.moveB (.inr z) z) z z (TL.nil (S.n (TC.seq (TC.region (TL.v z (OpVal.fieldLoc z fo64_0 z) z z (TL.v z (OpVal.fieldLoc z fo32_3 z) z z (TL.v z (OpVal.loadLoc z ag9 z (i := 0) z z) z z (TL.v z (OpVal.moveStr (.inr z) z) z z ?_)))))))))
 refine TL.v z (OpVal.moveB (.inr z) z) z z (TL.nil (S.n (TC.ofSub (Sub.pre 0 z) (TC.ret ?_))))
 obtain rfl := Option.some.inj hh
 exact RetOk.mk' (rs := [.tmp 4, .tmp 5]) [] z (.inl z) (RVs.tmp z (RVs.tmp z RVs.nil)) (List.sublist_append_left _ _) ⟨z, z, z⟩

noncomputable def rewrite_how_by (x0 : How) (x1 : List UInt8) : Option ((List UInt8) × Bool) :=
 grd (x1.length ≤ 281474976710656) (bnd (seq_Apply x0.r.by' x1) (fun v8 => iteO v8.2.2.1 (some (v8.1, decide (v8.2.2.2 = 0))) (some (v8.1, false))))
theorem rewrite_how_by_con {σ : Store} {x0 : How} {a0_0 : Option Addr} {c0_0 : Nat} {a0_1 : Option Addr} {c0_1 : Nat} {a0_2 : Option Addr} {c0_2 : Nat} {a0_3 : Option Addr} {c0_3 : Nat} {a0_4 : Option Addr} {c0_4 : Nat} {a0_5 : Option Addr} {c0_5 : Nat} {a0_6 : Option Addr} {c0_6 : Nat} {a0_7 : Option Addr} {c0_7 : Nat} {a0_8 : Option Addr} {c0_8 : Nat} {a0_9 : Option Addr} {c0_9 : Nat} {a0_10 : Option Addr} {c0_10 : Nat} {a0_11 : Option Addr} {c0_11 : Nat} {a0_12 : Option Addr} {c0_12 : Nat} {x1 : List UInt8} (f0_0 : RS σ 1 Go.E.encI (.slice a0_0 x0.r.of.cls.length c0_0) x0.r.of.cls) (f0_1 : RZ σ (pkSl 1 Go.E.encI Go.E.encI_len) (.slice a0_1 x0.r.of.next.length c0_1) x0.r.of.next) (f0_2 : RS σ 1 encB (.slice a0_2 x0.r.of.fin.length c0_2) x0.r.of.fin) (f0_3 : RS σ 1 Go.E.encI (.slice a0_3 x0.r.left.cls.length c0_3) x0.r.left.cls) (f0_4 : RZ σ (pkSl 1 Go.E.encI Go.E.encI_len) (.slice a0_4 x0.r.left.next.length c0_4) x0.r.left.next) (f0_5 : RS σ 1 encB (.slice a0_5 x0.r.left.fin.length c0_5) x0.r.left.fin) (f0_6 : RS σ 1 Go.E.encI (.slice a0_6 x0.r.right.cls.length c0_6) x0.r.right.cls) (f0_7 : RZ σ (pkSl 1 Go.E.encI Go.E.encI_len) (.slice a0_7 x0.r.right.next.length c0_7) x0.r.right.next) (f0_8 : RS σ 1 encB (.slice a0_8 x0.r.right.fin.length c0_8) x0.r.right.fin) (f0_9 : RZ σ (pkSl 1 Go.E.encI Go.E.encI_len) (.slice a0_9 x0.r.by'.next.length c0_9) x0.r.by'.next) (f0_10 : RZ σ (pkSl 1 Go.E.encS Go.E.encS_len) (.slice a0_10 x0.r.by'.outs.length c0_10) x0.r.by'.outs) (f0_11 : RS σ 1 encB (.slice a0_11 x0.r.by'.fin.length c0_11) x0.r.by'.fin) (f0_12 : RS σ 1 Go.E.encS (.slice a0_12 x0.r.by'.tail.length c0_12) x0.r.by'.tail) {r : (List UInt8) × Bool} (hh : rewrite_how_by x0 x1 = some r) :
  Con Tryz.prog 29 #[.agg #[.slice a0_0 x0.r.of.cls.length c0_0, .slice a0_1 x0.r.of.next.length c0_1, .slice a0_2 x0.r.of.fin.length c0_2, .slice a0_3 x0.r.left.cls.length c0_3, .slice a0_4 x0.r.left.next.length c0_4, .slice a0_5 x0.r.left.fin.length c0_5, .slice a0_6 x0.r.right.cls.length c0_6, .slice a0_7 x0.r.right.next.length c0_7, .slice a0_8 x0.r.right.fin.length c0_8, .string (bs x0.r.out), .bool x0.r.mapped, .string (bs x0.r.by'.front), .slice a0_9 x0.r.by'.next.length c0_9, .slice a0_10 x0.r.by'.outs.length c0_10, .slice a0_11 x0.r.by'.fin.length c0_11, .slice a0_12 x0.r.by'.tail.length c0_12], .string (bs x1)] σ [] (PureP (.tuple #[.string (bs r.1), .bool r.2]) σ) := by
 dsimp only [rewrite_how_by] at hh
 have f0_0b := f0_0.rv.big
 have f0_1b := f0_1.big
 have f0_2b := f0_2.rv.big
 have f0_3b := f0_3.rv.big
 have f0_4b := f0_4.big
 have f0_5b := f0_5.rv.big
 have f0_6b := f0_6.rv.big
 have f0_7b := f0_7.big
 have f0_8b := f0_8.rv.big
 have f0_9b := f0_9.big
 have f0_10b := f0_10.big
 have f0_11b := f0_11.rv.big
 have f0_12b := f0_12.rv.big
 refine Con.mk (n := 26) Tryz.func29 z z z (fun w0 => ?_)
 have x1b := grd_c hh
 replace hh := grd_t hh
 refine TC.seq (TC.region (TL.op z (OpOk.boxA z z z z (fun b101 => ?_))))
 refine TL.v z (OpVal.moveStr (.inr z) z) z z (TL.v z (OpVal.moveB (.inr z) z) z z (TL.nil (S.n (TC.seq (TC.region (TL.v z (OpVal.fieldLoc z fo64_0 z) z z (TL.v z (OpVal.fieldLoc z fo32_5 z) z z (TL.v z (OpVal.loadLocA z ag30 sz30 z (i := 0) z z z) z z (TL.v z (OpVal.moveStr (.inl z) z) z z ?_)))))))))
 obtain ⟨v8, u8, hh⟩ := bnd_e hh
 refine TL.op z (OpOk.callP (seq_Apply_con (x0 := x0.r.by') f0_9 f0_10 f0_11 f0_12 u8) z z pf63 z z z ?_)
 refine TL.v z (OpVal.moveT (.inl z) z) z z (TL.v z (OpVal.extract z z z) z z (TL.v z (OpVal.extract z z z) z z (TL.v z (OpVal.extract z z z) z z (TL.v z (OpVal.extract z z z) z z (TL.v z (OpVal.moveStr (.inr z) z) z z (TL.v z (OpVal.moveI (.inr z) z) z z (TL.v z (OpVal.moveB (.inr z) z) z z (TL.v z (OpVal.moveI (.inr z) z) z z (TL.nil ?_)))))))))
 refine S.n (TC.seq (TC.region (TL.v z (OpVal.moveStr (.inl z) z) z z (TL.v z (OpVal.moveB (.inl z) z) z z (TL.v z (OpVal.moveB (.inl z) z) z z (TL.split 22 z (fun h103 => ?_) (fun h103 => ?_)))))))
 ·replace hh := iteO_t h103 hh
  refine TL.gv z z z z z (OpVal.moveI (.inl z) z) z z (TL.gv z z z z z (OpVal.eql z z z) z z (TL.v z (OpVal.pickTB z z z) z z (TL.v z (OpVal.moveStr (.inr z) z) z z (TL.v z (OpVal.moveB (.inr z) z) z z (TL.nil (S.n (TC.ofSub (Sub.pre 0 z) (TC.ret ?_))))))))
  obtain rfl := Option.some.inj hh
  exact RetOk.mk' (rs := [.tmp 4, .tmp 5]) [] z (.inl z) (RVs.tmp z (RVs.tmp z RVs.nil)) (List.sublist_append_left _ _) ⟨z, z, z⟩
 ·replace hh := iteO_f h103 hh
  refine TL.goff z z z z z z z z (TL.goff z z z z z z z z (TL.v z (OpVal.pickFB z z z) z z (TL.v z (OpVal.moveStr (.inr z) z) z z (TL.v z (OpVal.moveB (.inr z) z) z z (TL.nil (S.n (TC.ofSub (Sub.pre 0 z) (TC.ret ?_))))))))
  obtain rfl := Option.some.inj hh
  exact RetOk.mk' (rs := [.tmp 4, .tmp 5]) [] z (.inl z) (RVs.tmp z (RVs.tmp z RVs.nil)) (List.sublist_append_left _ _) ⟨z, z, z⟩

end Go.Proofs.YtmfclggfajopkaaGreatDoor
end

/- R7 -/
section
/- Decompiled: a rule turns a text. -/
set_option linter.unusedVariables false
set_option linter.unusedSimpArgs false
namespace Go.Proofs.YtmfclggfajopkaaGreatDoor
open Go Go.E
set_option maxRecDepth 100000
private theorem ag32 : Go.E.aggOf Tryz.prog 32 = some true := by kernel_rfl
private theorem ag36 : Go.E.aggOf Tryz.prog 36 = some true := by kernel_rfl
private theorem pf13 : Go.E.plainF Tryz.prog 13 = true := by kernel_rfl
private theorem pf27 : Go.E.plainF Tryz.prog 27 = true := by kernel_rfl
private theorem pf28 : Go.E.plainF Tryz.prog 28 = true := by kernel_rfl
private theorem pf29 : Go.E.plainF Tryz.prog 29 = true := by kernel_rfl
private theorem pf30 : Go.E.plainF Tryz.prog 30 = true := by kernel_rfl
private theorem pf31 : Go.E.plainF Tryz.prog 31 = true := by kernel_rfl
private theorem pf33 : Go.E.plainF Tryz.prog 33 = true := by kernel_rfl
private theorem pl36 : Go.E.plOf Tryz.prog 36 = some #[(0, 1), (1, 1)] := by kernel_rfl
private theorem pl64 : Go.E.plOf Tryz.prog 64 = some #[(0, 16)] := by kernel_rfl
private theorem sz32 : Go.E.szOf Tryz.prog 32 = some 16 := by kernel_rfl
private theorem sz36 : Go.E.szOf Tryz.prog 36 = some 2 := by kernel_rfl
private theorem ze36 : Go.E.zeroOf Tryz.prog 36 = some (.agg #[.string ByteArray.empty, .slice none 0 0]) := by kernel_rfl
private theorem ze64 : Go.E.zeroOf Tryz.prog 64 = some (.agg #[.slice none 0 0, .slice none 0 0, .slice none 0 0, .slice none 0 0, .slice none 0 0, .slice none 0 0, .slice none 0 0, .slice none 0 0, .slice none 0 0, .string ByteArray.empty, .bool false, .string ByteArray.empty, .slice none 0 0, .slice none 0 0, .slice none 0 0, .slice none 0 0]) := by kernel_rfl
private theorem ze70 : Go.E.zeroOf Tryz.prog 70 = some (.agg #[.pointer none, .slice none 0 0, .slice none 0 0]) := by kernel_rfl

noncomputable def rewrite_turned_piece (x0 : Turned) : Option (Piece) :=
 bnd (stringU (⟨(⟨x0.b.buf⟩ : SB), x0.at'⟩ : Turned)) (fun v5 => some (⟨v5, x0.at'⟩ : Piece))
theorem rewrite_turned_piece_con {σ : Store} {x0 : Turned} {b0_0 : Nat} {u0_1 : Bool} {a0_2 : Option Addr} {c0_3 : Nat} {a0_4 : Option Addr} {c0_5 : Nat}  {r : Piece} (hh : rewrite_turned_piece x0 = some r) :
  Con Tryz.prog 33 #[loc b0_0 0] σ [Res.cells b0_0 #[badV u0_1 b0_0, .slice a0_2 x0.b.buf.length c0_3, .slice a0_4 x0.at'.length c0_5] 70, Res.rowS 5 1 encU8 (.slice a0_2 x0.b.buf.length c0_3) x0.b.buf, Res.rowS 56 2 encSpan (.slice a0_4 x0.at'.length c0_5) x0.at'] (fun v σ' H' => ∃ (a1 : Option Addr), ∃ (c1 : Nat), v = .agg #[.string (bs r.text), .slice a1 r.at'.length c1] ∧ RS σ' 2 encSpan (.slice a1 r.at'.length c1) r.at' ∧ H' = []) := by
 dsimp only [rewrite_turned_piece] at hh
 refine Con.mk (n := 12) Tryz.func33 z z z (fun w0 => ?_)
 refine TC.seq (TC.region (TL.op z (OpOk.alloc z ze36 z z (fun b104 => ?_))))
 refine TL.nil (S.n (TC.seq ?_))
 obtain ⟨v5, u5, hh⟩ := bnd_e hh
 refine TC.drawR (Hr := [Res.cells b0_0 #[badV u0_1 b0_0, .slice a0_2 x0.b.buf.length c0_3, .slice a0_4 x0.at'.length c0_5] 70, Res.rowS 56 2 encSpan (.slice a0_4 x0.at'.length c0_5) x0.at']) (fun r hr => mem_pick [1, 3] z hr) [] (by kernel_rfl) (TA.takeP 0 z (by kernel_rfl) (by kernel_rfl) (by kernel_rfl) z (OpVal.moveLoc (.inl z) z) z z (TA.takeP 1 z (by kernel_rfl) (by kernel_rfl) (by kernel_rfl) z (OpVal.nilCheckLoc z z) z z (TA.takeP 2 z (by kernel_rfl) (by kernel_rfl) (by kernel_rfl) z (OpVal.fieldLoc z fo70_0 z) z z (TA.takeP 4 z (by kernel_rfl) (by kernel_rfl) (by kernel_rfl) z (OpVal.moveLoc (.inl z) z) z z (TA.takeP 5 z (by kernel_rfl) (by kernel_rfl) (by kernel_rfl) z (OpVal.nilCheckLoc z z) z z (TA.takeP 6 z (by kernel_rfl) (by kernel_rfl) (by kernel_rfl) z (OpVal.fieldLoc z fo70_1 z) z z (TA.take 7 z (by kernel_rfl) (by kernel_rfl) (by kernel_rfl) (by kernel_rfl) z (OpVal.loadLoc z ag34 z (i := 0) z z) z z (TA.front 3 z z (TA.front 3 z z ?_)))))))))
 refine TA.front 3 z z (TA.act 3 (by kernel_rfl) z z (OpOk.call (stringU_con u5) z z pf65 z z z z ?_))
 rintro _ _ _ hle107 ⟨rfl, rfl, rfl⟩
 refine ⟨(fun w h => sees_of (Store.le.refl _) (fun r hr => mem_pick [0, 1] z hr) w h), ?_⟩
 refine TA.takeP 8 z (by kernel_rfl) (by kernel_rfl) (by kernel_rfl) z (OpVal.buildL z pl36 ze36 z) z z (TA.front 2 z z (TA.act 9 (by kernel_rfl) z z (OpOk.storeAll z sz36 z z z z z z ⟨(fun w h => sees_of (Store.le.refl _) (fun r hr => (List.mem_cons_of_mem _ hr)) w h), ?_⟩)))
 refine TA.done (by kernel_rfl) (S.n (TC.front 2 z z (TC.sealS encSpan_len (fun τ110 hle109 hr108 => ?_))))
 have hr108b := hr108.rv.big
 refine TC.ofSub (Sub.pre 1 z) (TC.ret ?_)
 obtain rfl := Option.some.inj hh
 exact RetOk.mk' (rs := [.cell 2 36]) [] z (.inl z) (RVs.agg ag36 sz36 z (i := 0) z z RVs.nil) (List.sublist_append_left _ _) ⟨a0_4, c0_5, z, hr108, z⟩

noncomputable def rewrite_Plain (x0 : List UInt8) : Option (Piece × Int) :=
 grd (x0.length ≤ 281474976710656) (iteO (decide (4096 < ((x0.length : Nat) : Int))) (some ((⟨([] : List UInt8), ([] : List Span)⟩ : Piece), 2)) (bnd (rewrite_turned_stay (⟨(⟨([] : List UInt8)⟩ : SB), ([] : List Span)⟩ : Turned) x0 (⟨0, ((x0.length : Nat) : Int)⟩ : Span)) (fun v14 => bnd (rewrite_turned_piece (⟨(⟨v14.b.buf⟩ : SB), v14.at'⟩ : Turned)) (fun v15 => some (v15, 0)))))
def rewrite_Plain_P (σ : Store) (r : Piece × Int) : Value → Store → List Res → Prop := fun v σ' H' =>
 ∃ (a1 : Option Addr), ∃ (c1 : Nat),  v = .tuple #[.agg #[.string (bs r.1.text), .slice a1 r.1.at'.length c1], .int .i64 r.2] ∧ RS σ' 2 encSpan (.slice a1 r.1.at'.length c1) r.1.at' ∧ H' = []
theorem rewrite_Plain_con {σ : Store} {x0 : List UInt8}  {r : Piece × Int} (hh : rewrite_Plain x0 = some r) :
  Con Tryz.prog 10 #[.string (bs x0)] σ [] (rewrite_Plain_P σ r) := by
 dsimp only [rewrite_Plain] at hh
 refine Con.mk (n := 15) Tryz.func10 z z z (fun w0 => ?_)
 have x0b := grd_c hh
 replace hh := grd_t hh
 refine TC.seq (TC.region (TL.op z (OpOk.alloc z ze36 z z (fun b101 => ?_))))
 refine TL.v z (OpVal.moveI (.inr z) z) z z (TL.nil (S.n (TC.seq (TC.seq (TC.region (TL.v z (OpVal.moveStr (.inl z) z) z z (TL.v z (OpVal.lenBs z Tryz.underlying9 z) z z (TL.v z (OpVal.gtr z z z) z z (TL.nil ?_)))))))))
 refine S.n (TC.cond z (fun h103 => ?_) (fun h103 => ?_))
 ·replace hh := iteO_t h103 hh
  replace h103 := of_decide_eq_true h103
  refine TC.seq (TC.region (TL.v z (OpVal.buildL z pl36 ze36 z) z z (TL.op z (OpOk.storeAll z sz36 z z z z z z ?_))))
  refine TL.v z (OpVal.moveI (.inr z) z) z z (TL.nil (S.n (TC.ret (S.r ?_))))
  obtain rfl := Option.some.inj hh
  exact RetOk.mk' (rs := [.cell 2 36, .tmp 3]) [] z (.inl z) (RVs.agg ag36 sz36 z (i := 0) z z (RVs.tmp z RVs.nil)) (List.sublist_append_left _ _) ⟨none, 0, z, (RS.nilF _ encSpan encSpan_len), z⟩
 ·replace hh := iteO_f h103 hh
  replace h103 := of_decide_eq_false h103
  refine TC.skip (S.n (TC.seq (TC.region (TL.op z (OpOk.alloc z ze70 z z (fun b104 => ?_))))))
  refine TL.asH (H' := [Res.cells b104 #[badV false b104, .slice none 0 0, .slice none 0 0] 70, Res.cells b101 #[.string (bs ([] : List UInt8)), .slice none 0 0] 36]) z (TL.nil (S.n (TC.seq (TC.region (TL.v z (OpVal.moveStr (.inl z) z) z z (TL.v z (OpVal.moveStr (.inl z) z) z z (TL.v z (OpVal.lenBs z Tryz.underlying9 z) z z (TL.v z (OpVal.buildL z pl56 ze56 z) z z (TL.nilS 5 1 encU8 ?_)))))))))
  refine TL.nilS 56 2 encSpan (TL.front 1 z z (TL.front 2 z z ?_))
  obtain ⟨v14, u14, hh⟩ := bnd_e hh
  refine TL.op z (OpOk.call (rewrite_turned_stay_con u14) z z pf30 z z z z ?_)
  rintro _ _ _ hle108 ⟨u108_1, a108_2, c108_3, a108_4, c108_5, rfl, rfl, rfl⟩
  refine TL.nil (S.n (TC.seq (TC.region (TL.front 2 z z (TL.front 2 z z (TL.front 2 z z ?_))))))
  obtain ⟨v15, u15, hh⟩ := bnd_e hh
  refine TL.op z (OpOk.call (rewrite_turned_piece_con u15) z z pf33 z z z z ?_)
  rintro _ τ111 _ hle111 ⟨a111_1, c111_2, rfl, hr111_3, rfl⟩
  have hr111_3b := hr111_3.rv.big
  refine TL.op z (OpOk.storeAll z sz36 z z z z z z ?_)
  refine TL.v z (OpVal.moveI (.inr z) z) z z (TL.nil (S.n (TC.ret ?_)))
  obtain rfl := Option.some.inj hh
  exact RetOk.mk' (rs := [.cell 2 36, .tmp 3]) [] z (.inl z) (RVs.agg ag36 sz36 z (i := 0) z z (RVs.tmp z RVs.nil)) (List.sublist_append_left _ _) ⟨a111_1, c111_2, z, hr111_3, z⟩

noncomputable def rewrite_Turn_j1 (v17 : (List Span) × Int) (k143 : Nat) (l151 : List UInt8) (l155 : List Span) : Option (((List UInt8) × (List Span) × Int × Nat) ⊕ (Piece × Int)) :=
 nxt (l151, l155, ((nth v17.1 k143 Span.zero).to), (k143 + 1))
noncomputable def rewrite_Turn_b1 (v17 : (List Span) × Int) (x1 : List UInt8) (x0 : Rule) (l135 : List UInt8) (l139 : List Span) (i142 : Int) (k143 : Nat) : Option (((List UInt8) × (List Span) × Int × Nat) ⊕ (Piece × Int)) :=
 iteO (decide (((k143 : Nat) : Int) < ((v17.1.length : Nat) : Int))) (bnd (rewrite_turned_stay (⟨(⟨l135⟩ : SB), l139⟩ : Turned) x1 (⟨i142, (nth v17.1 k143 Span.zero).frm⟩ : Span)) (fun v54 => grd (0 ≤ ((nth v17.1 k143 Span.zero).frm) ∧ 0 ≤ ((nth v17.1 k143 Span.zero).to) ∧ ((nth v17.1 k143 Span.zero).frm).toNat ≤ ((nth v17.1 k143 Span.zero).to).toNat ∧ ((nth v17.1 k143 Span.zero).to).toNat ≤ x1.length) (bnd (rewrite_how_by (⟨x0⟩ : How) ((x1.take (((nth v17.1 k143 Span.zero).to).toNat)).drop (((nth v17.1 k143 Span.zero).frm).toNat))) (fun v65 => iteO (!v65.2) (bnd (rewrite_turned_stay (⟨(⟨v54.b.buf⟩ : SB), v54.at'⟩ : Turned) x1 (nth v17.1 k143 Span.zero)) (fun v75 => rewrite_Turn_j1 v17 k143 v75.b.buf v75.at')) (bnd (rewrite_turned_put (⟨(⟨v54.b.buf⟩ : SB), v54.at'⟩ : Turned) v65.1 (nth v17.1 k143 Span.zero)) (fun v78 => iteO (!v78.1) (fin (some ((⟨([] : List UInt8), ([] : List Span)⟩ : Piece), 2))) (rewrite_Turn_j1 v17 k143 v78.2.b.buf v78.2.at'))))))) (fin (bnd (rewrite_turned_stay (⟨(⟨l135⟩ : SB), l139⟩ : Turned) x1 (⟨i142, ((x1.length : Nat) : Int)⟩ : Span)) (fun v90 => bnd (lenU (⟨(⟨v90.b.buf⟩ : SB), v90.at'⟩ : Turned)) (fun v92 => iteO (decide (4096 < v92)) (some ((⟨([] : List UInt8), ([] : List Span)⟩ : Piece), 2)) (bnd (rewrite_turned_piece (⟨(⟨v90.b.buf⟩ : SB), v90.at'⟩ : Turned)) (fun v97 => some (v97, 0)))))))
noncomputable def rewrite_Turn_j2 (v17 : (List Span) × Int) (k214 : Nat) (l222 : List UInt8) (l226 : List Span) : Option (((List UInt8) × (List Span) × Int × Nat) ⊕ (Piece × Int)) :=
 nxt (l222, l226, ((nth v17.1 k214 Span.zero).to), (k214 + 1))
noncomputable def rewrite_Turn_b2 (v17 : (List Span) × Int) (x1 : List UInt8) (x0 : Rule) (l206 : List UInt8) (l210 : List Span) (i213 : Int) (k214 : Nat) : Option (((List UInt8) × (List Span) × Int × Nat) ⊕ (Piece × Int)) :=
 iteO (decide (((k214 : Nat) : Int) < ((v17.1.length : Nat) : Int))) (bnd (rewrite_turned_stay (⟨(⟨l206⟩ : SB), l210⟩ : Turned) x1 (⟨i213, (nth v17.1 k214 Span.zero).frm⟩ : Span)) (fun v54 => grd (0 ≤ ((nth v17.1 k214 Span.zero).frm) ∧ 0 ≤ ((nth v17.1 k214 Span.zero).to) ∧ ((nth v17.1 k214 Span.zero).frm).toNat ≤ ((nth v17.1 k214 Span.zero).to).toNat ∧ ((nth v17.1 k214 Span.zero).to).toNat ≤ x1.length) (bnd (rewrite_how_out (⟨x0⟩ : How) ((x1.take (((nth v17.1 k214 Span.zero).to).toNat)).drop (((nth v17.1 k214 Span.zero).frm).toNat))) (fun v65 => iteO (!v65.2) (bnd (rewrite_turned_stay (⟨(⟨v54.b.buf⟩ : SB), v54.at'⟩ : Turned) x1 (nth v17.1 k214 Span.zero)) (fun v75 => rewrite_Turn_j2 v17 k214 v75.b.buf v75.at')) (bnd (rewrite_turned_put (⟨(⟨v54.b.buf⟩ : SB), v54.at'⟩ : Turned) v65.1 (nth v17.1 k214 Span.zero)) (fun v78 => iteO (!v78.1) (fin (some ((⟨([] : List UInt8), ([] : List Span)⟩ : Piece), 2))) (rewrite_Turn_j2 v17 k214 v78.2.b.buf v78.2.at'))))))) (fin (bnd (rewrite_turned_stay (⟨(⟨l206⟩ : SB), l210⟩ : Turned) x1 (⟨i213, ((x1.length : Nat) : Int)⟩ : Span)) (fun v90 => bnd (lenU (⟨(⟨v90.b.buf⟩ : SB), v90.at'⟩ : Turned)) (fun v92 => iteO (decide (4096 < v92)) (some ((⟨([] : List UInt8), ([] : List Span)⟩ : Piece), 2)) (bnd (rewrite_turned_piece (⟨(⟨v90.b.buf⟩ : SB), v90.at'⟩ : Turned)) (fun v97 => some (v97, 0)))))))
noncomputable def rewrite_Turn (x0 : Rule) (x1 : List UInt8) : Option (Piece × Int) :=
 grd (x1.length ≤ 281474976710656) (bnd (rewrite_Check x0) (fun v5 => iteO (decide (v5 ≠ 0)) (some ((⟨([] : List UInt8), ([] : List Span)⟩ : Piece), 1)) (bnd (scan_Factors x0.of x0.left x0.right x1) (fun v17 => iteO (decide (v17.2 ≠ 0)) (some ((⟨([] : List UInt8), ([] : List Span)⟩ : Piece), v17.2)) (iteO x0.mapped (iter (fun q : (List UInt8) × (List Span) × Int × Nat => rewrite_Turn_b1 v17 x1 x0 q.1 q.2.1 q.2.2.1 q.2.2.2) (([] : List UInt8), ([] : List Span), 0, 0)) (iter (fun q : (List UInt8) × (List Span) × Int × Nat => rewrite_Turn_b2 v17 x1 x0 q.1 q.2.1 q.2.2.1 q.2.2.2) (([] : List UInt8), ([] : List Span), 0, 0)))))))
def rewrite_Turn_P (σ : Store) (r : Piece × Int) : Value → Store → List Res → Prop := fun v σ' H' =>
 ∃ (a1 : Option Addr), ∃ (c1 : Nat),  v = .tuple #[.agg #[.string (bs r.1.text), .slice a1 r.1.at'.length c1], .int .i64 r.2] ∧ RS σ' 2 encSpan (.slice a1 r.1.at'.length c1) r.1.at' ∧ H' = []
theorem rewrite_Turn_con {σ : Store} {x0 : Rule} {a0_0 : Option Addr} {c0_0 : Nat} {a0_1 : Option Addr} {c0_1 : Nat} {a0_2 : Option Addr} {c0_2 : Nat} {a0_3 : Option Addr} {c0_3 : Nat} {a0_4 : Option Addr} {c0_4 : Nat} {a0_5 : Option Addr} {c0_5 : Nat} {a0_6 : Option Addr} {c0_6 : Nat} {a0_7 : Option Addr} {c0_7 : Nat} {a0_8 : Option Addr} {c0_8 : Nat} {a0_9 : Option Addr} {c0_9 : Nat} {a0_10 : Option Addr} {c0_10 : Nat} {a0_11 : Option Addr} {c0_11 : Nat} {a0_12 : Option Addr} {c0_12 : Nat} {x1 : List UInt8} (f0_0 : RS σ 1 Go.E.encI (.slice a0_0 x0.of.cls.length c0_0) x0.of.cls) (f0_1 : RZ σ (pkSl 1 Go.E.encI Go.E.encI_len) (.slice a0_1 x0.of.next.length c0_1) x0.of.next) (f0_2 : RS σ 1 encB (.slice a0_2 x0.of.fin.length c0_2) x0.of.fin) (f0_3 : RS σ 1 Go.E.encI (.slice a0_3 x0.left.cls.length c0_3) x0.left.cls) (f0_4 : RZ σ (pkSl 1 Go.E.encI Go.E.encI_len) (.slice a0_4 x0.left.next.length c0_4) x0.left.next) (f0_5 : RS σ 1 encB (.slice a0_5 x0.left.fin.length c0_5) x0.left.fin) (f0_6 : RS σ 1 Go.E.encI (.slice a0_6 x0.right.cls.length c0_6) x0.right.cls) (f0_7 : RZ σ (pkSl 1 Go.E.encI Go.E.encI_len) (.slice a0_7 x0.right.next.length c0_7) x0.right.next) (f0_8 : RS σ 1 encB (.slice a0_8 x0.right.fin.length c0_8) x0.right.fin) (f0_9 : RZ σ (pkSl 1 Go.E.encI Go.E.encI_len) (.slice a0_9 x0.by'.next.length c0_9) x0.by'.next) (f0_10 : RZ σ (pkSl 1 Go.E.encS Go.E.encS_len) (.slice a0_10 x0.by'.outs.length c0_10) x0.by'.outs) (f0_11 : RS σ 1 encB (.slice a0_11 x0.by'.fin.length c0_11) x0.by'.fin) (f0_12 : RS σ 1 Go.E.encS (.slice a0_12 x0.by'.tail.length c0_12) x0.by'.tail) {r : Piece × Int} (hh : rewrite_Turn x0 x1 = some r) :
  Con Tryz.prog 8 #[.agg #[.slice a0_0 x0.of.cls.length c0_0, .slice a0_1 x0.of.next.length c0_1, .slice a0_2 x0.of.fin.length c0_2, .slice a0_3 x0.left.cls.length c0_3, .slice a0_4 x0.left.next.length c0_4, .slice a0_5 x0.left.fin.length c0_5, .slice a0_6 x0.right.cls.length c0_6, .slice a0_7 x0.right.next.length c0_7, .slice a0_8 x0.right.fin.length c0_8, .string (bs x0.out), .bool x0.mapped, .string (bs x0.by'.front), .slice a0_9 x0.by'.next.length c0_9, .slice a0_10 x0.by'.outs.length c0_10, .slice a0_11 x0.by'.fin.length c0_11, .slice a0_12 x0.by'.tail.length c0_12], .string (bs x1)] σ [] (rewrite_Turn_P σ r) := by
 dsimp only [rewrite_Turn] at hh
 have f0_0b := f0_0.rv.big
 have f0_1b := f0_1.big
 have f0_2b := f0_2.rv.big
 have f0_3b := f0_3.rv.big
 have f0_4b := f0_4.big
 have f0_5b := f0_5.rv.big
 have f0_6b := f0_6.rv.big
 have f0_7b := f0_7.big
 have f0_8b := f0_8.rv.big
 have f0_9b := f0_9.big
 have f0_10b := f0_10.big
 have f0_11b := f0_11.rv.big
 have f0_12b := f0_12.rv.big
 refine Con.mk (n := 89) Tryz.func8 z z z (fun w0 => ?_)
 have x1b := grd_c hh
 replace hh := grd_t hh
 refine TC.seq (TC.region (TL.op z (OpOk.boxA z z z z (fun b101 => ?_))))
 refine TL.op z (OpOk.alloc z ze36 z z (fun b103 => ?_))
 refine TL.v z (OpVal.moveI (.inr z) z) z z (TL.nil (S.n (TC.seq (TC.seq (TC.region (TL.v z (OpVal.loadAll z ag32 sz32 z (i := 1) z z) z z ?_))))))
 obtain ⟨v5, u5, hh⟩ := bnd_e hh
 refine TL.op z (OpOk.callP (rewrite_Check_con (x0 := x0) f0_0 f0_1 f0_2 f0_3 f0_4 f0_5 f0_6 f0_7 f0_8 f0_9 f0_10 f0_11 f0_12 u5) z z pf13 z z z ?_)
 refine TL.v z (OpVal.neq z z z) z z (TL.nil (S.n (TC.cond z (fun h105 => ?_) (fun h105 => ?_))))
 ·replace hh := iteO_t h105 hh
  replace h105 := of_decide_eq_true h105
  refine TC.seq (TC.region (TL.v z (OpVal.buildL z pl36 ze36 z) z z (TL.op z (OpOk.storeAll z sz36 z z z z z z ?_))))
  refine TL.v z (OpVal.moveI (.inr z) z) z z (TL.nil (S.n (TC.ofSub (Sub.pre 1 z) (TC.ret (S.r ?_)))))
  obtain rfl := Option.some.inj hh
  exact RetOk.mk' (rs := [.cell 4 36, .tmp 5]) [] z (.inl z) (RVs.agg ag36 sz36 z (i := 0) z z (RVs.tmp z RVs.nil)) (List.sublist_append_left _ _) ⟨none, 0, z, (RS.nilF _ encSpan encSpan_len), z⟩
 ·replace hh := iteO_f h105 hh
  replace h105 := of_decide_eq_false h105
  refine TC.skip (S.n (TC.seq (TC.region (TL.v z (OpVal.fieldLoc z fo32_0 z) z z (TL.v z (OpVal.loadLocA z ag26 sz26 z (i := 1) z z z) z z (TL.v z (OpVal.fieldLoc z fo32_1 z) z z (TL.v z (OpVal.loadLocA z ag26 sz26 z (i := 1) z z z) z z (TL.v z (OpVal.fieldLoc z fo32_2 z) z z (TL.v z (OpVal.loadLocA z ag26 sz26 z (i := 1) z z z) z z ?_)))))))))
  refine TL.v z (OpVal.moveStr (.inl z) z) z z ?_
  obtain ⟨v17, u17, hh⟩ := bnd_e hh
  refine TL.op z (OpOk.call (scan_Factors_con (x0 := x0.of) (x1 := x0.left) (x2 := x0.right) f0_0 f0_1 f0_2 f0_3 f0_4 f0_5 f0_6 f0_7 f0_8 u17) z z pf27 z z z z ?_)
  rintro _ τ106 _ hle106 ⟨a106_1, c106_1, rfl, hr106_0, rfl⟩
  replace f0_0 := f0_0.mono hle106
  replace f0_1 := f0_1.mono hle106
  replace f0_2 := f0_2.mono hle106
  replace f0_3 := f0_3.mono hle106
  replace f0_4 := f0_4.mono hle106
  replace f0_5 := f0_5.mono hle106
  replace f0_6 := f0_6.mono hle106
  replace f0_7 := f0_7.mono hle106
  replace f0_8 := f0_8.mono hle106
  replace f0_9 := f0_9.mono hle106
  replace f0_10 := f0_10.mono hle106
  replace f0_11 := f0_11.mono hle106
  replace f0_12 := f0_12.mono hle106
  have hr106_0b := hr106_0.rv.big
  refine TL.v z (OpVal.moveT (.inl z) z) z z (TL.v z (OpVal.extract z z z) z z (TL.v z (OpVal.extract z z z) z z (TL.v z (OpVal.moveSl (.inr z) z) z z (TL.v z (OpVal.moveI (.inr z) z) z z (TL.nil (S.n (TC.seq (TC.seq (TC.region ?_)))))))))
  refine TL.v z (OpVal.moveI (.inl z) z) z z (TL.v z (OpVal.neq z z z) z z (TL.nil (S.n (TC.cond z (fun h107 => ?_) (fun h107 => ?_)))))
  ·replace hh := iteO_t h107 hh
   replace h107 := of_decide_eq_true h107
   refine TC.seq (TC.region (TL.v z (OpVal.buildL z pl36 ze36 z) z z (TL.v z (OpVal.moveI (.inl z) z) z z (TL.op z (OpOk.storeAll z sz36 z z z z z z ?_)))))
   refine TL.v z (OpVal.moveI (.inr z) z) z z (TL.nil (S.n (TC.ofSub (Sub.pre 1 z) (TC.ret (S.r ?_)))))
   obtain rfl := Option.some.inj hh
   exact RetOk.mk' (rs := [.cell 4 36, .tmp 5]) [] z (.inl z) (RVs.agg ag36 sz36 z (i := 0) z z (RVs.tmp z RVs.nil)) (List.sublist_append_left _ _) ⟨none, 0, z, (RS.nilF _ encSpan encSpan_len), z⟩
  ·replace hh := iteO_f h107 hh
   replace h107 := of_decide_eq_false h107
   refine TC.skip (S.n (TC.seq (TC.region (TL.v z (OpVal.loadAll z ag32 sz32 z (i := 1) z z) z z (TL.v z (OpVal.buildL z pl64 ze64 z) z z (TL.v z (OpVal.makeFn z) z z (TL.v z (OpVal.moveFn (.inr z) z) z z (TL.nil (S.n ?_)))))))))
   refine TC.seq (TC.seq (TC.region (TL.v z (OpVal.fieldLoc z fo32_4 z) z z (TL.v z (OpVal.loadLoc z ag4 z (i := 1) z z) z z (TL.nil (S.n (TC.cond z (fun h108 => ?_) (fun h108 => ?_))))))))
   ·replace hh := iteO_t h108 hh
    refine TC.region (TL.v z (OpVal.loadAll z ag32 sz32 z (i := 1) z z) z z (TL.v z (OpVal.buildL z pl64 ze64 z) z z (TL.v z (OpVal.makeFn z) z z (TL.v z (OpVal.moveFn (.inr z) z) z z (TL.nil (S.n (TC.seq (TC.region (TL.op z (OpOk.alloc z ze70 z z (fun b109 => ?_)))))))))))
    refine TL.asH (H' := [Res.cells b109 #[badV false b109, .slice none 0 0, .slice none 0 0] 70, Res.cells b103 #[.string (bs ([] : List UInt8)), .slice none 0 0] 36, Res.cells b101 #[.slice a0_0 x0.of.cls.length c0_0, .slice a0_1 x0.of.next.length c0_1, .slice a0_2 x0.of.fin.length c0_2, .slice a0_3 x0.left.cls.length c0_3, .slice a0_4 x0.left.next.length c0_4, .slice a0_5 x0.left.fin.length c0_5, .slice a0_6 x0.right.cls.length c0_6, .slice a0_7 x0.right.next.length c0_7, .slice a0_8 x0.right.fin.length c0_8, .string (bs x0.out), .bool x0.mapped, .string (bs x0.by'.front), .slice a0_9 x0.by'.next.length c0_9, .slice a0_10 x0.by'.outs.length c0_10, .slice a0_11 x0.by'.fin.length c0_11, .slice a0_12 x0.by'.tail.length c0_12] 32]) z (TL.nil (S.n (TC.seq (TC.region (TL.v z (OpVal.moveI (.inr z) z) z z (TL.nil (S.n (TC.seq (TC.seq ?_)))))))))
    refine TC.region (TL.v z (OpVal.moveSl (.inl z) z) z z (TL.v z (OpVal.lenC z Tryz.underlying34 z) z z (TL.v z (OpVal.moveI (.inl z) z) z z (TL.nil (S.n (TC.block (TC.nilS 5 1 encU8 (TC.nilS 56 2 encSpan (TC.loopG (α := ((List UInt8) × (List Span) × Int × Nat) × (Bool × (Option Addr) × Nat × (Option Addr) × Nat)) [5, 10, 12, 13, 14, 44, 45, 46, 47, 48, 49, 50, 51, 52, 53, 54, 55, 56, 57, 58, 59, 60, 61, 62, 63, 64, 65, 66, 67, 68, 69, 70, 71, 72, 73, 74, 75, 76, 77] (fun g => [(10, .int .i64 g.1.2.2.1), (44, .int .i64 ((g.1.2.2.2 : Nat) : Int))]) (fun g => [Res.cells b103 #[.string (bs ([] : List UInt8)), .slice none 0 0] 36, Res.cells b109 #[badV g.2.1 b109, .slice g.2.2.1 g.1.1.length g.2.2.2.1, .slice g.2.2.2.2.1 g.1.2.1.length g.2.2.2.2.2] 70, Res.rowS 5 1 encU8 (.slice g.2.2.1 g.1.1.length g.2.2.2.1) g.1.1, Res.rowS 56 2 encSpan (.slice g.2.2.2.2.1 g.1.2.1.length g.2.2.2.2.2) g.1.2.1]) (fun g => τ106) (fun g => iter (fun q : (List UInt8) × (List Span) × Int × Nat => rewrite_Turn_b1 v17 x1 x0 q.1 q.2.1 q.2.2.1 q.2.2.2) g.1 = some r) (fun g => rounds (fun q : (List UInt8) × (List Span) × Int × Nat => rewrite_Turn_b1 v17 x1 x0 q.1 q.2.1 q.2.2.1 q.2.2.2) g.1) ((([] : List UInt8), ([] : List Span), 0, 0), (false, none, 0, none, 0)) (Sub.front 1 z z (Sub.front 2 z z (Sub.front 3 z z (Sub.pre 4 z)))) z (by repeat (first | exact trivial | refine ⟨z, ?_⟩)) hh (fun g1 j1 hg1 => ?_))))))))))
    obtain ⟨⟨l135, l139, i142, k143⟩, ⟨u133, a136, c137, a140, c141⟩⟩ := g1
    have hh := hg1; clear hg1
    show TC _ _ _ (upds (mask _ j1 _) [(10, .int .i64 i142), (44, .int .i64 ((k143 : Nat) : Int))]) _ [Res.cells b103 #[.string (bs ([] : List UInt8)), .slice none 0 0] 36, Res.cells b109 #[badV u133 b109, .slice a136 l135.length c137, .slice a140 l139.length c141] 70, Res.rowS 5 1 encU8 (.slice a136 l135.length c137) l135, Res.rowS 56 2 encSpan (.slice a140 l139.length c141) l139]
    obtain ⟨z1, hh, hR1⟩ := iter_e hh
    dsimp only [rewrite_Turn_b1] at hh
    refine TC.isSl (i := 2) z (fun _ hb146 _ => ?_)
    refine TC.isSl (i := 3) z (fun _ hb147 _ => ?_)
    refine TC.seq (TC.region (TL.v z (OpVal.lss z z z) z z (TL.nil (S.n (TC.seq (TC.cond z (fun h148 => ?_) (fun h148 => ?_)))))))
    ·replace hh := iteO_t h148 hh
     replace h148 := of_decide_eq_true h148
     refine TC.skip (S.n (TC.cutG (α := ((List UInt8) × (List Span)) × (Bool × (Option Addr) × Nat × (Option Addr) × Nat)) [5, 10, 12, 13, 14, 46, 47, 48, 49, 50, 51, 52, 53, 54, 55, 56, 57, 58, 59, 60, 61, 62, 63, 64, 65, 66, 67, 68, 69, 70, 71, 72, 73, 74, 75, 76] (fun g => [(10, .int .i64 ((nth v17.1 k143 Span.zero).to))]) (fun g => [Res.cells b103 #[.string (bs ([] : List UInt8)), .slice none 0 0] 36, Res.cells b109 #[badV g.2.1 b109, .slice g.2.2.1 g.1.1.length g.2.2.2.1, .slice g.2.2.2.2.1 g.1.2.length g.2.2.2.2.2] 70, Res.rowS 5 1 encU8 (.slice g.2.2.1 g.1.1.length g.2.2.2.1) g.1.1, Res.rowS 56 2 encSpan (.slice g.2.2.2.2.1 g.1.2.length g.2.2.2.2.2) g.1.2]) (fun g => τ106) (fun g => rewrite_Turn_j1 v17 k143 g.1.1 g.1.2 = some z1) ?_ (fun g j hg => ?_)))
     ·skip
      refine TC.block (TC.seq (TC.region (TL.v z (OpVal.indexN z Tryz.underlying34 sz56 z z hr106_0.rv.sl (by omega)) z z (TL.v z (OpVal.loadSA Span.zero z ag56 sz56 z hr106_0 (by omega) (by omega)) z z (TL.op z (OpOk.alloc z ze56 z z (fun b158 => ?_)))))))
      refine TL.op z (OpOk.storeAll z sz56 z z z z z z ?_)
      refine TL.nil (S.n (TC.seq (TC.region (TL.v z (OpVal.moveStr (.inl z) z) z z (TL.v z (OpVal.moveI (.inl z) z) z z (TL.v z (OpVal.fieldLoc z fo56_0 z) z z (TL.v z (OpVal.loadLoc z ag3 z (i := 0) z z) z z (TL.v z (OpVal.buildL z pl56 ze56 z) z z (TL.front 4 z z ?_)))))))))
      refine TL.front 4 z z (TL.front 4 z z ?_)
      obtain ⟨v54, u54, hh⟩ := bnd_e hh
      refine TL.op z (OpOk.call (rewrite_turned_stay_con u54) z z pf30 z z z z ?_)
      rintro _ _ _ hle160 ⟨u160_1, a160_2, c160_3, a160_4, c160_5, rfl, rfl, rfl⟩
      refine TL.nil (S.n (TC.seq (TC.region (TL.v z (OpVal.fieldLoc z fo56_1 z) z z (TL.v z (OpVal.loadLoc z ag3 z (i := 3) z z) z z (TL.v z (OpVal.moveI (.inr z) z) z z (TL.nil (S.n (TC.seq ?_)))))))))
      refine TC.region (TL.v z (OpVal.moveFn (.inl z) z) z z (TL.v z (OpVal.moveStr (.inl z) z) z z (TL.v z (OpVal.fieldLoc z fo56_0 z) z z (TL.v z (OpVal.loadLoc z ag3 z (i := 3) z z) z z (TL.v z (OpVal.fieldLoc z fo56_1 z) z z (TL.v z (OpVal.loadLoc z ag3 z (i := 3) z z) z z ?_))))))
      have u64 := grd_c hh
      replace hh := grd_t hh
      refine TL.v rfl (OpVal.sliceBs (l := x1) (i := ((nth v17.1 k143 Span.zero).frm).toNat) (j := ((nth v17.1 k143 Span.zero).to).toNat) rfl Tryz.underlying9 rfl (by show Value.int _ _ = _; rw [Int.toNat_of_nonneg (by omega)]) (by show Value.int _ _ = _; rw [Int.toNat_of_nonneg (by omega)]) (by omega) (by omega)) rfl rfl ?_
      obtain ⟨v65, u65, hh⟩ := bnd_e hh
      refine TL.op z (OpOk.callP (rewrite_how_by_con (x0 := (⟨x0⟩ : How)) f0_0 f0_1 f0_2 f0_3 f0_4 f0_5 f0_6 f0_7 f0_8 f0_9 f0_10 f0_11 f0_12 u65) z z pf29 z z z ?_)
      refine TL.v z (OpVal.moveT (.inl z) z) z z (TL.v z (OpVal.extract z z z) z z (TL.v z (OpVal.extract z z z) z z (TL.v z (OpVal.moveStr (.inr z) z) z z (TL.v z (OpVal.moveB (.inr z) z) z z (TL.nil (S.n (TC.seq (TC.region (TL.v z (OpVal.moveB (.inl z) z) z z ?_)))))))))
      refine TL.v z (OpVal.not z z) z z (TL.nil (S.n (TC.cond z (fun h163 => ?_) (fun h163 => ?_))))
      ·replace hh := iteO_t h163 hh
       refine TC.region (TL.v z (OpVal.moveStr (.inl z) z) z z (TL.v z (OpVal.loadAll z ag56 sz56 z (i := 3) z z) z z (TL.front 2 z z (TL.front 2 z z (TL.front 2 z z ?_)))))
       obtain ⟨v75, u75, hh⟩ := bnd_e hh
       refine TL.op z (OpOk.call (rewrite_turned_stay_con u75) z z pf30 z z z z ?_)
       rintro _ _ _ hle164 ⟨u164_1, a164_2, c164_3, a164_4, c164_5, rfl, rfl, rfl⟩
       refine TL.nil (B.n (S.n (⟨by repeat (first | exact Agr.refl _ _ | exact Agr.mask | refine Agr.upd z ?_ | refine Agr.maskIn z ?_ | refine Agr.upds z ?_), ((v75.b.buf, v75.at'), (u164_1, a164_2, c164_3, a164_4, c164_5)), hh, by repeat (first | exact trivial | refine ⟨z, ?_⟩), Sub.front 2 z z (Sub.front 2 z z (Sub.front 2 z z (Sub.front 4 z z (Sub.pre 4 z)))), z⟩)))
      ·replace hh := iteO_f h163 hh
       refine TC.seq (TC.region (TL.v z (OpVal.moveStr (.inl z) z) z z (TL.v z (OpVal.loadAll z ag56 sz56 z (i := 3) z z) z z (TL.front 2 z z (TL.front 2 z z (TL.front 2 z z ?_))))))
       obtain ⟨v78, u78, hh⟩ := bnd_e hh
       refine TL.op z (OpOk.call (rewrite_turned_put_con u78) z z pf31 z z z z ?_)
       rintro _ _ _ hle167 ⟨u167_1, a167_2, c167_3, a167_4, c167_5, rfl, rfl, rfl⟩
       refine TL.v z (OpVal.not z z) z z (TL.nil (S.n (TC.cond z (fun h170 => ?_) (fun h170 => ?_))))
       ·replace hh := iteO_t h170 hh
        refine TC.seq (TC.region (TL.v z (OpVal.buildL z pl36 ze36 z) z z (TL.front 4 z z (TL.op z (OpOk.storeAll z sz36 z z z z z z ?_)))))
        refine TL.v z (OpVal.moveI (.inr z) z) z z (TL.nil (S.n (TC.ofSub (Sub.pre 1 z) (TC.ret (B.r (S.r (S.r ?_)))))))
        replace hh := fin_x hR1 hh
        refine B.r (S.r ?_)
        obtain rfl := Option.some.inj hh
        exact RetOk.mk' (rs := [.cell 4 36, .tmp 5]) [] z (.inl z) (RVs.agg ag36 sz36 z (i := 0) z z (RVs.tmp z RVs.nil)) (List.sublist_append_left _ _) ⟨none, 0, z, (RS.nilF _ encSpan encSpan_len), z⟩
       ·replace hh := iteO_f h170 hh
        refine TC.skip (B.n (S.n (⟨by repeat (first | exact Agr.refl _ _ | exact Agr.mask | refine Agr.upd z ?_ | refine Agr.maskIn z ?_ | refine Agr.upds z ?_), ((v78.2.b.buf, v78.2.at'), (u167_1, a167_2, c167_3, a167_4, c167_5)), hh, by repeat (first | exact trivial | refine ⟨z, ?_⟩), Sub.front 2 z z (Sub.front 2 z z (Sub.front 2 z z (Sub.front 4 z z (Sub.pre 4 z)))), z⟩)))
     ·skip
      obtain ⟨⟨l151, l155⟩, ⟨u149, a152, c153, a156, c157⟩⟩ := g
      have hh := hg; clear hg
      show TC _ _ _ (upds (mask _ j _) [(10, .int .i64 ((nth v17.1 k143 Span.zero).to))]) _ [Res.cells b103 #[.string (bs ([] : List UInt8)), .slice none 0 0] 36, Res.cells b109 #[badV u149 b109, .slice a152 l151.length c153, .slice a156 l155.length c157] 70, Res.rowS 5 1 encU8 (.slice a152 l151.length c153) l151, Res.rowS 56 2 encSpan (.slice a156 l155.length c157) l155]
      dsimp only [rewrite_Turn_j1] at hh
      refine TC.isSl (i := 2) z (fun _ hb171 _ => ?_)
      refine TC.isSl (i := 3) z (fun _ hb172 _ => ?_)
      refine TC.region (TL.v z (OpVal.succ z z z (by omega)) z z (TL.v z (OpVal.moveI (.inl z) z) z z (TL.nil (S.n ?_))))
      obtain ⟨hh, hlt173⟩ := nxt_x hR1 hh
      refine ⟨by repeat (first | exact Agr.refl _ _ | exact Agr.mask | refine Agr.upd z ?_ | refine Agr.maskIn z ?_ | refine Agr.upds z ?_), ((l151, l155, ((nth v17.1 k143 Span.zero).to), (k143 + 1)), (u149, a152, c153, a156, c157)), hlt173, hh, by repeat (first | exact trivial | refine ⟨z, ?_⟩), Sub.front 3 z z (Sub.front 3 z z (Sub.front 3 z z (Sub.front 3 z z (Sub.pre 4 z)))), z⟩
    ·replace hh := iteO_f h148 hh
     replace h148 := of_decide_eq_false h148
     refine TC.exit (S.x (S.x ?_))
     replace hh := fin_x hR1 hh
     refine TC.exitHere (S.n (TC.seq (TC.region (TL.v z (OpVal.moveStr (.inl z) z) z z (TL.v z (OpVal.moveI (.inl z) z) z z (TL.v z (OpVal.moveStr (.inl z) z) z z (TL.v z (OpVal.lenBs z Tryz.underlying9 z) z z (TL.v z (OpVal.buildL z pl56 ze56 z) z z (TL.front 3 z z ?_)))))))))
     refine TL.front 3 z z (TL.front 3 z z ?_)
     obtain ⟨v90, u90, hh⟩ := bnd_e hh
     refine TL.op z (OpOk.call (rewrite_turned_stay_con u90) z z pf30 z z z z ?_)
     rintro _ _ _ hle174 ⟨u174_1, a174_2, c174_3, a174_4, c174_5, rfl, rfl, rfl⟩
     refine TL.nil (S.n (TC.seq (TC.seq (TC.region (TL.v z (OpVal.fieldLoc z fo70_0 z) z z (TL.front 2 z z (TL.front 2 z z (TL.front 2 z z ?_))))))))
     obtain ⟨v92, u92, hh⟩ := bnd_e hh
     refine TL.op z (OpOk.call (lenU_con u92) z z pf32 z z z z ?_)
     rintro _ _ _ hle177 ⟨rfl, rfl, rfl⟩
     refine TL.v z (OpVal.gtr z z z) z z (TL.nil (S.n (TC.cond z (fun h178 => ?_) (fun h178 => ?_))))
     ·replace hh := iteO_t h178 hh
      replace h178 := of_decide_eq_true h178
      refine TC.seq (TC.region (TL.v z (OpVal.buildL z pl36 ze36 z) z z (TL.front 3 z z (TL.op z (OpOk.storeAll z sz36 z z z z z z ?_)))))
      refine TL.v z (OpVal.moveI (.inr z) z) z z (TL.nil (S.n (TC.ofSub (Sub.pre 1 z) (TC.ret (S.r ?_)))))
      obtain rfl := Option.some.inj hh
      exact RetOk.mk' (rs := [.cell 4 36, .tmp 5]) [] z (.inl z) (RVs.agg ag36 sz36 z (i := 0) z z (RVs.tmp z RVs.nil)) (List.sublist_append_left _ _) ⟨none, 0, z, (RS.nilF _ encSpan encSpan_len), z⟩
     ·replace hh := iteO_f h178 hh
      replace h178 := of_decide_eq_false h178
      refine TC.skip (S.n (TC.seq (TC.region (TL.front 2 z z (TL.front 2 z z (TL.front 2 z z ?_))))))
      obtain ⟨v97, u97, hh⟩ := bnd_e hh
      refine TL.op z (OpOk.call (rewrite_turned_piece_con u97) z z pf33 z z z z ?_)
      rintro _ τ179 _ hle179 ⟨a179_1, c179_2, rfl, hr179_3, rfl⟩
      replace f0_0 := f0_0.mono hle179
      replace f0_1 := f0_1.mono hle179
      replace f0_2 := f0_2.mono hle179
      replace f0_3 := f0_3.mono hle179
      replace f0_4 := f0_4.mono hle179
      replace f0_5 := f0_5.mono hle179
      replace f0_6 := f0_6.mono hle179
      replace f0_7 := f0_7.mono hle179
      replace f0_8 := f0_8.mono hle179
      replace f0_9 := f0_9.mono hle179
      replace f0_10 := f0_10.mono hle179
      replace f0_11 := f0_11.mono hle179
      replace f0_12 := f0_12.mono hle179
      replace hr106_0 := hr106_0.mono hle179
      have hr179_3b := hr179_3.rv.big
      refine TL.op z (OpOk.storeAll z sz36 z z z z z z ?_)
      refine TL.v z (OpVal.moveI (.inr z) z) z z (TL.nil (S.n (TC.ret ?_)))
      obtain rfl := Option.some.inj hh
      exact RetOk.mk' (rs := [.cell 4 36, .tmp 5]) [] z (.inl z) (RVs.agg ag36 sz36 z (i := 0) z z (RVs.tmp z RVs.nil)) (List.sublist_append_left _ _) ⟨a179_1, c179_2, z, hr179_3, z⟩
   ·replace hh := iteO_f h108 hh
    refine TC.skip (S.n (TC.seq (TC.region (TL.op z (OpOk.alloc z ze70 z z (fun b180 => ?_))))))
    refine TL.asH (H' := [Res.cells b180 #[badV false b180, .slice none 0 0, .slice none 0 0] 70, Res.cells b103 #[.string (bs ([] : List UInt8)), .slice none 0 0] 36, Res.cells b101 #[.slice a0_0 x0.of.cls.length c0_0, .slice a0_1 x0.of.next.length c0_1, .slice a0_2 x0.of.fin.length c0_2, .slice a0_3 x0.left.cls.length c0_3, .slice a0_4 x0.left.next.length c0_4, .slice a0_5 x0.left.fin.length c0_5, .slice a0_6 x0.right.cls.length c0_6, .slice a0_7 x0.right.next.length c0_7, .slice a0_8 x0.right.fin.length c0_8, .string (bs x0.out), .bool x0.mapped, .string (bs x0.by'.front), .slice a0_9 x0.by'.next.length c0_9, .slice a0_10 x0.by'.outs.length c0_10, .slice a0_11 x0.by'.fin.length c0_11, .slice a0_12 x0.by'.tail.length c0_12] 32]) z (TL.nil (S.n (TC.seq (TC.region (TL.v z (OpVal.moveI (.inr z) z) z z (TL.nil (S.n (TC.seq (TC.seq ?_)))))))))
    refine TC.region (TL.v z (OpVal.moveSl (.inl z) z) z z (TL.v z (OpVal.lenC z Tryz.underlying34 z) z z (TL.v z (OpVal.moveI (.inl z) z) z z (TL.nil (S.n (TC.block (TC.nilS 5 1 encU8 (TC.nilS 56 2 encSpan (TC.loopG (α := ((List UInt8) × (List Span) × Int × Nat) × (Bool × (Option Addr) × Nat × (Option Addr) × Nat)) [5, 10, 12, 13, 14, 44, 45, 46, 47, 48, 49, 50, 51, 52, 53, 54, 55, 56, 57, 58, 59, 60, 61, 62, 63, 64, 65, 66, 67, 68, 69, 70, 71, 72, 73, 74, 75, 76, 77] (fun g => [(10, .int .i64 g.1.2.2.1), (44, .int .i64 ((g.1.2.2.2 : Nat) : Int))]) (fun g => [Res.cells b103 #[.string (bs ([] : List UInt8)), .slice none 0 0] 36, Res.cells b180 #[badV g.2.1 b180, .slice g.2.2.1 g.1.1.length g.2.2.2.1, .slice g.2.2.2.2.1 g.1.2.1.length g.2.2.2.2.2] 70, Res.rowS 5 1 encU8 (.slice g.2.2.1 g.1.1.length g.2.2.2.1) g.1.1, Res.rowS 56 2 encSpan (.slice g.2.2.2.2.1 g.1.2.1.length g.2.2.2.2.2) g.1.2.1]) (fun g => τ106) (fun g => iter (fun q : (List UInt8) × (List Span) × Int × Nat => rewrite_Turn_b2 v17 x1 x0 q.1 q.2.1 q.2.2.1 q.2.2.2) g.1 = some r) (fun g => rounds (fun q : (List UInt8) × (List Span) × Int × Nat => rewrite_Turn_b2 v17 x1 x0 q.1 q.2.1 q.2.2.1 q.2.2.2) g.1) ((([] : List UInt8), ([] : List Span), 0, 0), (false, none, 0, none, 0)) (Sub.front 1 z z (Sub.front 2 z z (Sub.front 3 z z (Sub.pre 4 z)))) z (by repeat (first | exact trivial | refine ⟨z, ?_⟩)) hh (fun g2 j2 hg2 => ?_))))))))))
    obtain ⟨⟨l206, l210, i213, k214⟩, ⟨u204, a207, c208, a211, c212⟩⟩ := g2
    have hh := hg2; clear hg2
    show TC _ _ _ (upds (mask _ j2 _) [(10, .int .i64 i213), (44, .int .i64 ((k214 : Nat) : Int))]) _ [Res.cells b103 #[.string (bs ([] : List UInt8)), .slice none 0 0] 36, Res.cells b180 #[badV u204 b180, .slice a207 l206.length c208, .slice a211 l210.length c212] 70, Res.rowS 5 1 encU8 (.slice a207 l206.length c208) l206, Res.rowS 56 2 encSpan (.slice a211 l210.length c212) l210]
    obtain ⟨z1, hh, hR1⟩ := iter_e hh
    dsimp only [rewrite_Turn_b2] at hh
    refine TC.isSl (i := 2) z (fun _ hb217 _ => ?_)
    refine TC.isSl (i := 3) z (fun _ hb218 _ => ?_)
    refine TC.seq (TC.region (TL.v z (OpVal.lss z z z) z z (TL.nil (S.n (TC.seq (TC.cond z (fun h219 => ?_) (fun h219 => ?_)))))))
    ·replace hh := iteO_t h219 hh
     replace h219 := of_decide_eq_true h219
     refine TC.skip (S.n (TC.cutG (α := ((List UInt8) × (List Span)) × (Bool × (Option Addr) × Nat × (Option Addr) × Nat)) [5, 10, 12, 13, 14, 46, 47, 48, 49, 50, 51, 52, 53, 54, 55, 56, 57, 58, 59, 60, 61, 62, 63, 64, 65, 66, 67, 68, 69, 70, 71, 72, 73, 74, 75, 76] (fun g => [(10, .int .i64 ((nth v17.1 k214 Span.zero).to))]) (fun g => [Res.cells b103 #[.string (bs ([] : List UInt8)), .slice none 0 0] 36, Res.cells b180 #[badV g.2.1 b180, .slice g.2.2.1 g.1.1.length g.2.2.2.1, .slice g.2.2.2.2.1 g.1.2.length g.2.2.2.2.2] 70, Res.rowS 5 1 encU8 (.slice g.2.2.1 g.1.1.length g.2.2.2.1) g.1.1, Res.rowS 56 2 encSpan (.slice g.2.2.2.2.1 g.1.2.length g.2.2.2.2.2) g.1.2]) (fun g => τ106) (fun g => rewrite_Turn_j2 v17 k214 g.1.1 g.1.2 = some z1) ?_ (fun g j hg => ?_)))
     ·skip
      refine TC.block (TC.seq (TC.region (TL.v z (OpVal.indexN z Tryz.underlying34 sz56 z z hr106_0.rv.sl (by omega)) z z (TL.v z (OpVal.loadSA Span.zero z ag56 sz56 z hr106_0 (by omega) (by omega)) z z (TL.op z (OpOk.alloc z ze56 z z (fun b229 => ?_)))))))
      refine TL.op z (OpOk.storeAll z sz56 z z z z z z ?_)
      refine TL.nil (S.n (TC.seq (TC.region (TL.v z (OpVal.moveStr (.inl z) z) z z (TL.v z (OpVal.moveI (.inl z) z) z z (TL.v z (OpVal.fieldLoc z fo56_0 z) z z (TL.v z (OpVal.loadLoc z ag3 z (i := 0) z z) z z (TL.v z (OpVal.buildL z pl56 ze56 z) z z (TL.front 4 z z ?_)))))))))
      refine TL.front 4 z z (TL.front 4 z z ?_)
      obtain ⟨v54, u54, hh⟩ := bnd_e hh
      refine TL.op z (OpOk.call (rewrite_turned_stay_con u54) z z pf30 z z z z ?_)
      rintro _ _ _ hle231 ⟨u231_1, a231_2, c231_3, a231_4, c231_5, rfl, rfl, rfl⟩
      refine TL.nil (S.n (TC.seq (TC.region (TL.v z (OpVal.fieldLoc z fo56_1 z) z z (TL.v z (OpVal.loadLoc z ag3 z (i := 3) z z) z z (TL.v z (OpVal.moveI (.inr z) z) z z (TL.nil (S.n (TC.seq ?_)))))))))
      refine TC.region (TL.v z (OpVal.moveFn (.inl z) z) z z (TL.v z (OpVal.moveStr (.inl z) z) z z (TL.v z (OpVal.fieldLoc z fo56_0 z) z z (TL.v z (OpVal.loadLoc z ag3 z (i := 3) z z) z z (TL.v z (OpVal.fieldLoc z fo56_1 z) z z (TL.v z (OpVal.loadLoc z ag3 z (i := 3) z z) z z ?_))))))
      have u64 := grd_c hh
      replace hh := grd_t hh
      refine TL.v rfl (OpVal.sliceBs (l := x1) (i := ((nth v17.1 k214 Span.zero).frm).toNat) (j := ((nth v17.1 k214 Span.zero).to).toNat) rfl Tryz.underlying9 rfl (by show Value.int _ _ = _; rw [Int.toNat_of_nonneg (by omega)]) (by show Value.int _ _ = _; rw [Int.toNat_of_nonneg (by omega)]) (by omega) (by omega)) rfl rfl ?_
      obtain ⟨v65, u65, hh⟩ := bnd_e hh
      refine TL.op z (OpOk.callP (rewrite_how_out_con (x0 := (⟨x0⟩ : How)) f0_0 f0_1 f0_2 f0_3 f0_4 f0_5 f0_6 f0_7 f0_8 f0_9 f0_10 f0_11 f0_12 u65) z z pf28 z z z ?_)
      refine TL.v z (OpVal.moveT (.inl z) z) z z (TL.v z (OpVal.extract z z z) z z (TL.v z (OpVal.extract z z z) z z (TL.v z (OpVal.moveStr (.inr z) z) z z (TL.v z (OpVal.moveB (.inr z) z) z z (TL.nil (S.n (TC.seq (TC.region (TL.v z (OpVal.moveB (.inl z) z) z z ?_)))))))))
      refine TL.v z (OpVal.not z z) z z (TL.nil (S.n (TC.cond z (fun h234 => ?_) (fun h234 => ?_))))
      ·replace hh := iteO_t h234 hh
       refine TC.region (TL.v z (OpVal.moveStr (.inl z) z) z z (TL.v z (OpVal.loadAll z ag56 sz56 z (i := 3) z z) z z (TL.front 2 z z (TL.front 2 z z (TL.front 2 z z ?_)))))
       obtain ⟨v75, u75, hh⟩ := bnd_e hh
       refine TL.op z (OpOk.call (rewrite_turned_stay_con u75) z z pf30 z z z z ?_)
       rintro _ _ _ hle235 ⟨u235_1, a235_2, c235_3, a235_4, c235_5, rfl, rfl, rfl⟩
       refine TL.nil (B.n (S.n (⟨by repeat (first | exact Agr.refl _ _ | exact Agr.mask | refine Agr.upd z ?_ | refine Agr.maskIn z ?_ | refine Agr.upds z ?_), ((v75.b.buf, v75.at'), (u235_1, a235_2, c235_3, a235_4, c235_5)), hh, by repeat (first | exact trivial | refine ⟨z, ?_⟩), Sub.front 2 z z (Sub.front 2 z z (Sub.front 2 z z (Sub.front 4 z z (Sub.pre 4 z)))), z⟩)))
      ·replace hh := iteO_f h234 hh
       refine TC.seq (TC.region (TL.v z (OpVal.moveStr (.inl z) z) z z (TL.v z (OpVal.loadAll z ag56 sz56 z (i := 3) z z) z z (TL.front 2 z z (TL.front 2 z z (TL.front 2 z z ?_))))))
       obtain ⟨v78, u78, hh⟩ := bnd_e hh
       refine TL.op z (OpOk.call (rewrite_turned_put_con u78) z z pf31 z z z z ?_)
       rintro _ _ _ hle238 ⟨u238_1, a238_2, c238_3, a238_4, c238_5, rfl, rfl, rfl⟩
       refine TL.v z (OpVal.not z z) z z (TL.nil (S.n (TC.cond z (fun h241 => ?_) (fun h241 => ?_))))
       ·replace hh := iteO_t h241 hh
        refine TC.seq (TC.region (TL.v z (OpVal.buildL z pl36 ze36 z) z z (TL.front 4 z z (TL.op z (OpOk.storeAll z sz36 z z z z z z ?_)))))
        refine TL.v z (OpVal.moveI (.inr z) z) z z (TL.nil (S.n (TC.ofSub (Sub.pre 1 z) (TC.ret (B.r (S.r (S.r ?_)))))))
        replace hh := fin_x hR1 hh
        refine B.r (S.r ?_)
        obtain rfl := Option.some.inj hh
        exact RetOk.mk' (rs := [.cell 4 36, .tmp 5]) [] z (.inl z) (RVs.agg ag36 sz36 z (i := 0) z z (RVs.tmp z RVs.nil)) (List.sublist_append_left _ _) ⟨none, 0, z, (RS.nilF _ encSpan encSpan_len), z⟩
       ·replace hh := iteO_f h241 hh
        refine TC.skip (B.n (S.n (⟨by repeat (first | exact Agr.refl _ _ | exact Agr.mask | refine Agr.upd z ?_ | refine Agr.maskIn z ?_ | refine Agr.upds z ?_), ((v78.2.b.buf, v78.2.at'), (u238_1, a238_2, c238_3, a238_4, c238_5)), hh, by repeat (first | exact trivial | refine ⟨z, ?_⟩), Sub.front 2 z z (Sub.front 2 z z (Sub.front 2 z z (Sub.front 4 z z (Sub.pre 4 z)))), z⟩)))
     ·skip
      obtain ⟨⟨l222, l226⟩, ⟨u220, a223, c224, a227, c228⟩⟩ := g
      have hh := hg; clear hg
      show TC _ _ _ (upds (mask _ j _) [(10, .int .i64 ((nth v17.1 k214 Span.zero).to))]) _ [Res.cells b103 #[.string (bs ([] : List UInt8)), .slice none 0 0] 36, Res.cells b180 #[badV u220 b180, .slice a223 l222.length c224, .slice a227 l226.length c228] 70, Res.rowS 5 1 encU8 (.slice a223 l222.length c224) l222, Res.rowS 56 2 encSpan (.slice a227 l226.length c228) l226]
      dsimp only [rewrite_Turn_j2] at hh
      refine TC.isSl (i := 2) z (fun _ hb242 _ => ?_)
      refine TC.isSl (i := 3) z (fun _ hb243 _ => ?_)
      refine TC.region (TL.v z (OpVal.succ z z z (by omega)) z z (TL.v z (OpVal.moveI (.inl z) z) z z (TL.nil (S.n ?_))))
      obtain ⟨hh, hlt244⟩ := nxt_x hR1 hh
      refine ⟨by repeat (first | exact Agr.refl _ _ | exact Agr.mask | refine Agr.upd z ?_ | refine Agr.maskIn z ?_ | refine Agr.upds z ?_), ((l222, l226, ((nth v17.1 k214 Span.zero).to), (k214 + 1)), (u220, a223, c224, a227, c228)), hlt244, hh, by repeat (first | exact trivial | refine ⟨z, ?_⟩), Sub.front 3 z z (Sub.front 3 z z (Sub.front 3 z z (Sub.front 3 z z (Sub.pre 4 z)))), z⟩
    ·replace hh := iteO_f h219 hh
     replace h219 := of_decide_eq_false h219
     refine TC.exit (S.x (S.x ?_))
     replace hh := fin_x hR1 hh
     refine TC.exitHere (S.n (TC.seq (TC.region (TL.v z (OpVal.moveStr (.inl z) z) z z (TL.v z (OpVal.moveI (.inl z) z) z z (TL.v z (OpVal.moveStr (.inl z) z) z z (TL.v z (OpVal.lenBs z Tryz.underlying9 z) z z (TL.v z (OpVal.buildL z pl56 ze56 z) z z (TL.front 3 z z ?_)))))))))
     refine TL.front 3 z z (TL.front 3 z z ?_)
     obtain ⟨v90, u90, hh⟩ := bnd_e hh
     refine TL.op z (OpOk.call (rewrite_turned_stay_con u90) z z pf30 z z z z ?_)
     rintro _ _ _ hle245 ⟨u245_1, a245_2, c245_3, a245_4, c245_5, rfl, rfl, rfl⟩
     refine TL.nil (S.n (TC.seq (TC.seq (TC.region (TL.v z (OpVal.fieldLoc z fo70_0 z) z z (TL.front 2 z z (TL.front 2 z z (TL.front 2 z z ?_))))))))
     obtain ⟨v92, u92, hh⟩ := bnd_e hh
     refine TL.op z (OpOk.call (lenU_con u92) z z pf32 z z z z ?_)
     rintro _ _ _ hle248 ⟨rfl, rfl, rfl⟩
     refine TL.v z (OpVal.gtr z z z) z z (TL.nil (S.n (TC.cond z (fun h249 => ?_) (fun h249 => ?_))))
     ·replace hh := iteO_t h249 hh
      replace h249 := of_decide_eq_true h249
      refine TC.seq (TC.region (TL.v z (OpVal.buildL z pl36 ze36 z) z z (TL.front 3 z z (TL.op z (OpOk.storeAll z sz36 z z z z z z ?_)))))
      refine TL.v z (OpVal.moveI (.inr z) z) z z (TL.nil (S.n (TC.ofSub (Sub.pre 1 z) (TC.ret (S.r ?_)))))
      obtain rfl := Option.some.inj hh
      exact RetOk.mk' (rs := [.cell 4 36, .tmp 5]) [] z (.inl z) (RVs.agg ag36 sz36 z (i := 0) z z (RVs.tmp z RVs.nil)) (List.sublist_append_left _ _) ⟨none, 0, z, (RS.nilF _ encSpan encSpan_len), z⟩
     ·replace hh := iteO_f h249 hh
      replace h249 := of_decide_eq_false h249
      refine TC.skip (S.n (TC.seq (TC.region (TL.front 2 z z (TL.front 2 z z (TL.front 2 z z ?_))))))
      obtain ⟨v97, u97, hh⟩ := bnd_e hh
      refine TL.op z (OpOk.call (rewrite_turned_piece_con u97) z z pf33 z z z z ?_)
      rintro _ τ250 _ hle250 ⟨a250_1, c250_2, rfl, hr250_3, rfl⟩
      replace f0_0 := f0_0.mono hle250
      replace f0_1 := f0_1.mono hle250
      replace f0_2 := f0_2.mono hle250
      replace f0_3 := f0_3.mono hle250
      replace f0_4 := f0_4.mono hle250
      replace f0_5 := f0_5.mono hle250
      replace f0_6 := f0_6.mono hle250
      replace f0_7 := f0_7.mono hle250
      replace f0_8 := f0_8.mono hle250
      replace f0_9 := f0_9.mono hle250
      replace f0_10 := f0_10.mono hle250
      replace f0_11 := f0_11.mono hle250
      replace f0_12 := f0_12.mono hle250
      replace hr106_0 := hr106_0.mono hle250
      have hr250_3b := hr250_3.rv.big
      refine TL.op z (OpOk.storeAll z sz36 z z z z z z ?_)
      refine TL.v z (OpVal.moveI (.inr z) z) z z (TL.nil (S.n (TC.ret ?_)))
      obtain rfl := Option.some.inj hh
      exact RetOk.mk' (rs := [.cell 4 36, .tmp 5]) [] z (.inl z) (RVs.agg ag36 sz36 z (i := 0) z z (RVs.tmp z RVs.nil)) (List.sublist_append_left _ _) ⟨a250_1, c250_2, z, hr250_3, z⟩

end Go.Proofs.YtmfclggfajopkaaGreatDoor
end

/- R8 -/
section
/- Decompiled: what laws on rules need. -/
set_option linter.unusedVariables false
set_option linter.unusedSimpArgs false
namespace Go.Proofs.YtmfclggfajopkaaGreatDoor
open Go Go.E
set_option maxRecDepth 100000
private theorem fo36_0 : Go.E.foOf Tryz.prog 36 0 = some 0 := by kernel_rfl
private theorem fo36_1 : Go.E.foOf Tryz.prog 36 1 = some 1 := by kernel_rfl
private theorem pf45 : Go.E.plainF Tryz.prog 45 = true := by kernel_rfl
private theorem pf56 : Go.E.plainF Tryz.prog 56 = true := by kernel_rfl
private theorem pf57 : Go.E.plainF Tryz.prog 57 = true := by kernel_rfl
noncomputable def whittleref24_Same (x0 : Piece) (x1 : Piece) : Option (Bool) :=
 iteO (decide (x0.text = x1.text)) (bnd (whittleref04_Same x0.at' x1.at') (fun v14 => some v14)) (some false)
theorem whittleref24_Same_con {σ : Store} {x0 : Piece} {a0_0 : Option Addr} {c0_0 : Nat} {x1 : Piece} {a1_0 : Option Addr} {c1_0 : Nat} (f0_0 : RS σ 2 encSpan (.slice a0_0 x0.at'.length c0_0) x0.at') (f1_0 : RS σ 2 encSpan (.slice a1_0 x1.at'.length c1_0) x1.at') {r : Bool} (hh : whittleref24_Same x0 x1 = some r) :
  Con Tryz.prog 15 #[.agg #[.string (bs x0.text), .slice a0_0 x0.at'.length c0_0], .agg #[.string (bs x1.text), .slice a1_0 x1.at'.length c1_0]] σ [] (PureP (.bool r) σ) := by
 dsimp only [whittleref24_Same] at hh
 have f0_0b := f0_0.rv.big
 have f1_0b := f1_0.rv.big
 refine Con.mk (n := 17) Tryz.func15 z z z (fun w0 => ?_)
 refine TC.seq (TC.region (TL.op z (OpOk.boxA z z z z (fun b101 => ?_))))
 refine TL.op z (OpOk.boxA z z z z (fun b103 => ?_))
 refine TL.v z (OpVal.moveB (.inr z) z) z z (TL.nil (S.n (TC.seq (TC.region (TL.v z (OpVal.fieldLoc z fo36_0 z) z z (TL.v z (OpVal.loadLoc z ag9 z (i := 1) z z) z z (TL.v z (OpVal.fieldLoc z fo36_0 z) z z (TL.v z (OpVal.loadLoc z ag9 z (i := 0) z z) z z (TL.v z (OpVal.eqlBs z z z) z z ?_)))))))))
 refine TL.v z (OpVal.moveB (.inl z) z) z z (TL.split 10 z (fun h105 => ?_) (fun h105 => ?_))
 ·replace hh := iteO_t h105 hh
  replace h105 := of_decide_eq_true h105
  refine TL.gv z z z z z (OpVal.fieldLoc z fo36_1 z) z z (TL.gv z z z z z (OpVal.loadLoc z ag34 z (i := 1) z z) z z (TL.gv z z z z z (OpVal.fieldLoc z fo36_1 z) z z (TL.gv z z z z z (OpVal.loadLoc z ag34 z (i := 0) z z) z z ?_)))
  obtain ⟨v14, u14, hh⟩ := bnd_e hh
  refine TL.gon z z z z z (OpOk.callP (whittleref04_Same_con f0_0 f1_0 u14) z z pf45 z z z ?_)
  refine TL.v z (OpVal.pickTB z z z) z z (TL.v z (OpVal.moveB (.inr z) z) z z (TL.nil (S.n (TC.ofSub (Sub.pre 0 z) (TC.ret ?_)))))
  obtain rfl := Option.some.inj hh
  exact RetOk.mk' (rs := [.tmp 4]) [] z (.inl z) (RVs.tmp z RVs.nil) (List.sublist_append_left _ _) ⟨z, z, z⟩
 ·replace hh := iteO_f h105 hh
  replace h105 := of_decide_eq_false h105
  refine TL.goff z z z z z z z z (TL.goff z z z z z z z z (TL.goff z z z z z z z z (TL.goff z z z z z z z z (TL.goff z z z z z z z z (TL.v z (OpVal.pickFB z z z) z z (TL.v z (OpVal.moveB (.inr z) z) z z (TL.nil (S.n (TC.ofSub (Sub.pre 0 z) ?_)))))))))
  refine TC.ret ?_
  obtain rfl := Option.some.inj hh
  exact RetOk.mk' (rs := [.tmp 4]) [] z (.inl z) (RVs.tmp z RVs.nil) (List.sublist_append_left _ _) ⟨z, z, z⟩

noncomputable def span_Rise_1 (x0 : Span) (x1 : Span) : Option (Bool) :=
 iteO (decide (x0.frm ≤ x1.frm)) (some (decide (x0.to ≤ x1.to))) (some false)
theorem span_Rise_1_con {σ : Store} {x0 : Span} {x1 : Span}  {r : Bool} (hh : span_Rise_1 x0 x1 = some r) :
  Con Tryz.prog 57 #[.agg #[.int .i64 x0.frm, .int .i64 x0.to], .agg #[.int .i64 x1.frm, .int .i64 x1.to]] σ [] (PureP (.bool r) σ) := by
 dsimp only [span_Rise_1] at hh
 refine Con.mk (n := 17) Tryz.func57 z z z (fun w0 => ?_)
 refine TC.seq (TC.region (TL.op z (OpOk.boxA z z z z (fun b101 => ?_))))
 refine TL.op z (OpOk.boxA z z z z (fun b103 => ?_))
 refine TL.v z (OpVal.moveB (.inr z) z) z z (TL.nil (S.n (TC.seq (TC.region (TL.v z (OpVal.fieldLoc z fo56_0 z) z z (TL.v z (OpVal.loadLoc z ag3 z (i := 1) z z) z z (TL.v z (OpVal.fieldLoc z fo56_0 z) z z (TL.v z (OpVal.loadLoc z ag3 z (i := 0) z z) z z (TL.v z (OpVal.leq z z z) z z ?_)))))))))
 refine TL.v z (OpVal.moveB (.inl z) z) z z (TL.split 10 z (fun h105 => ?_) (fun h105 => ?_))
 ·replace hh := iteO_t h105 hh
  replace h105 := of_decide_eq_true h105
  refine TL.gv z z z z z (OpVal.fieldLoc z fo56_1 z) z z (TL.gv z z z z z (OpVal.loadLoc z ag3 z (i := 1) z z) z z (TL.gv z z z z z (OpVal.fieldLoc z fo56_1 z) z z (TL.gv z z z z z (OpVal.loadLoc z ag3 z (i := 0) z z) z z (TL.gv z z z z z (OpVal.leq z z z) z z (TL.v z (OpVal.pickTB z z z) z z (TL.v z (OpVal.moveB (.inr z) z) z z (TL.nil (S.n (TC.ofSub (Sub.pre 0 z) ?_)))))))))
  refine TC.ret ?_
  obtain rfl := Option.some.inj hh
  exact RetOk.mk' (rs := [.tmp 4]) [] z (.inl z) (RVs.tmp z RVs.nil) (List.sublist_append_left _ _) ⟨z, z, z⟩
 ·replace hh := iteO_f h105 hh
  replace h105 := of_decide_eq_false h105
  refine TL.goff z z z z z z z z (TL.goff z z z z z z z z (TL.goff z z z z z z z z (TL.goff z z z z z z z z (TL.goff z z z z z z z z (TL.v z (OpVal.pickFB z z z) z z (TL.v z (OpVal.moveB (.inr z) z) z z (TL.nil (S.n (TC.ofSub (Sub.pre 0 z) ?_)))))))))
  refine TC.ret ?_
  obtain rfl := Option.some.inj hh
  exact RetOk.mk' (rs := [.tmp 4]) [] z (.inl z) (RVs.tmp z RVs.nil) (List.sublist_append_left _ _) ⟨z, z, z⟩

noncomputable def span_row_api_Span_pairs_b1 (x0 : List Span) (k103 : Nat) : Option ((Nat) ⊕ (Bool)) :=
 iteO (decide (((k103 : Nat) : Int) < ((x0.length : Nat) : Int))) (grd (0 ≤ (IntKind.i64.wrap (((k103 : Nat) : Int) - 1)) ∧ (IntKind.i64.wrap (((k103 : Nat) : Int) - 1)) < (x0.length : Int)) (bnd (span_Rise_1 (nth x0 ((IntKind.i64.wrap (((k103 : Nat) : Int) - 1)).toNat) Span.zero) (nth x0 k103 Span.zero)) (fun v17 => iteO (!v17) (fin (some false)) (nxt (k103 + 1))))) (fin (some true))
noncomputable def span_row_api_Span_pairs (x0 : List Span) : Option (Bool) :=
 iter (fun q : Nat => span_row_api_Span_pairs_b1 x0 q) 1
theorem span_row_api_Span_pairs_con {σ : Store} {x0 : List Span} {a0_0 : Option Addr} {c0_0 : Nat} (f0_0 : RS σ 2 encSpan (.slice a0_0 x0.length c0_0) x0) {r : Bool} (hh : span_row_api_Span_pairs x0 = some r) :
  Con Tryz.prog 56 #[.slice a0_0 x0.length c0_0, .func (.func 57) #[] #[]] σ [] (PureP (.bool r) σ) := by
 dsimp only [span_row_api_Span_pairs] at hh
 have f0_0b := f0_0.rv.big
 refine Con.mk (n := 24) Tryz.func56 z z z (fun w0 => ?_)
 refine TC.seq (TC.region (TL.v z (OpVal.moveB (.inr z) z) z z (TL.nil (S.n (TC.seq (TC.seq (TC.region (TL.v z (OpVal.moveI (.inr z) z) z z (TL.nil ?_)))))))))
 refine S.n (TC.block (TC.loopG (α := (Nat) × (Unit)) [4, 5, 6, 7, 8, 9, 10, 11, 12, 13, 14, 15, 16, 17, 18, 19, 20, 21, 22, 23] (fun g => [(5, .int .i64 ((g.1 : Nat) : Int))]) (fun g => []) (fun g => σ) (fun g => iter (fun q : Nat => span_row_api_Span_pairs_b1 x0 q) g.1 = some r) (fun g => rounds (fun q : Nat => span_row_api_Span_pairs_b1 x0 q) g.1) (1, ()) (Sub.pre 0 z) z (by repeat (first | exact trivial | refine ⟨z, ?_⟩)) hh (fun g1 j1 hg1 => ?_)))
 obtain ⟨k103, _⟩ := g1
 have hh := hg1; clear hg1
 show TC _ _ _ (upds (mask _ j1 _) [(5, .int .i64 ((k103 : Nat) : Int))]) _ []
 obtain ⟨z1, hh, hR1⟩ := iter_e hh
 dsimp only [span_row_api_Span_pairs_b1] at hh
 refine TC.seq (TC.seq (TC.region (TL.v z (OpVal.moveI (.inl z) z) z z (TL.v z (OpVal.moveSl (.inl z) z) z z (TL.v z (OpVal.lenC z Tryz.underlying104 z) z z (TL.v z (OpVal.lss z z z) z z (TL.nil (S.n (TC.cond z (fun h104 => ?_) (fun h104 => ?_))))))))))
 ·replace hh := iteO_t h104 hh
  replace h104 := of_decide_eq_true h104
  refine TC.skip (S.n (TC.seq (TC.block (TC.seq ?_))))
  have u11 := grd_c hh
  replace hh := grd_t hh
  obtain ⟨v17, u17, hh⟩ := bnd_e hh
  refine TC.draw [] (by kernel_rfl) (TA.takeP 0 z (by kernel_rfl) (by kernel_rfl) (by kernel_rfl) z (OpVal.moveFn (.inl z) z) z z (TA.takeP 1 z (by kernel_rfl) (by kernel_rfl) (by kernel_rfl) z (OpVal.moveSl (.inl z) z) z z (TA.takeP 2 z (by kernel_rfl) (by kernel_rfl) (by kernel_rfl) z (OpVal.moveI (.inl z) z) z z (TA.takeP 3 z (by kernel_rfl) (by kernel_rfl) (by kernel_rfl) z (OpVal.subW z z z) z z (TA.take 4 z (by kernel_rfl) (by kernel_rfl) (by kernel_rfl) (by kernel_rfl) z (OpVal.index z Tryz.underlying104 sz56 z z f0_0.rv.sl u11.1 u11.2) z z (TA.take 5 z (by kernel_rfl) (by kernel_rfl) (by kernel_rfl) (by kernel_rfl) z (OpVal.loadSA Span.zero z ag56 sz56 z f0_0 (by omega) (by omega)) z z (TA.takeP 6 z (by kernel_rfl) (by kernel_rfl) (by kernel_rfl) z (OpVal.moveSl (.inl z) z) z z (TA.takeP 7 z (by kernel_rfl) (by kernel_rfl) (by kernel_rfl) z (OpVal.moveI (.inl z) z) z z (TA.take 8 z (by kernel_rfl) (by kernel_rfl) (by kernel_rfl) (by kernel_rfl) z (OpVal.indexN z Tryz.underlying104 sz56 z z f0_0.rv.sl (by omega)) z z ?_)))))))))
  refine TA.take 9 z (by kernel_rfl) (by kernel_rfl) (by kernel_rfl) (by kernel_rfl) z (OpVal.loadSA Span.zero z ag56 sz56 z f0_0 (by omega) (by omega)) z z (TA.act 10 (by kernel_rfl) z z (OpOk.callP (span_Rise_1_con u17) z z pf57 z z z ⟨(fun w h => sees_of (Store.le.refl _) (fun r hr => hr) w h), ?_⟩))
  refine TA.takeP 11 z (by kernel_rfl) (by kernel_rfl) (by kernel_rfl) z (OpVal.not z z) z z (TA.done (by kernel_rfl) (S.n (TC.cond z (fun h105 => ?_) (fun h105 => ?_))))
  ·replace hh := iteO_t h105 hh
   refine TC.seq (TC.region (TL.v z (OpVal.moveB (.inr z) z) z z (TL.nil (S.n (TC.ret (B.r (S.r (S.r ?_))))))))
   replace hh := fin_x hR1 hh
   refine B.r (S.r ?_)
   obtain rfl := Option.some.inj hh
   exact RetOk.mk' (rs := [.tmp 4]) [] z (.inl z) (RVs.tmp z RVs.nil) (List.sublist_append_left _ _) ⟨z, z, z⟩
  ·replace hh := iteO_f h105 hh
   refine TC.skip (B.n (S.n (TC.region (TL.v z (OpVal.moveI (.inl z) z) z z (TL.v z (OpVal.succ z z z (by omega)) z z (TL.v z (OpVal.moveI (.inr z) z) z z (TL.nil (S.n ?_))))))))
   obtain ⟨hh, hlt106⟩ := nxt_x hR1 hh
   refine ⟨by repeat (first | exact Agr.refl _ _ | exact Agr.mask | refine Agr.upd z ?_ | refine Agr.maskIn z ?_ | refine Agr.upds z ?_), ((k103 + 1), ()), hlt106, hh, by repeat (first | exact trivial | refine ⟨z, ?_⟩), Sub.pre 0 z, z⟩
 ·replace hh := iteO_f h104 hh
  replace h104 := of_decide_eq_false h104
  refine TC.exit (S.x (S.x ?_))
  replace hh := fin_x hR1 hh
  refine TC.exitHere (S.n (TC.seq (TC.region (TL.v z (OpVal.moveB (.inr z) z) z z (TL.nil (S.n (TC.ret ?_)))))))
  obtain rfl := Option.some.inj hh
  exact RetOk.mk' (rs := [.tmp 4]) [] z (.inl z) (RVs.tmp z RVs.nil) (List.sublist_append_left _ _) ⟨z, z, z⟩

noncomputable def span_Rise (x0 : List Span) : Option (Bool) :=
 bnd (span_row_api_Span_pairs x0) (fun v3 => some v3)
theorem span_Rise_con {σ : Store} {x0 : List Span} {a0_0 : Option Addr} {c0_0 : Nat} (f0_0 : RS σ 2 encSpan (.slice a0_0 x0.length c0_0) x0) {r : Bool} (hh : span_Rise x0 = some r) :
  Con Tryz.prog 24 #[.slice a0_0 x0.length c0_0] σ [] (PureP (.bool r) σ) := by
 dsimp only [span_Rise] at hh
 have f0_0b := f0_0.rv.big
 refine Con.mk (n := 5) Tryz.func24 z z z (fun w0 => ?_)
 refine TC.seq (TC.region (TL.v z (OpVal.moveB (.inr z) z) z z (TL.nil (S.n (TC.seq (TC.region (TL.v z (OpVal.moveSl (.inl z) z) z z ?_)))))))
 obtain ⟨v3, u3, hh⟩ := bnd_e hh
 refine TL.op z (OpOk.callP (span_row_api_Span_pairs_con f0_0 u3) z z pf56 z z z ?_)
 refine TL.v z (OpVal.moveB (.inr z) z) z z (TL.nil (S.n (TC.ret ?_)))
 obtain rfl := Option.some.inj hh
 exact RetOk.mk' (rs := [.tmp 2]) [] z (.inl z) (RVs.tmp z RVs.nil) (List.sublist_append_left _ _) ⟨z, z, z⟩

end Go.Proofs.YtmfclggfajopkaaGreatDoor
end

/- Dec13 -/
section
/- A part of a slice that is only read, by both its ends. Plain lemmas over any program; no condition. -/
set_option linter.unusedVariables false
set_option linter.unusedSimpArgs false
namespace Go.E
open Go
section
variable {α : Type} {σ : Store} {size m c : Nat} {enc : α → List Value} {a : Option Addr} {l : List α}
theorem RS.takeF (h : RS σ size enc (.slice a m c) l) (j : Nat) (hj : j ≤ l.length) : RS σ size enc (.slice a (l.take j).length c) (l.take j) := by
  have hlj : (l.take j).length = j := by rw [List.length_take]; omega
  obtain ⟨a1, c1, hv, hn, hc⟩ := h.rv.sl
  cases hv
  rw [hlj]
  refine ⟨⟨⟨a, c, by rw [hlj], fun ha => ?_, by omega⟩, by rw [flatMap_len h.len], ?_, fun u hu => h.rv.one u (by rw [take_flat h.len] at hu; exact List.mem_of_mem_take hu), by have := h.rv.big; omega⟩, h.len⟩
  · obtain ⟨h1, h2⟩ := hn ha; exact ⟨by omega, h2⟩
  · intro ad m' c' hv i u hi
    cases hv
    rw [take_flat h.len, List.getElem?_take] at hi
    split at hi
    · exact h.rv.cell ad _ c rfl i u hi
    · cases hi
theorem RS.dropF (h : RS σ size enc (.slice a m c) l) (i : Nat) (hi : i ≤ l.length) : RS σ size enc (.slice (if c = i then a else a.map (·.add (i * size))) (l.drop i).length (c - i)) (l.drop i) := by
  have hlj : (l.drop i).length = l.length - i := by rw [List.length_drop]
  obtain ⟨a1, c1, hv, hn, hc⟩ := h.rv.sl
  cases hv
  rw [hlj]
  refine ⟨⟨⟨_, _, by rw [hlj], fun ha => ?_, by omega⟩, by rw [flatMap_len h.len], ?_, fun u hu => h.rv.one u (by rw [drop_flat h.len] at hu; exact List.mem_of_mem_drop hu), by have := h.rv.big; omega⟩, h.len⟩
  · split at ha
    · obtain ⟨h1, h2⟩ := hn ha; omega
    · cases a with
      | none => obtain ⟨h1, h2⟩ := hn rfl; omega
      | some ad => simp at ha
  · intro ad m' c' hv j u hj
    rw [drop_flat h.len, List.getElem?_drop] at hj
    have hjl := (List.getElem?_eq_some_iff.1 hj).1
    rw [flatMap_len h.len] at hjl
    have hil : i < l.length := by
      rcases Nat.lt_or_ge i l.length with h1 | h1
      · exact h1
      · have := Nat.mul_le_mul_right size h1; omega
    have hci : ¬ c = i := by omega
    rw [if_neg hci] at hv
    cases a with
    | none => simp at hv
    | some a0 =>
      simp only [Option.map_some, Value.slice.injEq, Option.some.injEq] at hv
      obtain ⟨rfl, _⟩ := hv
      rw [add_add]
      exact h.rv.cell a0 _ c rfl _ u hj
theorem RS.sub (h : RS σ size enc (.slice a m c) l) (i j : Nat) (hij : i ≤ j ∧ j ≤ l.length) : ∃ (a' : Option Addr) (c' : Nat), RS σ size enc (.slice a' ((l.take j).drop i).length c') ((l.take j).drop i) ∧
    ∀ {P : Program} {n : Nat} {e : Env} {H : List Res} {o : Oper} {x y z : Operand} {T E : TypeId} {k k' : IntKind} (_ : o.op = .slice T x (some z) (some y) none) (_ : P.underlying T = some (.slice E)) (_ : szOf P E = some size) (_ : ev e x = .slice a m c) (_ : ev e z = .int k (i : Nat)) (_ : ev e y = .int k' (j : Nat)), OpVal P n o e σ H (.slice a' ((l.take j).drop i).length c') := by
  have hlj : (l.take j).length = j := by rw [List.length_take]; omega
  have hll : ((l.take j).drop i).length = j - i := by rw [List.length_drop, hlj]
  refine ⟨_, _, (h.takeF j hij.2).dropF i (by omega), ?_⟩
  obtain ⟨a1, c1, hv, hn, hc⟩ := h.rv.sl
  cases hv
  rw [hll]
  intro P n e H o x y z T E k k' ho hT hs hx hz hy w _
  have hsz := run_sizeOf (P := P) hs
  have hrun : (Instr.slice T (.slice a l.length c) (some (.int k i)) (some (.int k' j)) none).run P w = .ok (.slice (if c = i then a else a.map (·.add (i * size))) (j - i) (c - i)) w := by
    simp [Instr.slice, Instr.sliceBounds, Instr.sliceBound, asIntOf, run_underlying hT, hsz]
    rw [if_pos (show j ≤ c by omega), if_pos hij.1]
  simp [execOp, ho, hx, hz, hy, Instr.sliceAt, run_underlying hT, hrun]
end
end Go.E
end
