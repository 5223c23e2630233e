/- Parts of a proof, one behind the other: what a machine reaches, functions decompiled, plain lemmas. Conditions stand with each lemma. -/
import Derived.Test.YtmfclggfajopkaaGreatDoorB4db771c510
import Derived.Test.YtmfclggfajopkaaGreatDoorBef79dd66ab
import Derived.Test.YtmfclggfajopkaaGreatDoorB1df7b7a9b5
import Derived.Lib.Builder
import Derived.Lib.AppendStr
import Derived.Lib.UnsafeStr

/- R3 -/
section
/- Decompiled: transducers that go one way; rules. -/
set_option linter.unusedVariables false
set_option linter.unusedSimpArgs false
namespace Go.Proofs.YtmfclggfajopkaaGreatDoor
open Go Go.E
set_option maxRecDepth 100000
private theorem ag23 : Go.E.aggOf Tryz.prog 23 = some false := by kernel_rfl
private theorem ag24 : Go.E.aggOf Tryz.prog 24 = some false := by kernel_rfl
private theorem ag26 : Go.E.aggOf Tryz.prog 26 = some true := by kernel_rfl
private theorem ag27 : Go.E.aggOf Tryz.prog 27 = some false := by kernel_rfl
private theorem ag28 : Go.E.aggOf Tryz.prog 28 = some false := by kernel_rfl
private theorem ag30 : Go.E.aggOf Tryz.prog 30 = some true := by kernel_rfl
private theorem ag9 : Go.E.aggOf Tryz.prog 9 = some false := by kernel_rfl
private theorem fo30_0 : Go.E.foOf Tryz.prog 30 0 = some 0 := by kernel_rfl
private theorem fo30_1 : Go.E.foOf Tryz.prog 30 1 = some 1 := by kernel_rfl
private theorem fo30_2 : Go.E.foOf Tryz.prog 30 2 = some 2 := by kernel_rfl
private theorem fo30_3 : Go.E.foOf Tryz.prog 30 3 = some 3 := by kernel_rfl
private theorem fo30_4 : Go.E.foOf Tryz.prog 30 4 = some 4 := by kernel_rfl
private theorem fo32_0 : Go.E.foOf Tryz.prog 32 0 = some 0 := by kernel_rfl
private theorem fo32_1 : Go.E.foOf Tryz.prog 32 1 = some 3 := by kernel_rfl
private theorem fo32_2 : Go.E.foOf Tryz.prog 32 2 = some 6 := by kernel_rfl
private theorem fo32_3 : Go.E.foOf Tryz.prog 32 3 = some 9 := by kernel_rfl
private theorem fo32_4 : Go.E.foOf Tryz.prog 32 4 = some 10 := by kernel_rfl
private theorem fo32_5 : Go.E.foOf Tryz.prog 32 5 = some 11 := by kernel_rfl
private theorem pf25 : Go.E.plainF Tryz.prog 25 = true := by kernel_rfl
private theorem pf26 : Go.E.plainF Tryz.prog 26 = true := by kernel_rfl
private theorem pf43 : Go.E.plainF Tryz.prog 43 = true := by kernel_rfl
private theorem pf44 : Go.E.plainF Tryz.prog 44 = true := by kernel_rfl
private theorem pf87 : Go.E.plainF Tryz.prog 87 = true := by kernel_rfl
private theorem sz22 : Go.E.szOf Tryz.prog 22 = some 1 := by kernel_rfl
private theorem sz26 : Go.E.szOf Tryz.prog 26 = some 3 := by kernel_rfl
private theorem sz28 : Go.E.szOf Tryz.prog 28 = some 1 := by kernel_rfl
private theorem sz30 : Go.E.szOf Tryz.prog 30 = some 5 := by kernel_rfl
private theorem sz9 : Go.E.szOf Tryz.prog 9 = some 1 := by kernel_rfl
private theorem ze26 : Go.E.zeroOf Tryz.prog 26 = some (.agg #[.slice none 0 0, .slice none 0 0, .slice none 0 0]) := by kernel_rfl
private theorem ze30 : Go.E.zeroOf Tryz.prog 30 = some (.agg #[.string ByteArray.empty, .slice none 0 0, .slice none 0 0, .slice none 0 0, .slice none 0 0]) := by kernel_rfl

noncomputable def seq_row_j1 (k105 : Nat) : Option ((Nat) ⊕ (Bool)) :=
 nxt (k105 + 1)
noncomputable def seq_row_b1 (x0 : List Int) (x2 : Int) (x1 : List (List UInt8)) (k105 : Nat) : Option ((Nat) ⊕ (Bool)) :=
 iteO (decide (((k105 : Nat) : Int) < ((x0.length : Nat) : Int))) (iteO (decide ((nth x0 k105 (0 : Int)) < (-1))) (fin (some false)) (iteO (decide (x2 ≤ (nth x0 k105 (0 : Int)))) (fin (some false)) (grd (k105 < x1.length) (iteO (decide (4096 < (((nth x1 k105 ([] : List UInt8)).length : Nat) : Int))) (fin (some false)) (iteO (decide ((nth x0 k105 (0 : Int)) = (-1))) (grd (k105 < x1.length) (iteO (decide ((nth x1 k105 ([] : List UInt8)) ≠ ([] : List UInt8))) (fin (some false)) (seq_row_j1 k105))) (seq_row_j1 k105)))))) (fin (some true))
noncomputable def seq_row (x0 : List Int) (x1 : List (List UInt8)) (x2 : Int) : Option (Bool) :=
 iteO (decide (((x0.length : Nat) : Int) ≠ 256)) (some false) (iteO (decide (((x1.length : Nat) : Int) ≠ 256)) (some false) (iter (fun q : Nat => seq_row_b1 x0 x2 x1 q) 0))
theorem seq_row_con {σ : Store} {x0 : List Int} {a0_0 : Option Addr} {c0_0 : Nat} {x1 : List (List UInt8)} {a1_0 : Option Addr} {c1_0 : Nat} {x2 : Int} (f0_0 : RS σ 1 Go.E.encI (.slice a0_0 x0.length c0_0) x0) (f1_0 : RS σ 1 Go.E.encS (.slice a1_0 x1.length c1_0) x1) {r : Bool} (hh : seq_row x0 x1 x2 = some r) :
  Con Tryz.prog 87 #[.slice a0_0 x0.length c0_0, .slice a1_0 x1.length c1_0, .int .i64 x2] σ [] (PureP (.bool r) σ) := by
 dsimp only [seq_row] at hh
 have f0_0b := f0_0.rv.big
 have f1_0b := f1_0.rv.big
 refine Con.mk (n := 51) Tryz.func87 z z z (fun w0 => ?_)
 refine TC.a (TL.b z (.inr z) z z z (TL.en (TC.seq (TC.a (TL.sl z (.inl z) z z z (TL.v z (OpVal.lenC z Tryz.underlying22 z) z z (TL.v z (OpVal.neq z z z) z z (TL.b z (.inl z) z z z (TL.split 12 z (fun h101 => ?_) (fun h101 => ?_))))))))))
 ·replace hh := iteO_t h101 hh
  replace h101 := of_decide_eq_true h101
  refine TL.goff z z z z z z z z (TL.goff z z z z z z z z (TL.goff z z z z z z z z (TL.v z (OpVal.pickTB z z z) z z (TL.en (TC.cond z (fun _ => ?_) (fun h => Bool.noConfusion h))))))
  refine TC.a (TL.b z (.inr z) z z z (TL.en (TC.ret (S.r ?_))))
  obtain rfl := so hh
  exact r1 6
 ·replace hh := iteO_f h101 hh
  replace h101 := of_decide_eq_false h101
  refine TL.gv z z z z z (OpVal.moveSl (.inl z) z) z z (TL.gv z z z z z (OpVal.lenC z Tryz.underlying28 z) z z (TL.gv z z z z z (OpVal.neq z z z) z z (TL.v z (OpVal.pickFB z z z) z z (TL.en (TC.cD z hh (fun h102 hh => ?_) (fun h102 hh => ?_))))))
  ·refine TC.a (TL.b z (.inr z) z z z (TL.en (TC.ret (S.r ?_))))
   obtain rfl := so hh
   exact r1 6
  ·refine TC.skip (S.n (TC.seq (TC.a (TL.sl z (.inl z) z z z (TL.v z (OpVal.lenC z Tryz.underlying22 z) z z (TL.a z (.inl z) z z z (TL.en (TC.block (TC.loopG (α := (Nat) × (Unit)) [6, 7, 8, 19, 20, 21, 22, 23, 24, 25, 26, 27, 28, 29, 30, 31, 32, 33, 34, 35, 36, 37, 38, 39, 40, 41, 42, 43, 44, 45, 46, 47, 48, 49, 50] (fun g => [(19, .int .i64 ((g.1 : Nat) : Int))]) (fun g => []) (fun g => σ) (fun g => iter (fun q : Nat => seq_row_b1 x0 x2 x1 q) g.1 = some r) (fun g => rounds (fun q : Nat => seq_row_b1 x0 x2 x1 q) g.1) (0, ()) (Sub.pre 0 z) z (by repeat (first | exact trivial | refine ⟨z, ?_⟩)) hh (fun g1 j1 hg1 => ?_))))))))))
   obtain ⟨k105, _⟩ := g1
   have hh := hg1; clear hg1
   show TC _ _ _ (upds (mask _ j1 _) [(19, .int .i64 ((k105 : Nat) : Int))]) _ []
   obtain ⟨z1, hh, hR1⟩ := iter_e hh
   dsimp only [seq_row_b1] at hh
   refine TC.a (TL.v z (OpVal.lss z z z) z z (TL.en (TC.seq (TC.cD z hh (fun h106 hh => ?_) (fun h106 hh => ?_)))))
   ·refine TC.skip (S.n (TC.cutG (α := (Unit) × (Unit)) [6, 7, 8, 21, 22, 23, 24, 25, 26, 27, 28, 29, 30, 31, 32, 33, 34, 35, 36, 37, 38, 39, 40, 41, 42, 43, 44, 45, 46, 47, 48, 49] (fun g => []) (fun g => []) (fun g => σ) (fun g => seq_row_j1 k105 = some z1) ?_ (fun g j hg => ?_)))
    ·skip
     refine TC.block (TC.a (TL.a z (.inl z) z z z (TL.v z (OpVal.indexN z Tryz.underlying22 sz3 z z f0_0.rv.sl (by omega)) z z (TL.v z (OpVal.loadS1 (0 : Int) z ag3 z f0_0 (by omega) z) z z (TL.a z (.inr z) z z z (TL.a z (.inr z) z z z (TL.en (TC.a (TL.a z (.inl z) z z z ?_)))))))))
     refine TL.v z (OpVal.lss z z z) z z (TL.b z (.inl z) z z z (TL.split 26 z (fun h107 => ?_) (fun h107 => ?_)))
     ·replace hh := iteO_t h107 hh
      replace h107 := of_decide_eq_true h107
      refine TL.goff z z z z z z z z (TL.goff z z z z z z z z (TL.goff z z z z z z z z (TL.v z (OpVal.pickTB z z z) z z (TL.b z (.inl z) z z z (TL.goff z z z z z z z z (TL.goff z z z z z z z z (TL.goff z z z z z z z z (TL.goff z z z z z z z z (TL.goff z z z z z z z z ?_)))))))))
      refine TL.goff z z z z z z z z (TL.v z (OpVal.pickTB z z z) z z (TL.b z (.inl z) z z z (TL.goff z z z z z z z z (TL.goff z z z z z z z z (TL.goff z z z z z z z z (TL.goff' z z z z z z z (TL.goff' z z z z z z z (TL.goff' z z z z z z z (TL.goff' z z z z z z z ?_)))))))))
      refine TL.goff' z z z z z z z (TL.goff z z z z z z z z (TL.v z (OpVal.pickTB z z z) z z (TL.en (TC.cond z (fun _ => ?_) (fun h => Bool.noConfusion h)))))
      refine TC.a (TL.b z (.inr z) z z z (TL.en (TC.ret (B.r (S.r (S.r ?_))))))
      replace hh := fin_x hR1 hh
      refine B.r (S.r ?_)
      obtain rfl := so hh
      exact r1 6
     ·replace hh := iteO_f h107 hh
      replace h107 := of_decide_eq_false h107
      refine TL.gv z z z z z (OpVal.moveI (.inl z) z) z z (TL.gv z z z z z (OpVal.moveI (.inl z) z) z z (TL.gv z z z z z (OpVal.geq z z z) z z (TL.v z (OpVal.pickFB z z z) z z (TL.b z (.inl z) z z z (TL.split 31 z (fun h108 => ?_) (fun h108 => ?_))))))
      ·replace hh := iteO_t h108 hh
       replace h108 := of_decide_eq_true h108
       refine TL.goff z z z z z z z z (TL.goff z z z z z z z z (TL.goff z z z z z z z z (TL.goff z z z z z z z z (TL.goff z z z z z z z z (TL.goff z z z z z z z z (TL.v z (OpVal.pickTB z z z) z z (TL.b z (.inl z) z z z (TL.goff z z z z z z z z (TL.goff z z z z z z z z ?_)))))))))
       refine TL.goff z z z z z z z z (TL.goff' z z z z z z z (TL.goff' z z z z z z z (TL.goff' z z z z z z z (TL.goff' z z z z z z z (TL.goff' z z z z z z z (TL.goff z z z z z z z z (TL.v z (OpVal.pickTB z z z) z z (TL.en (TC.cond z (fun _ => ?_) (fun h => Bool.noConfusion h))))))))))
       refine TC.a (TL.b z (.inr z) z z z (TL.en (TC.ret (B.r (S.r (S.r ?_))))))
       replace hh := fin_x hR1 hh
       refine B.r (S.r ?_)
       obtain rfl := so hh
       exact r1 6
      ·replace hh := iteO_f h108 hh
       replace h108 := of_decide_eq_false h108
       refine TL.gv z z z z z (OpVal.moveSl (.inl z) z) z z (TL.gv z z z z z (OpVal.moveI (.inl z) z) z z ?_)
       have u30 := grd_c hh
       replace hh := grd_t hh
       refine TL.gv z z z z z (OpVal.indexN z Tryz.underlying28 sz9 z z f1_0.rv.sl (by omega)) z z (TL.gv z z z z z (OpVal.loadS1 ([] : List UInt8) z ag9 z f1_0 (by omega) z) z z (TL.gv z z z z z (OpVal.lenBs z Tryz.underlying9 z) z z (TL.gv z z z z z (OpVal.gtr z z z) z z (TL.v z (OpVal.pickFB z z z) z z (TL.b z (.inl z) z z z (TL.split 39 z (fun h109 => ?_) (fun h109 => ?_)))))))
       ·replace hh := iteO_t h109 hh
        replace h109 := of_decide_eq_true h109
        refine TL.goff z z z z z z z z (TL.goff z z z z z z z z (TL.goff z z z z z z z z (TL.goff' z z z z z z z (TL.goff' z z z z z z z (TL.goff' z z z z z z z (TL.goff' z z z z z z z (TL.goff' z z z z z z z (TL.goff z z z z z z z z (TL.v z (OpVal.pickTB z z z) z z ?_)))))))))
        refine TL.en (TC.cond z (fun _ => ?_) (fun h => Bool.noConfusion h))
        refine TC.a (TL.b z (.inr z) z z z (TL.en (TC.ret (B.r (S.r (S.r ?_))))))
        replace hh := fin_x hR1 hh
        refine B.r (S.r ?_)
        obtain rfl := so hh
        exact r1 6
       ·replace hh := iteO_f h109 hh
        replace h109 := of_decide_eq_false h109
        refine TL.gv z z z z z (OpVal.moveI (.inl z) z) z z (TL.gv z z z z z (OpVal.eql z z z) z z (TL.gv z z z z z (OpVal.moveB (.inl z) z) z z (TL.split 42 z (fun h110 => ?_) (fun h110 => ?_))))
        ·replace hh := iteO_t h110 hh
         replace h110 := of_decide_eq_true h110
         refine TL.gv z z z z z (OpVal.moveSl (.inl z) z) z z (TL.gv z z z z z (OpVal.moveI (.inl z) z) z z ?_)
         have u41 := grd_c hh
         replace hh := grd_t hh
         refine TL.gv z z z z z (OpVal.indexN z Tryz.underlying28 sz9 z z f1_0.rv.sl (by omega)) z z (TL.gv z z z z z (OpVal.loadS1 ([] : List UInt8) z ag9 z f1_0 (by omega) z) z z (TL.gv z z z z z (OpVal.neqBs z z z) z z (TL.gv z z z z z (OpVal.pickTB z z z) z z (TL.v z (OpVal.pickFB z z z) z z (TL.en (TC.cD z hh (fun h111 hh => ?_) (fun h111 hh => ?_)))))))
         ·refine TC.a (TL.b z (.inr z) z z z (TL.en (TC.ret (B.r (S.r (S.r ?_))))))
          replace hh := fin_x hR1 hh
          refine B.r (S.r ?_)
          obtain rfl := so hh
          exact r1 6
         ·exact TC.skip (B.n (S.n (cf ((), ()) hh (Sub.pre 0 z))))
        ·replace hh := iteO_f h110 hh
         replace h110 := of_decide_eq_false h110
         refine TL.goff z z z z z z z z (TL.goff z z z z z z z z (TL.goff z z z z z z z z (TL.goff z z z z z z z z (TL.goff z z z z z z z z (TL.gv z z z z z (OpVal.pickFB z z z) z z (TL.v z (OpVal.pickFB z z z) z z (TL.en (TC.cond z (fun h => Bool.noConfusion h) (fun _ => ?_)))))))))
         exact TC.skip (B.n (S.n (cf ((), ()) hh (Sub.pre 0 z))))
    ·skip
     obtain ⟨_, _⟩ := g
     have hh := hg; clear hg
     show TC _ _ _ (upds (mask _ j _) []) _ []
     dsimp only [seq_row_j1] at hh
     refine TC.region (TL.v z (OpVal.succ z z z (by omega)) z z (TL.a z (.inl z) z z z (TL.en ?_)))
     obtain ⟨hh, hlt112⟩ := nxt_x hR1 hh
     exact lf ((k105 + 1), ()) hlt112 hh (Sub.pre 0 z)
   ·refine TC.exit (S.x (S.x ?_))
    replace hh := fin_x hR1 hh
    refine TC.exitHere (S.n (TC.a (TL.b z (.inr z) z z z (TL.en (TC.ret ?_)))))
    obtain rfl := so hh
    exact r1 6

noncomputable def seq_Check_j2 (k112 : Nat) (x0 : Seq) : Option ((Nat) ⊕ (Int)) :=
 grd (k112 < x0.outs.length) (bnd (seq_row (nth x0.next k112 ([] : List Int)) (nth x0.outs k112 ([] : List (List UInt8))) ((x0.next.length : Nat) : Int)) (fun v85 => iteO (!v85) (fin (some 1)) (nxt (k112 + 1))))
noncomputable def seq_Check_b1 (x0 : Seq) (k112 : Nat) : Option ((Nat) ⊕ (Int)) :=
 iteO (decide (((k112 : Nat) : Int) < ((x0.next.length : Nat) : Int))) (grd (k112 < x0.tail.length) (iteO (decide (4096 < (((nth x0.tail k112 ([] : List UInt8)).length : Nat) : Int))) (fin (some 1)) (grd (k112 < x0.fin.length) (iteO (!(nth x0.fin k112 false)) (grd (k112 < x0.tail.length) (iteO (decide ((nth x0.tail k112 ([] : List UInt8)) ≠ ([] : List UInt8))) (fin (some 1)) (seq_Check_j2 k112 x0))) (seq_Check_j2 k112 x0))))) (fin (some 0))
noncomputable def seq_Check_j1 (x0 : Seq) : Option (Int) :=
 iter (fun q : Nat => seq_Check_b1 x0 q) 0
noncomputable def seq_Check (x0 : Seq) : Option (Int) :=
 iteO (decide (1024 < ((x0.next.length : Nat) : Int))) (some 1) (iteO (decide (((x0.outs.length : Nat) : Int) ≠ ((x0.next.length : Nat) : Int))) (some 1) (iteO (decide (((x0.fin.length : Nat) : Int) ≠ ((x0.next.length : Nat) : Int))) (some 1) (iteO (decide (((x0.tail.length : Nat) : Int) ≠ ((x0.next.length : Nat) : Int))) (some 1) (iteO (decide (4096 < ((x0.front.length : Nat) : Int))) (some 1) (iteO (decide (((x0.next.length : Nat) : Int) = 0)) (iteO (decide (x0.front ≠ ([] : List UInt8))) (some 1) (seq_Check_j1 x0)) (seq_Check_j1 x0))))))
theorem seq_Check_con {σ : Store} {x0 : Seq} {a0_0 : Option Addr} {c0_0 : Nat} {a0_1 : Option Addr} {c0_1 : Nat} {a0_2 : Option Addr} {c0_2 : Nat} {a0_3 : Option Addr} {c0_3 : Nat} (f0_0 : RZ σ (pkSl 1 Go.E.encI Go.E.encI_len) (.slice a0_0 x0.next.length c0_0) x0.next) (f0_1 : RZ σ (pkSl 1 Go.E.encS Go.E.encS_len) (.slice a0_1 x0.outs.length c0_1) x0.outs) (f0_2 : RS σ 1 encB (.slice a0_2 x0.fin.length c0_2) x0.fin) (f0_3 : RS σ 1 Go.E.encS (.slice a0_3 x0.tail.length c0_3) x0.tail) {r : Int} (hh : seq_Check x0 = some r) :
  Con Tryz.prog 44 #[.agg #[.string (bs x0.front), .slice a0_0 x0.next.length c0_0, .slice a0_1 x0.outs.length c0_1, .slice a0_2 x0.fin.length c0_2, .slice a0_3 x0.tail.length c0_3]] σ [] (PureP (.int .i64 r) σ) := by
 dsimp only [seq_Check] at hh
 have f0_0b := f0_0.big
 have f0_1b := f0_1.big
 have f0_2b := f0_2.rv.big
 have f0_3b := f0_3.rv.big
 refine Con.mk (n := 85) Tryz.func44 z z z (fun w0 => ?_)
 refine TC.a (TL.op z (OpOk.boxA z z z z (fun b101 => ?_)))
 refine TL.a z (.inr z) z z z (TL.en (TC.a (TL.v z (OpVal.fieldLoc z fo30_1 z) z z (TL.v z (OpVal.loadLoc z ag23 z (i := 0) z z) z z (TL.v z (OpVal.lenC z Tryz.underlying23 z) z z (TL.a z (.inr z) z z z (TL.en (TC.seq (TC.a ?_)))))))))
 refine TL.a z (.inl z) z z z (TL.v z (OpVal.gtr z z z) z z (TL.b z (.inl z) z z z (TL.split 10 z (fun h103 => ?_) (fun h103 => ?_))))
 ·replace hh := iteO_t h103 hh
  replace h103 := of_decide_eq_true h103
  refine TL.goff z z z z z z z z (TL.goff z z z z z z z z (TL.goff z z z z z z z z (TL.goff z z z z z z z z (TL.goff z z z z z z z z (TL.v z (OpVal.pickTB z z z) z z (TL.b z (.inl z) z z z (TL.goff z z z z z z z z (TL.goff z z z z z z z z (TL.goff z z z z z z z z ?_)))))))))
  refine TL.goff z z z z z z z z (TL.goff z z z z z z z z (TL.v z (OpVal.pickTB z z z) z z (TL.b z (.inl z) z z z (TL.goff z z z z z z z z (TL.goff z z z z z z z z (TL.goff z z z z z z z z (TL.goff z z z z z z z z (TL.goff z z z z z z z z (TL.v z (OpVal.pickTB z z z) z z ?_)))))))))
  refine TL.en (TC.cond z (fun _ => ?_) (fun h => Bool.noConfusion h))
  refine TC.a (TL.a z (.inr z) z z z (TL.en (TC.ofSub (Sub.pre 0 z) (TC.ret (S.r ?_)))))
  obtain rfl := so hh
  exact r1 2
 ·replace hh := iteO_f h103 hh
  replace h103 := of_decide_eq_false h103
  refine TL.gv z z z z z (OpVal.fieldLoc z fo30_2 z) z z (TL.gv z z z z z (OpVal.loadLoc z ag27 z (i := 0) z z) z z (TL.gv z z z z z (OpVal.lenC z Tryz.underlying27 z) z z (TL.gv z z z z z (OpVal.moveI (.inl z) z) z z (TL.gv z z z z z (OpVal.neq z z z) z z (TL.v z (OpVal.pickFB z z z) z z (TL.b z (.inl z) z z z (TL.split 17 z (fun h104 => ?_) (fun h104 => ?_))))))))
  ·replace hh := iteO_t h104 hh
   replace h104 := of_decide_eq_true h104
   refine TL.goff z z z z z z z z (TL.goff z z z z z z z z (TL.goff z z z z z z z z (TL.goff z z z z z z z z (TL.goff z z z z z z z z (TL.v z (OpVal.pickTB z z z) z z (TL.b z (.inl z) z z z (TL.goff z z z z z z z z (TL.goff z z z z z z z z (TL.goff z z z z z z z z ?_)))))))))
   refine TL.goff z z z z z z z z (TL.goff z z z z z z z z (TL.v z (OpVal.pickTB z z z) z z (TL.en (TC.cond z (fun _ => ?_) (fun h => Bool.noConfusion h)))))
   refine TC.a (TL.a z (.inr z) z z z (TL.en (TC.ofSub (Sub.pre 0 z) (TC.ret (S.r ?_)))))
   obtain rfl := so hh
   exact r1 2
  ·replace hh := iteO_f h104 hh
   replace h104 := of_decide_eq_false h104
   refine TL.gv z z z z z (OpVal.fieldLoc z fo30_3 z) z z (TL.gv z z z z z (OpVal.loadLoc z ag24 z (i := 0) z z) z z (TL.gv z z z z z (OpVal.lenC z Tryz.underlying24 z) z z (TL.gv z z z z z (OpVal.moveI (.inl z) z) z z (TL.gv z z z z z (OpVal.neq z z z) z z (TL.v z (OpVal.pickFB z z z) z z (TL.b z (.inl z) z z z (TL.split 24 z (fun h105 => ?_) (fun h105 => ?_))))))))
   ·replace hh := iteO_t h105 hh
    replace h105 := of_decide_eq_true h105
    refine TL.goff z z z z z z z z (TL.goff z z z z z z z z (TL.goff z z z z z z z z (TL.goff z z z z z z z z (TL.goff z z z z z z z z (TL.v z (OpVal.pickTB z z z) z z (TL.en (TC.cond z (fun _ => ?_) (fun h => Bool.noConfusion h))))))))
    refine TC.a (TL.a z (.inr z) z z z (TL.en (TC.ofSub (Sub.pre 0 z) (TC.ret (S.r ?_)))))
    obtain rfl := so hh
    exact r1 2
   ·replace hh := iteO_f h105 hh
    replace h105 := of_decide_eq_false h105
    refine TL.gv z z z z z (OpVal.fieldLoc z fo30_4 z) z z (TL.gv z z z z z (OpVal.loadLoc z ag28 z (i := 0) z z) z z (TL.gv z z z z z (OpVal.lenC z Tryz.underlying28 z) z z (TL.gv z z z z z (OpVal.moveI (.inl z) z) z z (TL.gv z z z z z (OpVal.neq z z z) z z (TL.v z (OpVal.pickFB z z z) z z (TL.en (TC.cD z hh (fun h106 hh => ?_) (fun h106 hh => ?_))))))))
    ·refine TC.a (TL.a z (.inr z) z z z (TL.en (TC.ofSub (Sub.pre 0 z) (TC.ret (S.r ?_)))))
     obtain rfl := so hh
     exact r1 2
    ·refine TC.skip (S.n (TC.cutG (α := (Unit) × (Unit)) [2, 31, 32, 33, 34, 35, 36, 37, 38, 39, 40, 41, 42, 43] (fun g => []) (fun g => [Res.cells b101 #[.string (bs x0.front), .slice a0_0 x0.next.length c0_0, .slice a0_1 x0.outs.length c0_1, .slice a0_2 x0.fin.length c0_2, .slice a0_3 x0.tail.length c0_3] 30]) (fun g => σ) (fun g => seq_Check_j1 x0 = some r) ?_ (fun g j hg => ?_)))
     ·skip
      refine TC.a (TL.v z (OpVal.fieldLoc z fo30_0 z) z z (TL.v z (OpVal.loadLoc z ag9 z (i := 0) z z) z z (TL.v z (OpVal.lenBs z Tryz.underlying9 z) z z (TL.v z (OpVal.gtr z z z) z z (TL.b z (.inl z) z z z (TL.split 35 z (fun h107 => ?_) (fun h107 => ?_)))))))
      ·replace hh := iteO_t h107 hh
       replace h107 := of_decide_eq_true h107
       refine TL.goff z z z z z z z z (TL.goff z z z z z z z z (TL.goff z z z z z z z z (TL.goff' z z z z z z z (TL.goff' z z z z z z z (TL.goff' z z z z z z z (TL.goff z z z z z z z z (TL.v z (OpVal.pickTB z z z) z z (TL.en (TC.cond z (fun _ => ?_) (fun h => Bool.noConfusion h))))))))))
       refine TC.a (TL.a z (.inr z) z z z (TL.en (TC.ofSub (Sub.pre 0 z) (TC.ret (S.r ?_)))))
       obtain rfl := so hh
       exact r1 2
      ·replace hh := iteO_f h107 hh
       replace h107 := of_decide_eq_false h107
       refine TL.gv z z z z z (OpVal.moveI (.inl z) z) z z (TL.gv z z z z z (OpVal.eql z z z) z z (TL.gv z z z z z (OpVal.moveB (.inl z) z) z z (TL.split 38 z (fun h108 => ?_) (fun h108 => ?_))))
       ·replace hh := iteO_t h108 hh
        replace h108 := of_decide_eq_true h108
        refine TL.gv z z z z z (OpVal.fieldLoc z fo30_0 z) z z (TL.gv z z z z z (OpVal.loadLoc z ag9 z (i := 0) z z) z z (TL.gv z z z z z (OpVal.neqBs z z z) z z (TL.gv z z z z z (OpVal.pickTB z z z) z z (TL.v z (OpVal.pickFB z z z) z z (TL.en (TC.cD z hh (fun h109 hh => ?_) (fun h109 hh => ?_)))))))
        ·refine TC.a (TL.a z (.inr z) z z z (TL.en (TC.ofSub (Sub.pre 0 z) (TC.ret (S.r ?_)))))
         obtain rfl := so hh
         exact r1 2
        ·exact TC.skip (S.n (cf ((), ()) hh (Sub.pre 1 z)))
       ·replace hh := iteO_f h108 hh
        replace h108 := of_decide_eq_false h108
        refine TL.goff z z z z z z z z (TL.goff z z z z z z z z (TL.goff z z z z z z z z (TL.gv z z z z z (OpVal.pickFB z z z) z z (TL.v z (OpVal.pickFB z z z) z z (TL.en (TC.cond z (fun h => Bool.noConfusion h) (fun _ => ?_)))))))
        exact TC.skip (S.n (cf ((), ()) hh (Sub.pre 1 z)))
     ·skip
      obtain ⟨_, _⟩ := g
      have hh := hg; clear hg
      show TC _ _ _ (upds (mask _ j _) []) _ [Res.cells b101 #[.string (bs x0.front), .slice a0_0 x0.next.length c0_0, .slice a0_1 x0.outs.length c0_1, .slice a0_2 x0.fin.length c0_2, .slice a0_3 x0.tail.length c0_3] 30]
      dsimp only [seq_Check_j1] at hh
      refine TC.seq (TC.a (TL.a z (.inl z) z z z (TL.a z (.inl z) z z z (TL.en (TC.block (TC.loopG (α := (Nat) × (Unit)) [2, 4, 45, 46, 47, 48, 49, 50, 51, 52, 53, 54, 55, 56, 57, 58, 59, 60, 61, 62, 63, 64, 65, 66, 67, 68, 69, 70, 71, 72, 73, 74, 75, 76, 77, 78, 79, 80, 81, 82, 83, 84] (fun g => [(45, .int .i64 ((g.1 : Nat) : Int))]) (fun g => [Res.cells b101 #[.string (bs x0.front), .slice a0_0 x0.next.length c0_0, .slice a0_1 x0.outs.length c0_1, .slice a0_2 x0.fin.length c0_2, .slice a0_3 x0.tail.length c0_3] 30]) (fun g => σ) (fun g => iter (fun q : Nat => seq_Check_b1 x0 q) g.1 = some r) (fun g => rounds (fun q : Nat => seq_Check_b1 x0 q) g.1) (0, ()) (Sub.pre 1 z) z (by repeat (first | exact trivial | refine ⟨z, ?_⟩)) hh (fun g1 j1 hg1 => ?_)))))))
      obtain ⟨k112, _⟩ := g1
      have hh := hg1; clear hg1
      show TC _ _ _ (upds (mask _ j1 _) [(45, .int .i64 ((k112 : Nat) : Int))]) _ [Res.cells b101 #[.string (bs x0.front), .slice a0_0 x0.next.length c0_0, .slice a0_1 x0.outs.length c0_1, .slice a0_2 x0.fin.length c0_2, .slice a0_3 x0.tail.length c0_3] 30]
      obtain ⟨z1, hh, hR1⟩ := iter_e hh
      dsimp only [seq_Check_b1] at hh
      refine TC.a (TL.v z (OpVal.lss z z z) z z (TL.en (TC.seq (TC.cD z hh (fun h113 hh => ?_) (fun h113 hh => ?_)))))
      ·refine TC.skip (S.n (TC.seq (TC.block (TC.a (TL.a z (.inl z) z z z (TL.a z (.inr z) z z z (TL.en (TC.cutG (α := (Unit) × (Unit)) [2, 48, 49, 50, 51, 52, 53, 54, 55, 56, 57, 58, 59, 60, 61, 62, 63, 64, 65, 66, 67, 68, 69, 70] (fun g => []) (fun g => [Res.cells b101 #[.string (bs x0.front), .slice a0_0 x0.next.length c0_0, .slice a0_1 x0.outs.length c0_1, .slice a0_2 x0.fin.length c0_2, .slice a0_3 x0.tail.length c0_3] 30]) (fun g => σ) (fun g => seq_Check_j2 k112 x0 = some z1) ?_ (fun g j hg => ?_)))))))))
       ·skip
        refine TC.a (TL.v z (OpVal.fieldLoc z fo30_4 z) z z (TL.v z (OpVal.loadLoc z ag28 z (i := 0) z z) z z (TL.a z (.inl z) z z z ?_)))
        have u53 := grd_c hh
        replace hh := grd_t hh
        refine TL.v z (OpVal.indexN z Tryz.underlying28 sz9 z z f0_3.rv.sl (by omega)) z z (TL.v z (OpVal.loadS1 ([] : List UInt8) z ag9 z f0_3 (by omega) z) z z (TL.v z (OpVal.lenBs z Tryz.underlying9 z) z z (TL.v z (OpVal.gtr z z z) z z (TL.b z (.inl z) z z z (TL.split 55 z (fun h114 => ?_) (fun h114 => ?_))))))
        ·replace hh := iteO_t h114 hh
         replace h114 := of_decide_eq_true h114
         refine TL.goff z z z z z z z z (TL.goff z z z z z z z z (TL.goff z z z z z z z z (TL.goff z z z z z z z z (TL.goff z z z z z z z z (TL.goff z z z z z z z z (TL.goff z z z z z z z z (TL.goff' z z z z z z z (TL.goff' z z z z z z z (TL.goff' z z z z z z z ?_)))))))))
         refine TL.goff' z z z z z z z (TL.goff' z z z z z z z (TL.goff' z z z z z z z (TL.goff z z z z z z z z (TL.v z (OpVal.pickTB z z z) z z (TL.en (TC.cond z (fun _ => ?_) (fun h => Bool.noConfusion h)))))))
         refine TC.a (TL.a z (.inr z) z z z (TL.en (TC.ofSub (Sub.pre 0 z) (TC.ret (S.r (B.r (S.r (S.r ?_))))))))
         replace hh := fin_x hR1 hh
         refine B.r (S.r ?_)
         obtain rfl := so hh
         exact r1 2
        ·replace hh := iteO_f h114 hh
         replace h114 := of_decide_eq_false h114
         refine TL.gv z z z z z (OpVal.fieldLoc z fo30_3 z) z z (TL.gv z z z z z (OpVal.loadLoc z ag24 z (i := 0) z z) z z (TL.gv z z z z z (OpVal.moveI (.inl z) z) z z ?_))
         have u61 := grd_c hh
         replace hh := grd_t hh
         refine TL.gv z z z z z (OpVal.indexN z Tryz.underlying24 sz4 z z f0_2.rv.sl (by omega)) z z (TL.gv z z z z z (OpVal.loadS1 false z ag4 z f0_2 (by omega) z) z z (TL.gv z z z z z (OpVal.not z z) z z (TL.gv z z z z z (OpVal.moveB (.inl z) z) z z (TL.split 62 z (fun h115 => ?_) (fun h115 => ?_)))))
         ·replace hh := iteO_t h115 hh
          refine TL.gv z z z z z (OpVal.fieldLoc z fo30_4 z) z z (TL.gv z z z z z (OpVal.loadLoc z ag28 z (i := 0) z z) z z (TL.gv z z z z z (OpVal.moveI (.inl z) z) z z ?_))
          have u68 := grd_c hh
          replace hh := grd_t hh
          refine TL.gv z z z z z (OpVal.indexN z Tryz.underlying28 sz9 z z f0_3.rv.sl (by omega)) z z (TL.gv z z z z z (OpVal.loadS1 ([] : List UInt8) z ag9 z f0_3 (by omega) z) z z (TL.gv z z z z z (OpVal.neqBs z z z) z z (TL.gv z z z z z (OpVal.pickTB z z z) z z (TL.v z (OpVal.pickFB z z z) z z (TL.en (TC.cD z hh (fun h116 hh => ?_) (fun h116 hh => ?_)))))))
          ·refine TC.a (TL.a z (.inr z) z z z (TL.en (TC.ofSub (Sub.pre 0 z) (TC.ret (S.r (B.r (S.r (S.r ?_))))))))
           replace hh := fin_x hR1 hh
           refine B.r (S.r ?_)
           obtain rfl := so hh
           exact r1 2
          ·exact TC.skip (S.n (cf ((), ()) hh (Sub.pre 1 z)))
         ·replace hh := iteO_f h115 hh
          refine TL.goff z z z z z z z z (TL.goff z z z z z z z z (TL.goff z z z z z z z z (TL.goff z z z z z z z z (TL.goff z z z z z z z z (TL.goff z z z z z z z z (TL.gv z z z z z (OpVal.pickFB z z z) z z (TL.v z (OpVal.pickFB z z z) z z (TL.en (TC.cond z (fun h => Bool.noConfusion h) (fun _ => ?_))))))))))
          exact TC.skip (S.n (cf ((), ()) hh (Sub.pre 1 z)))
       ·skip
        obtain ⟨_, _⟩ := g
        have hh := hg; clear hg
        show TC _ _ _ (upds (mask _ j _) []) _ [Res.cells b101 #[.string (bs x0.front), .slice a0_0 x0.next.length c0_0, .slice a0_1 x0.outs.length c0_1, .slice a0_2 x0.fin.length c0_2, .slice a0_3 x0.tail.length c0_3] 30]
        dsimp only [seq_Check_j2] at hh
        refine TC.seq ?_
        have u82 := grd_c hh
        replace hh := grd_t hh
        obtain ⟨v85, u85, hh⟩ := bnd_e hh
        refine TC.draw [] (by kernel_rfl) (TA.a 0 z (OpVal.fieldLoc z fo30_1 z) z (TA.b 1 z (OpVal.loadLoc z ag23 z (i := 0) z z) z (TA.a 2 z (OpVal.moveI (.inl z) z) z (TA.b 3 z (OpVal.indexN z Tryz.underlying23 sz22 z z f0_0.isSl (by omega)) z ?_))))
        obtain ⟨p119, hk119, hg119⟩ := RZ.seg f0_0 k112 (by omega)
        replace hk119 : RS _ 1 Go.E.encI (.slice p119.1 (nth x0.next k112 ([] : List Int)).length p119.2) (nth x0.next k112 ([] : List Int)) := hk119
        have hk119b := hk119.rv.big
        refine TA.b 4 z (OpVal.of (OpVal.loadSeg0 z ag22 z hg119 z) (v' := .slice p119.1 ((nth x0.next k112 ([] : List Int)).length) p119.2) z) z (TA.a 5 z (OpVal.fieldLoc z fo30_2 z) z (TA.b 6 z (OpVal.loadLoc z ag27 z (i := 0) z z) z (TA.a 7 z (OpVal.moveI (.inl z) z) z (TA.b 8 z (OpVal.indexN z Tryz.underlying27 sz28 z z f0_1.isSl (by omega)) z ?_))))
        obtain ⟨p120, hk120, hg120⟩ := RZ.seg f0_1 k112 (by omega)
        replace hk120 : RS _ 1 Go.E.encS (.slice p120.1 (nth x0.outs k112 ([] : List (List UInt8))).length p120.2) (nth x0.outs k112 ([] : List (List UInt8))) := hk120
        have hk120b := hk120.rv.big
        refine TA.b 9 z (OpVal.of (OpVal.loadSeg0 z ag28 z hg120 z) (v' := .slice p120.1 ((nth x0.outs k112 ([] : List (List UInt8))).length) p120.2) z) z (TA.a 10 z (OpVal.moveI (.inl z) z) z (TA.ac 11 z (OpOk.callP (seq_row_con hk119 hk120 u85) z z pf87 z z z (k0 ?_))))
        refine TA.a 12 z (OpVal.not z z) z (TA.dn (S.n (TC.cB z hh (fun h121 hh => ?_) (fun h121 hh => ?_))))
        ·refine TC.a (TL.a z (.inr z) z z z (TL.en (TC.ofSub (Sub.pre 0 z) (TC.ret (B.r (S.r (S.r ?_)))))))
         replace hh := fin_x hR1 hh
         refine B.r (S.r ?_)
         obtain rfl := so hh
         exact r1 2
        ·refine TC.skip (B.n (S.n (TC.region (TL.v z (OpVal.succ z z z (by omega)) z z (TL.a z (.inl z) z z z (TL.en ?_))))))
         obtain ⟨hh, hlt122⟩ := nxt_x hR1 hh
         exact lf ((k112 + 1), ()) hlt122 hh (Sub.pre 1 z)
      ·refine TC.exit (S.x (S.x ?_))
       replace hh := fin_x hR1 hh
       refine TC.exitHere (S.n (TC.a (TL.a z (.inr z) z z z (TL.en (TC.ofSub (Sub.pre 0 z) (TC.ret ?_))))))
       obtain rfl := so hh
       exact r1 2

noncomputable def rewrite_Check_b1 (x0 : Rule) (k113 : Nat) : Option ((Nat) ⊕ (Int)) :=
 iteO (decide (((k113 : Nat) : Int) < (([x0.of, x0.left, x0.right].length : Nat) : Int))) (bnd (dfa_Check (nth [x0.of, x0.left, x0.right] k113 Dfa.zero)) (fun v18 => iteO (decide (v18 ≠ 0)) (fin (some 1)) (nxt (k113 + 1)))) (fin (iteO x0.mapped (bnd (seq_Check x0.by') (fun v27 => iteO (decide (v27 ≠ 0)) (some 1) (iteO (decide (x0.out ≠ ([] : List UInt8))) (some 1) (some 0)))) (iteO (decide (x0.by'.front ≠ ([] : List UInt8))) (some 1) (iteO (decide (0 < ((x0.by'.next.length : Nat) : Int))) (some 1) (iteO (decide (0 < ((x0.by'.outs.length : Nat) : Int))) (some 1) (iteO (decide (0 < ((x0.by'.fin.length : Nat) : Int))) (some 1) (iteO (decide (0 < ((x0.by'.tail.length : Nat) : Int))) (some 1) (iteO (decide (256 < ((x0.out.length : Nat) : Int))) (some 1) (some 0)))))))))
noncomputable def rewrite_Check (x0 : Rule) : Option (Int) :=
 iter (fun q : Nat => rewrite_Check_b1 x0 q) 0
theorem rewrite_Check_con {σ : Store} {x0 : Rule} {a0_0 : Option Addr} {c0_0 : Nat} {a0_1 : Option Addr} {c0_1 : Nat} {a0_2 : Option Addr} {c0_2 : Nat} {a0_3 : Option Addr} {c0_3 : Nat} {a0_4 : Option Addr} {c0_4 : Nat} {a0_5 : Option Addr} {c0_5 : Nat} {a0_6 : Option Addr} {c0_6 : Nat} {a0_7 : Option Addr} {c0_7 : Nat} {a0_8 : Option Addr} {c0_8 : Nat} {a0_9 : Option Addr} {c0_9 : Nat} {a0_10 : Option Addr} {c0_10 : Nat} {a0_11 : Option Addr} {c0_11 : Nat} {a0_12 : Option Addr} {c0_12 : Nat} (f0_0 : RS σ 1 Go.E.encI (.slice a0_0 x0.of.cls.length c0_0) x0.of.cls) (f0_1 : RZ σ (pkSl 1 Go.E.encI Go.E.encI_len) (.slice a0_1 x0.of.next.length c0_1) x0.of.next) (f0_2 : RS σ 1 encB (.slice a0_2 x0.of.fin.length c0_2) x0.of.fin) (f0_3 : RS σ 1 Go.E.encI (.slice a0_3 x0.left.cls.length c0_3) x0.left.cls) (f0_4 : RZ σ (pkSl 1 Go.E.encI Go.E.encI_len) (.slice a0_4 x0.left.next.length c0_4) x0.left.next) (f0_5 : RS σ 1 encB (.slice a0_5 x0.left.fin.length c0_5) x0.left.fin) (f0_6 : RS σ 1 Go.E.encI (.slice a0_6 x0.right.cls.length c0_6) x0.right.cls) (f0_7 : RZ σ (pkSl 1 Go.E.encI Go.E.encI_len) (.slice a0_7 x0.right.next.length c0_7) x0.right.next) (f0_8 : RS σ 1 encB (.slice a0_8 x0.right.fin.length c0_8) x0.right.fin) (f0_9 : RZ σ (pkSl 1 Go.E.encI Go.E.encI_len) (.slice a0_9 x0.by'.next.length c0_9) x0.by'.next) (f0_10 : RZ σ (pkSl 1 Go.E.encS Go.E.encS_len) (.slice a0_10 x0.by'.outs.length c0_10) x0.by'.outs) (f0_11 : RS σ 1 encB (.slice a0_11 x0.by'.fin.length c0_11) x0.by'.fin) (f0_12 : RS σ 1 Go.E.encS (.slice a0_12 x0.by'.tail.length c0_12) x0.by'.tail) {r : Int} (hh : rewrite_Check x0 = some r) :
  Con Tryz.prog 13 #[.agg #[.slice a0_0 x0.of.cls.length c0_0, .slice a0_1 x0.of.next.length c0_1, .slice a0_2 x0.of.fin.length c0_2, .slice a0_3 x0.left.cls.length c0_3, .slice a0_4 x0.left.next.length c0_4, .slice a0_5 x0.left.fin.length c0_5, .slice a0_6 x0.right.cls.length c0_6, .slice a0_7 x0.right.next.length c0_7, .slice a0_8 x0.right.fin.length c0_8, .string (bs x0.out), .bool x0.mapped, .string (bs x0.by'.front), .slice a0_9 x0.by'.next.length c0_9, .slice a0_10 x0.by'.outs.length c0_10, .slice a0_11 x0.by'.fin.length c0_11, .slice a0_12 x0.by'.tail.length c0_12]] σ [] (PureP (.int .i64 r) σ) := by
 dsimp only [rewrite_Check] at hh
 have f0_0b := f0_0.rv.big
 have f0_1b := f0_1.big
 have f0_2b := f0_2.rv.big
 have f0_3b := f0_3.rv.big
 have f0_4b := f0_4.big
 have f0_5b := f0_5.rv.big
 have f0_6b := f0_6.rv.big
 have f0_7b := f0_7.big
 have f0_8b := f0_8.rv.big
 have f0_9b := f0_9.big
 have f0_10b := f0_10.big
 have f0_11b := f0_11.rv.big
 have f0_12b := f0_12.rv.big
 refine Con.mk (n := 66) Tryz.func13 z z z (fun w0 => ?_)
 refine TC.a (TL.op z (OpOk.boxA z z z z (fun b101 => ?_)))
 refine TL.a z (.inr z) z z z (TL.en (TC.seq (TC.a (TL.v z (OpVal.fieldLoc z fo32_0 z) z z (TL.v z (OpVal.loadLocA z ag26 sz26 z (i := 0) z z z) z z (TL.v z (OpVal.fieldLoc z fo32_1 z) z z (TL.v z (OpVal.loadLocA z ag26 sz26 z (i := 0) z z z) z z (TL.v z (OpVal.fieldLoc z fo32_2 z) z z (TL.v z (OpVal.loadLocA z ag26 sz26 z (i := 0) z z z) z z ?_)))))))))
 have zf105 : ZOk _ pkDfa ([(x0.of, ⟨a0_0, c0_0, a0_1, c0_1, a0_2, c0_2⟩), (x0.left, ⟨a0_3, c0_3, a0_4, c0_4, a0_5, c0_5⟩), (x0.right, ⟨a0_6, c0_6, a0_7, c0_7, a0_8, c0_8⟩)] : List (Dfa × pkDfa.P)) [x0.of, x0.left, x0.right] := ZOk.cons (⟨f0_0, f0_1, f0_2⟩) (ZOk.cons (⟨f0_3, f0_4, f0_5⟩) (ZOk.cons (⟨f0_6, f0_7, f0_8⟩) (ZOk.nil _ _)))
 refine TL.op z (OpOk.litZ zf105 z Tryz.underlying91 sz26 z ze26 z z z (by decide) (by decide) z (by decide) z (by decide) (fun a103 c104 => ?_))
 refine TL.v z (OpVal.lenC z Tryz.underlying91 z) z z (TL.a z (.inl z) z z z (TL.en (TC.block (TC.loopG (α := (Nat) × (Store)) [2, 4, 14, 15, 16, 17, 18, 19, 20, 21] (fun g => [(14, .int .i64 ((g.1 : Nat) : Int))]) (fun g => [Res.cells b101 #[.slice a0_0 x0.of.cls.length c0_0, .slice a0_1 x0.of.next.length c0_1, .slice a0_2 x0.of.fin.length c0_2, .slice a0_3 x0.left.cls.length c0_3, .slice a0_4 x0.left.next.length c0_4, .slice a0_5 x0.left.fin.length c0_5, .slice a0_6 x0.right.cls.length c0_6, .slice a0_7 x0.right.next.length c0_7, .slice a0_8 x0.right.fin.length c0_8, .string (bs x0.out), .bool x0.mapped, .string (bs x0.by'.front), .slice a0_9 x0.by'.next.length c0_9, .slice a0_10 x0.by'.outs.length c0_10, .slice a0_11 x0.by'.fin.length c0_11, .slice a0_12 x0.by'.tail.length c0_12] 32, Res.rowS 26 3 pkDfa.en (.slice a103 [x0.of, x0.left, x0.right].length c104) ([(x0.of, ⟨a0_0, c0_0, a0_1, c0_1, a0_2, c0_2⟩), (x0.left, ⟨a0_3, c0_3, a0_4, c0_4, a0_5, c0_5⟩), (x0.right, ⟨a0_6, c0_6, a0_7, c0_7, a0_8, c0_8⟩)] : List (Dfa × pkDfa.P))]) (fun g => g.2) (fun g => iter (fun q : Nat => rewrite_Check_b1 x0 q) g.1 = some r ∧ ZOk g.2 pkDfa ([(x0.of, ⟨a0_0, c0_0, a0_1, c0_1, a0_2, c0_2⟩), (x0.left, ⟨a0_3, c0_3, a0_4, c0_4, a0_5, c0_5⟩), (x0.right, ⟨a0_6, c0_6, a0_7, c0_7, a0_8, c0_8⟩)] : List (Dfa × pkDfa.P)) [x0.of, x0.left, x0.right] ∧ Store.le σ g.2) (fun g => rounds (fun q : Nat => rewrite_Check_b1 x0 q) g.1) (0, σ) (Sub.f [1] 2) z (by repeat (first | exact trivial | refine ⟨z, ?_⟩)) ⟨hh, zf105, (Store.le.refl _)⟩ (fun g1 j1 hg1 => ?_)))))
 obtain ⟨k113, τ114⟩ := g1
 obtain ⟨hh, zf112, hle115⟩ := hg1
 try dsimp only at zf112
 dsimp only at hle115
 replace f0_0 := f0_0.mono hle115
 replace f0_1 := f0_1.mono hle115
 replace f0_2 := f0_2.mono hle115
 replace f0_3 := f0_3.mono hle115
 replace f0_4 := f0_4.mono hle115
 replace f0_5 := f0_5.mono hle115
 replace f0_6 := f0_6.mono hle115
 replace f0_7 := f0_7.mono hle115
 replace f0_8 := f0_8.mono hle115
 replace f0_9 := f0_9.mono hle115
 replace f0_10 := f0_10.mono hle115
 replace f0_11 := f0_11.mono hle115
 replace f0_12 := f0_12.mono hle115
 replace zf105 := zf105.mono hle115
 show TC _ _ _ (upds (mask _ j1 _) [(14, .int .i64 ((k113 : Nat) : Int))]) τ114 [Res.cells b101 #[.slice a0_0 x0.of.cls.length c0_0, .slice a0_1 x0.of.next.length c0_1, .slice a0_2 x0.of.fin.length c0_2, .slice a0_3 x0.left.cls.length c0_3, .slice a0_4 x0.left.next.length c0_4, .slice a0_5 x0.left.fin.length c0_5, .slice a0_6 x0.right.cls.length c0_6, .slice a0_7 x0.right.next.length c0_7, .slice a0_8 x0.right.fin.length c0_8, .string (bs x0.out), .bool x0.mapped, .string (bs x0.by'.front), .slice a0_9 x0.by'.next.length c0_9, .slice a0_10 x0.by'.outs.length c0_10, .slice a0_11 x0.by'.fin.length c0_11, .slice a0_12 x0.by'.tail.length c0_12] 32, Res.rowS 26 3 pkDfa.en (.slice a103 [x0.of, x0.left, x0.right].length c104) ([(x0.of, ⟨a0_0, c0_0, a0_1, c0_1, a0_2, c0_2⟩), (x0.left, ⟨a0_3, c0_3, a0_4, c0_4, a0_5, c0_5⟩), (x0.right, ⟨a0_6, c0_6, a0_7, c0_7, a0_8, c0_8⟩)] : List (Dfa × pkDfa.P))]
 obtain ⟨z1, hh, hR1⟩ := iter_e hh
 dsimp only [rewrite_Check_b1] at hh
 have zf112b := zf112.length
 refine TC.isSl (i := 1) z (fun _ hb116 _ => ?_)
 refine TC.a (TL.v z (OpVal.lss z z z) z z (TL.en (TC.seq (TC.cD z hh (fun h117 hh => ?_) (fun h117 hh => ?_)))))
 ·refine TC.skip (S.n (TC.seq (TC.block (TC.a (TL.isSl (i := 1) z (fun hs118 _ _ => ?_))))))
  refine TL.v z (OpVal.indexN z Tryz.underlying91 sz26 z z (zf112.isSl hs118) (by omega)) z z ?_
  obtain ⟨p119, hp119⟩ : ∃ p, p = (nth ([(x0.of, ⟨a0_0, c0_0, a0_1, c0_1, a0_2, c0_2⟩), (x0.left, ⟨a0_3, c0_3, a0_4, c0_4, a0_5, c0_5⟩), (x0.right, ⟨a0_6, c0_6, a0_7, c0_7, a0_8, c0_8⟩)] : List (Dfa × pkDfa.P)) k113 (pkDfa.d, pkDfa.dp)).2 := ⟨_, rfl⟩
  have hk119 : RDfa τ114 (nth [x0.of, x0.left, x0.right] k113 Dfa.zero) p119 := by rw [hp119]; exact (zf112.at (by omega)).2
  refine TL.v z ((hp119 ▸ OpVal.loadOZA zf112 z ag26 sz26 z (by decide) z (q := 1) z (by omega))) z z (TL.op z (OpOk.alloc z ze26 z z (fun b120 => ?_)))
  refine TL.op z (OpOk.storeAll z sz26 z z z z z z ?_)
  refine TL.en (TC.a (TL.v z (OpVal.loadAll z ag26 sz26 z (i := 0) z z) z z ?_))
  obtain ⟨v18, u18, hh⟩ := bnd_e hh
  refine TL.op z (OpOk.callP (dfa_Check_con (x0 := (nth [x0.of, x0.left, x0.right] k113 Dfa.zero)) hk119.c hk119.n hk119.e u18) z z pf43 z z z ?_)
  refine TL.v z (OpVal.neq z z z) z z (TL.en (TC.cD z hh (fun h122 hh => ?_) (fun h122 hh => ?_)))
  ·refine TC.a (TL.a z (.inr z) z z z (TL.en (TC.ofSub (Sub.pre 0 z) (TC.back (TC.ret (B.r (S.r (S.r ?_))))))))
   replace hh := fin_x hR1 hh
   refine B.r (S.r ?_)
   obtain rfl := so hh
   exact r1 2
  ·refine TC.skip (B.n (S.n (TC.region (TL.v z (OpVal.succ z z z (by omega)) z z (TL.a z (.inl z) z z z (TL.en ?_))))))
   obtain ⟨hh, hlt123⟩ := nxt_x hR1 hh
   exact lf ((k113 + 1), τ114) hlt123 ⟨hh, zf112, hle115⟩ (Sub.f [2, 2] 2)
 ·refine TC.exit (S.x (S.x ?_))
  replace hh := fin_x hR1 hh
  refine TC.exitHere (S.n (TC.seq (TC.a (TL.v z (OpVal.fieldLoc z fo32_4 z) z z (TL.v z (OpVal.loadLoc z ag4 z (i := 0) z z) z z (TL.en (TC.cB z hh (fun h124 hh => ?_) (fun h124 hh => ?_))))))))
  ·refine TC.seq (TC.a (TL.v z (OpVal.fieldLoc z fo32_5 z) z z (TL.v z (OpVal.loadLocA z ag30 sz30 z (i := 0) z z z) z z ?_)))
   obtain ⟨v27, u27, hh⟩ := bnd_e hh
   refine TL.op z (OpOk.callP (seq_Check_con (x0 := x0.by') f0_9 f0_10 f0_11 f0_12 u27) z z pf44 z z z ?_)
   refine TL.v z (OpVal.neq z z z) z z (TL.b z (.inl z) z z z (TL.split 28 z (fun h125 => ?_) (fun h125 => ?_)))
   ·replace hh := iteO_t h125 hh
    replace h125 := of_decide_eq_true h125
    refine TL.goff z z z z z z z z (TL.goff z z z z z z z z (TL.goff z z z z z z z z (TL.v z (OpVal.pickTB z z z) z z (TL.en (TC.cond z (fun _ => ?_) (fun h => Bool.noConfusion h))))))
    refine TC.a (TL.a z (.inr z) z z z (TL.en (TC.ofSub (Sub.pre 0 z) (TC.back (TC.ret (S.r (S.r ?_)))))))
    obtain rfl := so hh
    exact r1 2
   ·replace hh := iteO_f h125 hh
    replace h125 := of_decide_eq_false h125
    refine TL.gv z z z z z (OpVal.fieldLoc z fo32_3 z) z z (TL.gv z z z z z (OpVal.loadLoc z ag9 z (i := 0) z z) z z (TL.gv z z z z z (OpVal.neqBs z z z) z z (TL.v z (OpVal.pickFB z z z) z z (TL.en (TC.cD z hh (fun h126 hh => ?_) (fun h126 hh => ?_))))))
    ·refine TC.a (TL.a z (.inr z) z z z (TL.en (TC.ofSub (Sub.pre 0 z) (TC.back (TC.ret (S.r (S.r ?_)))))))
     obtain rfl := so hh
     exact r1 2
    ·refine TC.skip (S.n (TC.a (TL.a z (.inr z) z z z (TL.en (TC.ofSub (Sub.pre 0 z) (TC.back (TC.ret (S.r ?_))))))))
     obtain rfl := so hh
     exact r1 2
  ·refine TC.skip (S.n (TC.a (TL.v z (OpVal.fieldLoc z fo32_5 z) z z (TL.v z (OpVal.loadLocA z ag30 sz30 z (i := 0) z z z) z z (TL.op z (OpOk.alloc z ze30 z z (fun b127 => ?_)))))))
   refine TL.op z (OpOk.storeAll z sz30 z z z z z z ?_)
   refine TL.en (TC.seq (TC.a (TL.v z (OpVal.fieldLoc z fo30_0 z) z z (TL.v z (OpVal.loadLoc z ag9 z (i := 0) z z) z z (TL.v z (OpVal.neqBs z z z) z z (TL.b z (.inl z) z z z (TL.split 38 z (fun h129 => ?_) (fun h129 => ?_))))))))
   ·replace hh := iteO_t h129 hh
    replace h129 := of_decide_eq_true h129
    refine TL.goff z z z z z z z z (TL.goff z z z z z z z z (TL.goff z z z z z z z z (TL.goff z z z z z z z z (TL.v z (OpVal.pickTB z z z) z z (TL.b z (.inl z) z z z (TL.goff z z z z z z z z (TL.goff z z z z z z z z (TL.goff z z z z z z z z (TL.goff z z z z z z z z ?_)))))))))
    refine TL.v z (OpVal.pickTB z z z) z z (TL.b z (.inl z) z z z (TL.goff z z z z z z z z (TL.goff z z z z z z z z (TL.goff z z z z z z z z (TL.goff z z z z z z z z (TL.v z (OpVal.pickTB z z z) z z (TL.b z (.inl z) z z z (TL.goff z z z z z z z z (TL.goff z z z z z z z z ?_)))))))))
    refine TL.goff z z z z z z z z (TL.goff z z z z z z z z (TL.v z (OpVal.pickTB z z z) z z (TL.en (TC.cond z (fun _ => ?_) (fun h => Bool.noConfusion h)))))
    refine TC.a (TL.a z (.inr z) z z z (TL.en (TC.ofSub (Sub.pre 0 z) (TC.back (TC.ret (S.r ?_))))))
    obtain rfl := so hh
    exact r1 2
   ·replace hh := iteO_f h129 hh
    replace h129 := of_decide_eq_false h129
    refine TL.gv z z z z z (OpVal.fieldLoc z fo30_1 z) z z (TL.gv z z z z z (OpVal.loadLoc z ag23 z (i := 0) z z) z z (TL.gv z z z z z (OpVal.lenC z Tryz.underlying23 z) z z (TL.gv z z z z z (OpVal.gtr z z z) z z (TL.v z (OpVal.pickFB z z z) z z (TL.b z (.inl z) z z z (TL.split 44 z (fun h130 => ?_) (fun h130 => ?_)))))))
    ·replace hh := iteO_t h130 hh
     replace h130 := of_decide_eq_true h130
     refine TL.goff z z z z z z z z (TL.goff z z z z z z z z (TL.goff z z z z z z z z (TL.goff z z z z z z z z (TL.v z (OpVal.pickTB z z z) z z (TL.b z (.inl z) z z z (TL.goff z z z z z z z z (TL.goff z z z z z z z z (TL.goff z z z z z z z z (TL.goff z z z z z z z z ?_)))))))))
     refine TL.v z (OpVal.pickTB z z z) z z (TL.b z (.inl z) z z z (TL.goff z z z z z z z z (TL.goff z z z z z z z z (TL.goff z z z z z z z z (TL.goff z z z z z z z z (TL.v z (OpVal.pickTB z z z) z z (TL.en (TC.cond z (fun _ => ?_) (fun h => Bool.noConfusion h)))))))))
     refine TC.a (TL.a z (.inr z) z z z (TL.en (TC.ofSub (Sub.pre 0 z) (TC.back (TC.ret (S.r ?_))))))
     obtain rfl := so hh
     exact r1 2
    ·replace hh := iteO_f h130 hh
     replace h130 := of_decide_eq_false h130
     refine TL.gv z z z z z (OpVal.fieldLoc z fo30_2 z) z z (TL.gv z z z z z (OpVal.loadLoc z ag27 z (i := 0) z z) z z (TL.gv z z z z z (OpVal.lenC z Tryz.underlying27 z) z z (TL.gv z z z z z (OpVal.gtr z z z) z z (TL.v z (OpVal.pickFB z z z) z z (TL.b z (.inl z) z z z (TL.split 50 z (fun h131 => ?_) (fun h131 => ?_)))))))
     ·replace hh := iteO_t h131 hh
      replace h131 := of_decide_eq_true h131
      refine TL.goff z z z z z z z z (TL.goff z z z z z z z z (TL.goff z z z z z z z z (TL.goff z z z z z z z z (TL.v z (OpVal.pickTB z z z) z z (TL.b z (.inl z) z z z (TL.goff z z z z z z z z (TL.goff z z z z z z z z (TL.goff z z z z z z z z (TL.goff z z z z z z z z ?_)))))))))
      refine TL.v z (OpVal.pickTB z z z) z z (TL.en (TC.cond z (fun _ => ?_) (fun h => Bool.noConfusion h)))
      refine TC.a (TL.a z (.inr z) z z z (TL.en (TC.ofSub (Sub.pre 0 z) (TC.back (TC.ret (S.r ?_))))))
      obtain rfl := so hh
      exact r1 2
     ·replace hh := iteO_f h131 hh
      replace h131 := of_decide_eq_false h131
      refine TL.gv z z z z z (OpVal.fieldLoc z fo30_3 z) z z (TL.gv z z z z z (OpVal.loadLoc z ag24 z (i := 0) z z) z z (TL.gv z z z z z (OpVal.lenC z Tryz.underlying24 z) z z (TL.gv z z z z z (OpVal.gtr z z z) z z (TL.v z (OpVal.pickFB z z z) z z (TL.b z (.inl z) z z z (TL.split 56 z (fun h132 => ?_) (fun h132 => ?_)))))))
      ·replace hh := iteO_t h132 hh
       replace h132 := of_decide_eq_true h132
       refine TL.goff z z z z z z z z (TL.goff z z z z z z z z (TL.goff z z z z z z z z (TL.goff z z z z z z z z (TL.v z (OpVal.pickTB z z z) z z (TL.en (TC.cond z (fun _ => ?_) (fun h => Bool.noConfusion h)))))))
       refine TC.a (TL.a z (.inr z) z z z (TL.en (TC.ofSub (Sub.pre 0 z) (TC.back (TC.ret (S.r ?_))))))
       obtain rfl := so hh
       exact r1 2
      ·replace hh := iteO_f h132 hh
       replace h132 := of_decide_eq_false h132
       refine TL.gv z z z z z (OpVal.fieldLoc z fo30_4 z) z z (TL.gv z z z z z (OpVal.loadLoc z ag28 z (i := 0) z z) z z (TL.gv z z z z z (OpVal.lenC z Tryz.underlying28 z) z z (TL.gv z z z z z (OpVal.gtr z z z) z z (TL.v z (OpVal.pickFB z z z) z z (TL.en (TC.cD z hh (fun h133 hh => ?_) (fun h133 hh => ?_)))))))
       ·refine TC.a (TL.a z (.inr z) z z z (TL.en (TC.ofSub (Sub.pre 0 z) (TC.back (TC.ret (S.r ?_))))))
        obtain rfl := so hh
        exact r1 2
       ·refine TC.skip (S.n (TC.seq (TC.a (TL.v z (OpVal.fieldLoc z fo32_3 z) z z (TL.v z (OpVal.loadLoc z ag9 z (i := 1) z z) z z (TL.v z (OpVal.lenBs z Tryz.underlying9 z) z z (TL.v z (OpVal.gtr z z z) z z (TL.en (TC.cD z hh (fun h134 hh => ?_) (fun h134 hh => ?_))))))))))
        ·refine TC.a (TL.a z (.inr z) z z z (TL.en (TC.ofSub (Sub.pre 0 z) (TC.back (TC.ret (S.r ?_))))))
         obtain rfl := so hh
         exact r1 2
        ·refine TC.skip (S.n (TC.a (TL.a z (.inr z) z z z (TL.en (TC.ofSub (Sub.pre 0 z) (TC.back (TC.ret ?_)))))))
         obtain rfl := so hh
         exact r1 2

noncomputable def whittleref21_Few_b2 (x0 : Seq) (k108 : Nat) (i116 : Int) (k117 : Nat) : Option ((Int × Nat) ⊕ ((Nat) ⊕ (Bool))) :=
 iteO (decide (((k117 : Nat) : Int) < (((nth x0.outs k108 ([] : List (List UInt8))).length : Nat) : Int))) (nxt ((IntKind.i64.wrap (i116 + (((nth (nth x0.outs k108 ([] : List (List UInt8))) k117 ([] : List UInt8)).length : Nat) : Int))), (k117 + 1))) (fin (iteO (decide (20000 < i116)) (fin (some false)) (nxt (k108 + 1))))
noncomputable def whittleref21_Few_b1 (x0 : Seq) (k108 : Nat) : Option ((Nat) ⊕ (Bool)) :=
 iteO (decide (((k108 : Nat) : Int) < ((x0.outs.length : Nat) : Int))) (iteO (decide (300 < (((nth x0.outs k108 ([] : List (List UInt8))).length : Nat) : Int))) (fin (some false)) (iter (fun q : Int × Nat => whittleref21_Few_b2 x0 k108 q.1 q.2) (0, 0))) (fin (some true))
noncomputable def whittleref21_Few (x0 : Seq) : Option (Bool) :=
 iteO (decide (12 < ((x0.next.length : Nat) : Int))) (some false) (iteO (decide (13 < ((x0.outs.length : Nat) : Int))) (some false) (iteO (decide (5000 < ((x0.front.length : Nat) : Int))) (some false) (iter (fun q : Nat => whittleref21_Few_b1 x0 q) 0)))
theorem whittleref21_Few_con {σ : Store} {x0 : Seq} {a0_0 : Option Addr} {c0_0 : Nat} {a0_1 : Option Addr} {c0_1 : Nat} {a0_2 : Option Addr} {c0_2 : Nat} {a0_3 : Option Addr} {c0_3 : Nat} (f0_0 : RZ σ (pkSl 1 Go.E.encI Go.E.encI_len) (.slice a0_0 x0.next.length c0_0) x0.next) (f0_1 : RZ σ (pkSl 1 Go.E.encS Go.E.encS_len) (.slice a0_1 x0.outs.length c0_1) x0.outs) (f0_2 : RS σ 1 encB (.slice a0_2 x0.fin.length c0_2) x0.fin) (f0_3 : RS σ 1 Go.E.encS (.slice a0_3 x0.tail.length c0_3) x0.tail) {r : Bool} (hh : whittleref21_Few x0 = some r) :
  Con Tryz.prog 26 #[.agg #[.string (bs x0.front), .slice a0_0 x0.next.length c0_0, .slice a0_1 x0.outs.length c0_1, .slice a0_2 x0.fin.length c0_2, .slice a0_3 x0.tail.length c0_3]] σ [] (PureP (.bool r) σ) := by
 dsimp only [whittleref21_Few] at hh
 have f0_0b := f0_0.big
 have f0_1b := f0_1.big
 have f0_2b := f0_2.rv.big
 have f0_3b := f0_3.rv.big
 refine Con.mk (n := 59) Tryz.func26 z z z (fun w0 => ?_)
 refine TC.a (TL.op z (OpOk.boxA z z z z (fun b101 => ?_)))
 refine TL.b z (.inr z) z z z (TL.en (TC.seq (TC.a (TL.v z (OpVal.fieldLoc z fo30_1 z) z z (TL.v z (OpVal.loadLoc z ag23 z (i := 0) z z) z z (TL.v z (OpVal.lenC z Tryz.underlying23 z) z z (TL.v z (OpVal.gtr z z z) z z (TL.b z (.inl z) z z z (TL.split 10 z (fun h103 => ?_) (fun h103 => ?_))))))))))
 ·replace hh := iteO_t h103 hh
  replace h103 := of_decide_eq_true h103
  refine TL.goff z z z z z z z z (TL.goff z z z z z z z z (TL.goff z z z z z z z z (TL.goff z z z z z z z z (TL.v z (OpVal.pickTB z z z) z z (TL.b z (.inl z) z z z (TL.goff z z z z z z z z (TL.goff z z z z z z z z (TL.goff z z z z z z z z (TL.goff z z z z z z z z ?_)))))))))
  refine TL.v z (OpVal.pickTB z z z) z z (TL.en (TC.cond z (fun _ => ?_) (fun h => Bool.noConfusion h)))
  refine TC.a (TL.b z (.inr z) z z z (TL.en (TC.ofSub (Sub.pre 0 z) (TC.ret (S.r ?_)))))
  obtain rfl := so hh
  exact r1 2
 ·replace hh := iteO_f h103 hh
  replace h103 := of_decide_eq_false h103
  refine TL.gv z z z z z (OpVal.fieldLoc z fo30_2 z) z z (TL.gv z z z z z (OpVal.loadLoc z ag27 z (i := 0) z z) z z (TL.gv z z z z z (OpVal.lenC z Tryz.underlying27 z) z z (TL.gv z z z z z (OpVal.gtr z z z) z z (TL.v z (OpVal.pickFB z z z) z z (TL.b z (.inl z) z z z (TL.split 16 z (fun h104 => ?_) (fun h104 => ?_)))))))
  ·replace hh := iteO_t h104 hh
   replace h104 := of_decide_eq_true h104
   refine TL.goff z z z z z z z z (TL.goff z z z z z z z z (TL.goff z z z z z z z z (TL.goff z z z z z z z z (TL.v z (OpVal.pickTB z z z) z z (TL.en (TC.cond z (fun _ => ?_) (fun h => Bool.noConfusion h)))))))
   refine TC.a (TL.b z (.inr z) z z z (TL.en (TC.ofSub (Sub.pre 0 z) (TC.ret (S.r ?_)))))
   obtain rfl := so hh
   exact r1 2
  ·replace hh := iteO_f h104 hh
   replace h104 := of_decide_eq_false h104
   refine TL.gv z z z z z (OpVal.fieldLoc z fo30_0 z) z z (TL.gv z z z z z (OpVal.loadLoc z ag9 z (i := 0) z z) z z (TL.gv z z z z z (OpVal.lenBs z Tryz.underlying9 z) z z (TL.gv z z z z z (OpVal.gtr z z z) z z (TL.v z (OpVal.pickFB z z z) z z (TL.en (TC.cD z hh (fun h105 hh => ?_) (fun h105 hh => ?_)))))))
   ·refine TC.a (TL.b z (.inr z) z z z (TL.en (TC.ofSub (Sub.pre 0 z) (TC.ret (S.r ?_)))))
    obtain rfl := so hh
    exact r1 2
   ·refine TC.skip (S.n (TC.seq (TC.a (TL.a z (.inr z) z z z (TL.en (TC.block (TC.loopG (α := (Nat) × (Unit)) [2, 3, 4, 5, 22, 23, 24, 25, 26, 27, 28, 29, 30, 31, 32, 33, 34, 35, 36, 37, 38, 39, 40, 41, 42, 43, 44, 45, 46, 47, 48, 49, 50, 51, 52, 53, 54, 55, 56, 57, 58] (fun g => [(3, .int .i64 ((g.1 : Nat) : Int))]) (fun g => [Res.cells b101 #[.string (bs x0.front), .slice a0_0 x0.next.length c0_0, .slice a0_1 x0.outs.length c0_1, .slice a0_2 x0.fin.length c0_2, .slice a0_3 x0.tail.length c0_3] 30]) (fun g => σ) (fun g => iter (fun q : Nat => whittleref21_Few_b1 x0 q) g.1 = some r) (fun g => rounds (fun q : Nat => whittleref21_Few_b1 x0 q) g.1) (0, ()) (Sub.pre 1 z) z (by repeat (first | exact trivial | refine ⟨z, ?_⟩)) hh (fun g1 j1 hg1 => ?_))))))))
    obtain ⟨k108, _⟩ := g1
    have hh := hg1; clear hg1
    show TC _ _ _ (upds (mask _ j1 _) [(3, .int .i64 ((k108 : Nat) : Int))]) _ [Res.cells b101 #[.string (bs x0.front), .slice a0_0 x0.next.length c0_0, .slice a0_1 x0.outs.length c0_1, .slice a0_2 x0.fin.length c0_2, .slice a0_3 x0.tail.length c0_3] 30]
    obtain ⟨z1, hh, hR1⟩ := iter_e hh
    dsimp only [whittleref21_Few_b1] at hh
    refine TC.seq (TC.a (TL.a z (.inl z) z z z (TL.v z (OpVal.fieldLoc z fo30_2 z) z z (TL.v z (OpVal.loadLoc z ag27 z (i := 0) z z) z z (TL.v z (OpVal.lenC z Tryz.underlying27 z) z z (TL.v z (OpVal.lss z z z) z z (TL.en (TC.cD z hh (fun h109 hh => ?_) (fun h109 hh => ?_)))))))))
    ·refine TC.skip (S.n (TC.seq (TC.block (TC.seq (TC.a (TL.v z (OpVal.fieldLoc z fo30_2 z) z z (TL.v z (OpVal.loadLoc z ag27 z (i := 0) z z) z z (TL.a z (.inl z) z z z (TL.v z (OpVal.indexN z Tryz.underlying27 sz28 z z f0_1.isSl (by omega)) z z ?_)))))))))
     obtain ⟨p110, hk110, hg110⟩ := RZ.seg f0_1 k108 (by omega)
     replace hk110 : RS _ 1 Go.E.encS (.slice p110.1 (nth x0.outs k108 ([] : List (List UInt8))).length p110.2) (nth x0.outs k108 ([] : List (List UInt8))) := hk110
     have hk110b := hk110.rv.big
     refine TL.v z (OpVal.of (OpVal.loadSeg0 z ag28 z hg110 z) (v' := .slice p110.1 ((nth x0.outs k108 ([] : List (List UInt8))).length) p110.2) z) z z (TL.v z (OpVal.lenC z Tryz.underlying28 z) z z (TL.v z (OpVal.gtr z z z) z z (TL.en (TC.cD z hh (fun h111 hh => ?_) (fun h111 hh => ?_)))))
     ·refine TC.a (TL.b z (.inr z) z z z (TL.en (TC.ofSub (Sub.pre 0 z) (TC.ret (S.r (B.r (S.r (S.r ?_))))))))
      replace hh := fin_x hR1 hh
      refine B.r (S.r ?_)
      obtain rfl := so hh
      exact r1 2
     ·refine TC.skip (S.n (TC.a (TL.a z (.inr z) z z z (TL.en (TC.seq (TC.a (TL.a z (.inr z) z z z (TL.en (TC.block ?_)))))))))
      refine TC.loopG (α := (Int × Nat) × (Unit)) [4, 5, 36, 37, 38, 39, 40, 41, 42, 43, 44, 45, 46, 47, 48, 49, 50, 51, 52, 53, 54, 55, 56] (fun g => [(4, .int .i64 g.1.1), (5, .int .i64 ((g.1.2 : Nat) : Int))]) (fun g => [Res.cells b101 #[.string (bs x0.front), .slice a0_0 x0.next.length c0_0, .slice a0_1 x0.outs.length c0_1, .slice a0_2 x0.fin.length c0_2, .slice a0_3 x0.tail.length c0_3] 30]) (fun g => σ) (fun g => iter (fun q : Int × Nat => whittleref21_Few_b2 x0 k108 q.1 q.2) g.1 = some z1) (fun g => rounds (fun q : Int × Nat => whittleref21_Few_b2 x0 k108 q.1 q.2) g.1) ((0, 0), ()) (Sub.pre 1 z) z (by repeat (first | exact trivial | refine ⟨z, ?_⟩)) hh (fun g2 j2 hg2 => ?_)
      obtain ⟨⟨i116, k117⟩, _⟩ := g2
      have hh := hg2; clear hg2
      show TC _ _ _ (upds (mask _ j2 _) [(4, .int .i64 i116), (5, .int .i64 ((k117 : Nat) : Int))]) _ [Res.cells b101 #[.string (bs x0.front), .slice a0_0 x0.next.length c0_0, .slice a0_1 x0.outs.length c0_1, .slice a0_2 x0.fin.length c0_2, .slice a0_3 x0.tail.length c0_3] 30]
      obtain ⟨z2, hh, hR2⟩ := iter_e hh
      dsimp only [whittleref21_Few_b2] at hh
      refine TC.seq (TC.a (TL.a z (.inl z) z z z (TL.v z (OpVal.fieldLoc z fo30_2 z) z z (TL.v z (OpVal.loadLoc z ag27 z (i := 0) z z) z z (TL.a z (.inl z) z z z (TL.v z (OpVal.indexN z Tryz.underlying27 sz28 z z f0_1.isSl (by omega)) z z ?_))))))
      obtain ⟨p118, hk118, hg118⟩ := RZ.seg f0_1 k108 (by omega)
      replace hk118 : RS _ 1 Go.E.encS (.slice p118.1 (nth x0.outs k108 ([] : List (List UInt8))).length p118.2) (nth x0.outs k108 ([] : List (List UInt8))) := hk118
      have hk118b := hk118.rv.big
      refine TL.v z (OpVal.of (OpVal.loadSeg0 z ag28 z hg118 z) (v' := .slice p118.1 ((nth x0.outs k108 ([] : List (List UInt8))).length) p118.2) z) z z (TL.v z (OpVal.lenC z Tryz.underlying28 z) z z (TL.v z (OpVal.lss z z z) z z (TL.en (TC.cD z hh (fun h119 hh => ?_) (fun h119 hh => ?_)))))
      ·refine TC.skip (S.n (TC.seq (TC.block (TC.region (TL.a z (.inl z) z z z (TL.v z (OpVal.fieldLoc z fo30_2 z) z z (TL.v z (OpVal.loadLoc z ag27 z (i := 0) z z) z z (TL.a z (.inl z) z z z (TL.v z (OpVal.indexN z Tryz.underlying27 sz28 z z f0_1.isSl (by omega)) z z ?_)))))))))
       obtain ⟨p120, hk120, hg120⟩ := RZ.seg f0_1 k108 (by omega)
       replace hk120 : RS _ 1 Go.E.encS (.slice p120.1 (nth x0.outs k108 ([] : List (List UInt8))).length p120.2) (nth x0.outs k108 ([] : List (List UInt8))) := hk120
       have hk120b := hk120.rv.big
       refine TL.v z (OpVal.of (OpVal.loadSeg0 z ag28 z hg120 z) (v' := .slice p120.1 ((nth x0.outs k108 ([] : List (List UInt8))).length) p120.2) z) z z (TL.a z (.inl z) z z z (TL.v z (OpVal.indexN z Tryz.underlying28 sz9 z z hk120.rv.sl (by omega)) z z (TL.v z (OpVal.loadS1 ([] : List UInt8) z ag9 z hk120 (by omega) z) z z (TL.v z (OpVal.lenBs z Tryz.underlying9 z) z z (TL.v z (OpVal.addW z z z) z z (TL.a z (.inr z) z z z (TL.nil (B.n (S.n ?_)))))))))
       refine TC.region (TL.a z (.inl z) z z z (TL.v z (OpVal.succ z z z (by omega)) z z (TL.a z (.inr z) z z z (TL.en ?_))))
       obtain ⟨hh, hlt121⟩ := nxt_x hR2 hh
       exact lf (((IntKind.i64.wrap (i116 + (((nth (nth x0.outs k108 ([] : List (List UInt8))) k117 ([] : List UInt8)).length : Nat) : Int))), (k117 + 1)), ()) hlt121 hh (Sub.pre 1 z)
      ·refine TC.exit (S.x (S.x ?_))
       replace hh := fin_x hR2 hh
       refine TC.exitHere (S.n (TC.a (TL.a z (.inl z) z z z (TL.v z (OpVal.gtr z z z) z z (TL.en (TC.cD z hh (fun h122 hh => ?_) (fun h122 hh => ?_)))))))
       ·refine TC.a (TL.b z (.inr z) z z z (TL.en (TC.ofSub (Sub.pre 0 z) (TC.ret (B.r (S.r (S.r ?_)))))))
        replace hh := fin_x hR1 hh
        refine B.r (S.r ?_)
        obtain rfl := so hh
        exact r1 2
       ·refine TC.skip (B.n (S.n (TC.region (TL.a z (.inl z) z z z (TL.v z (OpVal.succ z z z (by omega)) z z (TL.a z (.inr z) z z z (TL.en ?_)))))))
        obtain ⟨hh, hlt123⟩ := nxt_x hR1 hh
        exact lf ((k108 + 1), ()) hlt123 hh (Sub.pre 1 z)
    ·refine TC.exit (S.x (S.x ?_))
     replace hh := fin_x hR1 hh
     refine TC.exitHere (S.n (TC.a (TL.b z (.inr z) z z z (TL.en (TC.ofSub (Sub.pre 0 z) (TC.ret ?_))))))
     obtain rfl := so hh
     exact r1 2

noncomputable def whittleref24_Few (x0 : Rule) : Option (Bool) :=
 bnd (whittleref11_Few x0.of) (fun v5 => iteO v5 (bnd (whittleref11_Few x0.left) (fun v9 => iteO v9 (bnd (whittleref11_Few x0.right) (fun v14 => iteO v14 (bnd (whittleref21_Few x0.by') (fun v19 => iteO v19 (some (decide (((x0.out.length : Nat) : Int) ≤ 300))) (some false))) (some false))) (some false))) (some false))
theorem whittleref24_Few_con {σ : Store} {x0 : Rule} {a0_0 : Option Addr} {c0_0 : Nat} {a0_1 : Option Addr} {c0_1 : Nat} {a0_2 : Option Addr} {c0_2 : Nat} {a0_3 : Option Addr} {c0_3 : Nat} {a0_4 : Option Addr} {c0_4 : Nat} {a0_5 : Option Addr} {c0_5 : Nat} {a0_6 : Option Addr} {c0_6 : Nat} {a0_7 : Option Addr} {c0_7 : Nat} {a0_8 : Option Addr} {c0_8 : Nat} {a0_9 : Option Addr} {c0_9 : Nat} {a0_10 : Option Addr} {c0_10 : Nat} {a0_11 : Option Addr} {c0_11 : Nat} {a0_12 : Option Addr} {c0_12 : Nat} (f0_0 : RS σ 1 Go.E.encI (.slice a0_0 x0.of.cls.length c0_0) x0.of.cls) (f0_1 : RZ σ (pkSl 1 Go.E.encI Go.E.encI_len) (.slice a0_1 x0.of.next.length c0_1) x0.of.next) (f0_2 : RS σ 1 encB (.slice a0_2 x0.of.fin.length c0_2) x0.of.fin) (f0_3 : RS σ 1 Go.E.encI (.slice a0_3 x0.left.cls.length c0_3) x0.left.cls) (f0_4 : RZ σ (pkSl 1 Go.E.encI Go.E.encI_len) (.slice a0_4 x0.left.next.length c0_4) x0.left.next) (f0_5 : RS σ 1 encB (.slice a0_5 x0.left.fin.length c0_5) x0.left.fin) (f0_6 : RS σ 1 Go.E.encI (.slice a0_6 x0.right.cls.length c0_6) x0.right.cls) (f0_7 : RZ σ (pkSl 1 Go.E.encI Go.E.encI_len) (.slice a0_7 x0.right.next.length c0_7) x0.right.next) (f0_8 : RS σ 1 encB (.slice a0_8 x0.right.fin.length c0_8) x0.right.fin) (f0_9 : RZ σ (pkSl 1 Go.E.encI Go.E.encI_len) (.slice a0_9 x0.by'.next.length c0_9) x0.by'.next) (f0_10 : RZ σ (pkSl 1 Go.E.encS Go.E.encS_len) (.slice a0_10 x0.by'.outs.length c0_10) x0.by'.outs) (f0_11 : RS σ 1 encB (.slice a0_11 x0.by'.fin.length c0_11) x0.by'.fin) (f0_12 : RS σ 1 Go.E.encS (.slice a0_12 x0.by'.tail.length c0_12) x0.by'.tail) {r : Bool} (hh : whittleref24_Few x0 = some r) :
  Con Tryz.prog 7 #[.agg #[.slice a0_0 x0.of.cls.length c0_0, .slice a0_1 x0.of.next.length c0_1, .slice a0_2 x0.of.fin.length c0_2, .slice a0_3 x0.left.cls.length c0_3, .slice a0_4 x0.left.next.length c0_4, .slice a0_5 x0.left.fin.length c0_5, .slice a0_6 x0.right.cls.length c0_6, .slice a0_7 x0.right.next.length c0_7, .slice a0_8 x0.right.fin.length c0_8, .string (bs x0.out), .bool x0.mapped, .string (bs x0.by'.front), .slice a0_9 x0.by'.next.length c0_9, .slice a0_10 x0.by'.outs.length c0_10, .slice a0_11 x0.by'.fin.length c0_11, .slice a0_12 x0.by'.tail.length c0_12]] σ [] (PureP (.bool r) σ) := by
 dsimp only [whittleref24_Few] at hh
 have f0_0b := f0_0.rv.big
 have f0_1b := f0_1.big
 have f0_2b := f0_2.rv.big
 have f0_3b := f0_3.rv.big
 have f0_4b := f0_4.big
 have f0_5b := f0_5.rv.big
 have f0_6b := f0_6.rv.big
 have f0_7b := f0_7.big
 have f0_8b := f0_8.rv.big
 have f0_9b := f0_9.big
 have f0_10b := f0_10.big
 have f0_11b := f0_11.rv.big
 have f0_12b := f0_12.rv.big
 refine Con.mk (n := 27) Tryz.func7 z z z (fun w0 => ?_)
 refine TC.a (TL.op z (OpOk.boxA z z z z (fun b101 => ?_)))
 refine TL.b z (.inr z) z z z (TL.en (TC.a (TL.v z (OpVal.fieldLoc z fo32_0 z) z z (TL.v z (OpVal.loadLocA z ag26 sz26 z (i := 0) z z z) z z ?_))))
 obtain ⟨v5, u5, hh⟩ := bnd_e hh
 refine TL.op z (OpOk.callP (whittleref11_Few_con (x0 := x0.of) f0_0 f0_1 f0_2 u5) z z pf25 z z z ?_)
 refine TL.b z (.inl z) z z z (TL.split 6 z (fun h103 => ?_) (fun h103 => ?_))
 ·replace hh := iteO_t h103 hh
  refine TL.gv z z z z z (OpVal.fieldLoc z fo32_1 z) z z (TL.gv z z z z z (OpVal.loadLocA z ag26 sz26 z (i := 0) z z z) z z ?_)
  obtain ⟨v9, u9, hh⟩ := bnd_e hh
  refine TL.gon z z z z z (OpOk.callP (whittleref11_Few_con (x0 := x0.left) f0_3 f0_4 f0_5 u9) z z pf25 z z z ?_)
  refine TL.v z (OpVal.pickTB z z z) z z (TL.b z (.inl z) z z z (TL.split 11 z (fun h104 => ?_) (fun h104 => ?_)))
  ·replace hh := iteO_t h104 hh
   refine TL.gv z z z z z (OpVal.fieldLoc z fo32_2 z) z z (TL.gv z z z z z (OpVal.loadLocA z ag26 sz26 z (i := 0) z z z) z z ?_)
   obtain ⟨v14, u14, hh⟩ := bnd_e hh
   refine TL.gon z z z z z (OpOk.callP (whittleref11_Few_con (x0 := x0.right) f0_6 f0_7 f0_8 u14) z z pf25 z z z ?_)
   refine TL.v z (OpVal.pickTB z z z) z z (TL.b z (.inl z) z z z (TL.split 16 z (fun h105 => ?_) (fun h105 => ?_)))
   ·replace hh := iteO_t h105 hh
    refine TL.gv z z z z z (OpVal.fieldLoc z fo32_5 z) z z (TL.gv z z z z z (OpVal.loadLocA z ag30 sz30 z (i := 0) z z z) z z ?_)
    obtain ⟨v19, u19, hh⟩ := bnd_e hh
    refine TL.gon z z z z z (OpOk.callP (whittleref21_Few_con (x0 := x0.by') f0_9 f0_10 f0_11 f0_12 u19) z z pf26 z z z ?_)
    refine TL.v z (OpVal.pickTB z z z) z z (TL.b z (.inl z) z z z (TL.split 21 z (fun h106 => ?_) (fun h106 => ?_)))
    ·replace hh := iteO_t h106 hh
     refine TL.gv z z z z z (OpVal.fieldLoc z fo32_3 z) z z (TL.gv z z z z z (OpVal.loadLoc z ag9 z (i := 0) z z) z z (TL.gv z z z z z (OpVal.lenBs z Tryz.underlying9 z) z z (TL.gv z z z z z (OpVal.leq z z z) z z (TL.v z (OpVal.pickTB z z z) z z (TL.b z (.inr z) z z z (TL.en (TC.ofSub (Sub.pre 0 z) (TC.ret ?_))))))))
     obtain rfl := so hh
     exact r1 2
    ·replace hh := iteO_f h106 hh
     refine TL.goff z z z z z z z z (TL.goff z z z z z z z z (TL.goff z z z z z z z z (TL.goff z z z z z z z z (TL.v z (OpVal.pickFB z z z) z z (TL.b z (.inr z) z z z (TL.en (TC.ofSub (Sub.pre 0 z) (TC.ret ?_))))))))
     obtain rfl := so hh
     exact r1 2
   ·replace hh := iteO_f h105 hh
    refine TL.goff z z z z z z z z (TL.goff z z z z z z z z (TL.goff z z z z z z z z (TL.v z (OpVal.pickFB z z z) z z (TL.b z (.inl z) z z z (TL.goff z z z z z z z z (TL.goff z z z z z z z z (TL.goff z z z z z z z z (TL.goff z z z z z z z z (TL.v z (OpVal.pickFB z z z) z z ?_)))))))))
    refine TL.b z (.inr z) z z z (TL.en (TC.ofSub (Sub.pre 0 z) (TC.ret ?_)))
    obtain rfl := so hh
    exact r1 2
  ·replace hh := iteO_f h104 hh
   refine TL.goff z z z z z z z z (TL.goff z z z z z z z z (TL.goff z z z z z z z z (TL.v z (OpVal.pickFB z z z) z z (TL.b z (.inl z) z z z (TL.goff z z z z z z z z (TL.goff z z z z z z z z (TL.goff z z z z z z z z (TL.v z (OpVal.pickFB z z z) z z (TL.b z (.inl z) z z z ?_)))))))))
   refine TL.goff z z z z z z z z (TL.goff z z z z z z z z (TL.goff z z z z z z z z (TL.goff z z z z z z z z (TL.v z (OpVal.pickFB z z z) z z (TL.b z (.inr z) z z z (TL.en (TC.ofSub (Sub.pre 0 z) (TC.ret ?_))))))))
   obtain rfl := so hh
   exact r1 2
 ·replace hh := iteO_f h103 hh
  refine TL.goff z z z z z z z z (TL.goff z z z z z z z z (TL.goff z z z z z z z z (TL.v z (OpVal.pickFB z z z) z z (TL.b z (.inl z) z z z (TL.goff z z z z z z z z (TL.goff z z z z z z z z (TL.goff z z z z z z z z (TL.v z (OpVal.pickFB z z z) z z (TL.b z (.inl z) z z z ?_)))))))))
  refine TL.goff z z z z z z z z (TL.goff z z z z z z z z (TL.goff z z z z z z z z (TL.v z (OpVal.pickFB z z z) z z (TL.b z (.inl z) z z z (TL.goff z z z z z z z z (TL.goff z z z z z z z z (TL.goff z z z z z z z z (TL.goff z z z z z z z z (TL.v z (OpVal.pickFB z z z) z z ?_)))))))))
  refine TL.b z (.inr z) z z z (TL.en (TC.ofSub (Sub.pre 0 z) (TC.ret ?_)))
  obtain rfl := so hh
  exact r1 2

end Go.Proofs.YtmfclggfajopkaaGreatDoor
end

/- Sb -/
section
/- A strings.Builder in a block of one's own: its own address, bytes of a string put behind, what it holds as a string. Plain lemmas over any program; no condition. -/
set_option linter.unusedVariables false
set_option linter.unusedSimpArgs false
namespace Go.E
open Go

/-- What a builder holds as its own address: nothing yet, or that. -/
def badV (u : Bool) (b : Nat) : Value := match u with | true => loc b 0 | false => .pointer none

theorem cells_shape {b E : Nat} {cs : Array Value} {w : World} (h : (Res.cells b cs E).holds w) : w.shape? b = some (E, cs.size) := by
  have h1 : w.heap[b]? = some (.cells cs E (0, 0)) := h
  simp [World.shape?, h1]
section
variable {P : Program} {n : Nat} {e : Env} {σ : Store} {H : List Res} {o : Oper} {x y : Operand}
theorem OpVal.cvtUns {S T t b E i sz m : Nat} {cs : Array Value} (ho : o.op = .convert S T x) (hS : P.underlying S = some (.pointer t)) (hT : P.underlying T = some .unsafePointer) (hs : szOf P t = some sz) (h0 : sz ≠ 0)
    (hx : ev e x = loc b 0) (hi : H[i]? = some (Res.cells b cs E)) (hm : cs.size = m) (hc : 0 < m) : OpVal P n o e σ H (loc b 0) := fun w hw => by
  obtain ⟨j, hj, hjs⟩ := szOf_info hs
  have hsh := cells_shape (hw.2 _ (List.mem_of_getElem? hi))
  have h := Lib.run_to_unsafe (P := P) (w := w) (cells := cs.size) ⟨b, 0, none⟩ hS hT hj (by rw [hjs]; exact h0) hsh (by rw [hm]; exact hc)
  simp [execOp, ho, hx, loc, h]
theorem OpVal.cvtPtr {S T t b E i sz m : Nat} {cs : Array Value} (ho : o.op = .convert S T x) (hS : P.underlying S = some .unsafePointer) (hT : P.underlying T = some (.pointer t)) (hs : szOf P t = some sz)
    (hx : ev e x = loc b 0) (hi : H[i]? = some (Res.cells b cs E)) (hm : cs.size = m) (hl : liesAt P P.depth E (m / P.cellsOf E) 0 t 1 = true) : OpVal P n o e σ H (loc b 0) := fun w hw => by
  obtain ⟨j, hj, hjs⟩ := szOf_info hs
  have hsh := cells_shape (hw.2 _ (List.mem_of_getElem? hi))
  have h := Lib.run_from_unsafe (P := P) (w := w) (cells := cs.size) ⟨b, 0, none⟩ hS hT hj hsh (by rw [hm]; exact hl)
  simp [execOp, ho, hx, loc, h]
theorem OpVal.noEsc {p : Operand} {ts : Array TypeId} {J : FuncId} {fn : Func} {v : Value} (ho : o.op = .call { callee := .value x, args := #[p], argTypes := ts }) (hx : ev e x = .func (.func J) #[] #[]) (hf : P.funcs[J]? = some fn) (hname : (fn.name == "runtime.NumGoroutine") = false)
    (hb : fn.body.isNone = true) (hn : Extern.findNext fn = none) (he : Extern.find fn = some Extern.AbiNoEscape.same) (hp : ev e p = v) : OpVal P n o e σ H v := fun w _ => by
  have h := run_callFunc_extern hf hname hb hn he #[v] w
  rw [Lib.run_noEscape] at h
  simp [execOp, ho, resolve, Deferred.ofValue, invoke, hx, hp, h, Result.andThen]
theorem OpVal.neqSelf {T T' t b sz : Nat} (ho : o.op = .binOp .neq T x y T') (hT : P.underlying T = some (.pointer t)) (hs : szOf P t = some sz) (hx : ev e x = loc b 0) (hy : ev e y = loc b 0) : OpVal P n o e σ H (.bool false) := fun w _ => by
  obtain ⟨j, hj, _⟩ := szOf_info hs
  have h := Lib.run_neq_ptr_same (P := P) (w := w) ⟨b, 0, none⟩ hT hj
  simp only [execOp, ho, hx, hy, loc, Sem.run_bind, run_eqGuard_ptr, Result.andThen_ok]
  rw [h]; rfl
end
theorem strCells_bs (l : List UInt8) : Lib.strCells (bs l) = l.flatMap encU8 := by
  have h : ∀ l : List UInt8, l.map (fun b => Value.int IntKind.u8 ((b.toNat : Nat) : Int)) = l.flatMap encU8 := fun l => by
    induction l with
    | nil => rfl
    | cons x l ih => rw [List.map_cons, List.flatMap_cons, ih]; rfl
  simp [Lib.strCells, bs]
  exact h l
theorem appendS_blk {P : Program} {w w' : World} (base : Nat) (t u ty e : TypeId) (i : TypeInfo) (ht : P.underlying t = some (.slice e)) (hu : P.underlying u = some .string) (hi : P.info? e = some i) (hz : i.zero = some (.int .u8 0))
    (hsize : i.size = 1) (hby : i.bytes = 1) {v v' : Value} {n : Nat} {xs : List Value} (hown : w.ownsRow base e 1 v n xs) (s : ByteArray)
    (h63 : n + s.size ≤ maxLen) (hbytes : n + s.size ≤ 140737488355328) (hrun : (Builtin.append_ #[t, u] ty #[v, .string s]).run P w = .ok v' w') :
    (v'.ownBlock = v.ownBlock ∨ v'.ownBlock = some w.heap.size) ∧ w.drawn ≤ w'.drawn := by
  have hsmall : n + s.size ≤ 9223372036854775807 := by simp only [maxLen] at h63; omega
  have hxl : xs.length = n := by simpa using hown.1
  rcases hown.2 with ⟨rfl, rfl⟩ | ⟨g, cap, cur, rfl, hbg, hg, hnc, hcm, hcs, htake⟩
  · by_cases hm : s.size = 0
    · have hf := Lib.run_firstCells_string (P := P) (w := w) 1 s
      rw [hm] at hf
      have hr : (Builtin.append_ #[t, u] ty #[.slice none 0 0, .string s]).run P w = .ok (.slice none 0 0) w := by
        simp [Builtin.append_, run_underlying ht, run_underlying hu, sizeOf, typeInfo, hi, hsize, Builtin.lenOf, hm, hf]
      rw [hrun] at hr; cases hr; exact ⟨.inl rfl, Nat.le_refl _⟩
    · have hr := run_append_nil_string (P := P) w t u ty e i (.int .u8 0) ht hu hi hz s (by omega) (by omega) (by rw [hby]; omega)
      rw [hrun] at hr; cases hr; exact ⟨.inr rfl, Nat.le_succ _⟩
  · by_cases hroom : n + s.size ≤ cap
    · have hcs' : cur.size = cap := by simpa using hcs
      have hr := Lib.run_append_room_string (P := P) (w := w) t u ty e i ht hu hi hsize g n cap cur hg s hroom (by omega)
      rw [hrun] at hr; cases hr; exact ⟨.inl rfl, Nat.le_refl _⟩
    · have holds : ∀ j u, xs[j]? = some u → w.cell? ((⟨g, 0, none⟩ : Addr).add j) = some u := hown.cells (g := g) rfl
      have hr := Lib.run_append_grow_string (P := P) (w := w) t u ty e i (.int .u8 0) ht hu hi hz ⟨g, 0, none⟩ n cap xs (by rw [hsize]; simpa using hxl) holds s (by omega) (by omega) (by rw [hby]; exact growslice_fits (by omega) (by omega))
      rw [hrun] at hr; cases hr; exact ⟨.inr rfl, Nat.le_succ _⟩
theorem OpOk.appendStr {X : Ctx} {e : Env} {σ : Store} {F : List Res} {o : Oper} {x y : Operand} {K : Env → Store → List Res → Prop} {T ty E d : Nat} {v : Value} {l m : List UInt8}
    (ho : o.op = .call { callee := .builtin .append, args := #[x, y], argTypes := #[T, ty] }) (ht : X.P.underlying T = some (.slice E)) (hu : X.P.underlying ty = some .string) (hs : szOf X.P E = some 1) (hby : byOf X.P E = some 1) (hz : zeroOf X.P E = some (.int .u8 0))
    (hd : o.dst = some d) (hn : Nat.blt d X.n = true) (hx : ev e x = v) (hy : ev e y = .string (bs m)) (hb : l.length + m.length ≤ 140737488355328)
    (k : ∀ a c, K (upd e d (.slice a (l ++ m).length c)) σ (Res.rowS E 1 encU8 (.slice a (l ++ m).length c) (l ++ m) :: F)) : OpOk X o e σ (Res.rowS E 1 encU8 v l :: F) K := by
  obtain ⟨i, hi, hsi⟩ := szOf_info hs
  have hiz : i.zero = some (.int .u8 0) := by simpa [zeroOf, hi] using hz
  have hib : i.bytes = 1 := by simpa [byOf, hi] using hby
  intro u0 C0 τ0 w a hw ha K' Q hK
  obtain ⟨hown, hone, hbg⟩ := hw.holds _ (List.mem_cons_self ..)
  have hsz : (bs m).size = m.length := by show (bs m).data.size = _; simp [bs]
  have h1 : l.length + (bs m).size ≤ maxLen := by rw [hsz]; unfold maxLen; omega
  have h2 : l.length + (bs m).size ≤ 140737488355328 := by rw [hsz]; exact hb
  obtain ⟨v', w', hr, hown', hg, _⟩ := Lib.run_append_own_string (P := X.P) (w := w) 0 T ty o.type E i ht hu hi hiz hsi hib v l.length _ hown (bs m) h1 h2 (Nat.zero_le _)
  obtain ⟨hblk, hdr⟩ := appendS_blk 0 T ty o.type E i ht hu hi hiz hsi hib hown (bs m) h1 h2 hr
  rw [hsz, strCells_bs, ← List.flatMap_append, ← List.length_append] at hown'
  have hbk : ∀ b, v'.ownBlock = some b → v.ownBlock = some b ∨ w.heap.size ≤ b := fun b hb => by
    rcases hblk with h | h
    · exact .inl (h ▸ hb)
    · rw [h] at hb; cases hb; exact .inr (Nat.le_refl _)
  have hR : Reach u0 C0 τ0 σ w' (Res.rowS E 1 encU8 v' (l ++ m) :: F) :=
    hw.turn1 (Value.ownBlock v) (Value.ownBlock v') rfl rfl hg.os hg.tape hg.output hg.size hdr (fun q hq hne => hg.block q hq (fun hx => hne hx.symm)) ⟨hown', fun q hq => by
      obtain ⟨z, _, hz⟩ := List.mem_flatMap.1 hq
      exact encU8_one z q hz, by rw [List.length_append]; omega⟩ hbk
  obtain ⟨av, cv, rfl, _, _⟩ := isSl_row hown'
  refine Oper.wp_of_run (w' := w') (v := .slice av (l ++ m).length cv) ?_ (hK _ _ _ _ _ (k av cv) hR (put_dst ha hd hn _))
  rw [ha.eval']
  simp [execOp, ho, resolve, invoke, builtin, hx, hy, hr]

/-- A block that nobody looks at any more. -/
def Res.any (o : Option Nat) : Res where
  bl := o.toList
  holds w := ∀ b, o = some b → b < w.heap.size
  lt w b hb h := h b (by simpa using hb)
  keep w w' hb h := fun b e => by
    have h1 := h b e
    have h2 := hb b (by rw [e]; simp)
    rw [Array.getElem?_eq_getElem h1] at h2
    exact (Array.getElem?_eq_some_iff.1 h2).1
/-- Where a row's cells lie, asked as unsafe.SliceData does. -/
def SDat (v : Value) (l : List UInt8) (q : Option Addr) : Prop := l ≠ [] → ∃ g c, v = .slice (some ⟨g, 0, none⟩) l.length c ∧ q = some ⟨g, 0, none⟩
theorem OpOk.sliceDat {X : Ctx} {e : Env} {σ : Store} {F : List Res} {o : Oper} {x : Operand} {K : Env → Store → List Res → Prop} {T E d D : Nat} {v : Value} {l : List UInt8}
    (ho : o.op = .call { callee := .builtin .unsafeSliceData, args := #[x], argTypes := #[T] }) (hD : o.type = D) (hp : X.P.underlying D = some (.pointer E)) (hd : o.dst = some d) (hn : Nat.blt d X.n = true) (hx : ev e x = v)
    (k : ∀ q, SDat v l q → K (upd e d (.pointer q)) σ (Res.rowS E 1 encU8 v l :: F)) : OpOk X o e σ (Res.rowS E 1 encU8 v l :: F) K := by
  subst hD
  intro u0 C0 τ0 w a hw ha K' Q hK
  obtain ⟨hown, hone, hbg⟩ := hw.holds _ (List.mem_cons_self ..)
  rcases id hown.2 with ⟨rfl, hl⟩ | ⟨g, cap, cur, rfl, _, hg, hnc, hcm, hcs, htake⟩
  · have hl0 : l = [] := List.eq_nil_of_length_eq_zero hl
    have hr := Lib.run_unsafeSliceData_nil (P := X.P) (w := w) #[T] o.type 0 0
    refine Oper.wp_of_run (w' := w) (v := .pointer none) ?_ (hK _ _ _ _ _ (k none (fun h => absurd hl0 h)) hw (put_dst ha hd hn _))
    rw [ha.eval']
    simp [execOp, ho, resolve, invoke, builtin, hx, hr]
  · by_cases hc : cap = 0
    · subst hc
      have hl0 : l = [] := List.eq_nil_of_length_eq_zero (by omega)
      have hsh : w.shape? g = some (E, cur.size) := by simp [World.shape?, hg]
      have hr := Lib.run_unsafeSliceData_zero (P := X.P) (w := w) #[T] o.type E hp ⟨g, 0, none⟩ l.length (E, cur.size) hsh
      have hR : Reach u0 C0 τ0 σ (w.alloc (.view ⟨g, 0, none⟩ E)) (Res.any none :: Res.rowS E 1 encU8 (.slice (some ⟨g, 0, none⟩) l.length 0) l :: F) :=
        hw.gain1 none rfl rfl rfl rfl (by simp) (Nat.le_refl _) (fun k hk => alloc_old w _ k hk) (fun b hb => by cases hb) (fun b hb => by cases hb)
      refine Oper.wp_of_run (w' := w.alloc (.view ⟨g, 0, none⟩ E)) (v := .pointer (some ⟨w.heap.size, 0, none⟩)) ?_ (hK _ _ _ _ _ (k _ (fun h => absurd hl0 h)) (hR.sub (List.sublist_cons_self _ _)) (put_dst ha hd hn _))
      rw [ha.eval']
      simp [execOp, ho, resolve, invoke, builtin, hx, hr]
    · have hr := Lib.run_unsafeSliceData_row (P := X.P) (w := w) #[T] o.type ⟨g, 0, none⟩ l.length cap hc
      refine Oper.wp_of_run (w' := w) (v := .pointer (some ⟨g, 0, none⟩)) ?_ (hK _ _ _ _ _ (k _ (fun _ => ⟨g, cap, rfl, rfl⟩)) hw (put_dst ha hd hn _))
      rw [ha.eval']
      simp [execOp, ho, resolve, invoke, builtin, hx, hr]
/-- unsafe.String of it: the row is nobody's any more. -/
theorem OpOk.unsStr {X : Ctx} {e : Env} {σ : Store} {F : List Res} {o : Oper} {x y : Operand} {K : Env → Store → List Res → Prop} {T I E d : Nat} {v : Value} {l : List UInt8} {q : Option Addr}
    (ho : o.op = .call { callee := .builtin .unsafeString, args := #[x, y], argTypes := #[T, I] }) (hp : X.P.underlying T = some (.pointer E)) (hcE : X.P.cellsOf E = 1) (hd : o.dst = some d) (hn : Nat.blt d X.n = true) (hx : ev e x = .pointer q) (hq : SDat v l q) (hy : ev e y = .int .i64 (l.length : Nat))
    (k : K (upd e d (.string (bs l))) σ F) : OpOk X o e σ (Res.rowS E 1 encU8 v l :: F) K := by
  intro u0 C0 τ0 w a hw ha K' Q hK
  obtain ⟨hown, hone, hbg⟩ := hw.holds _ (List.mem_cons_self ..)
  by_cases hl : l = []
  · subst hl
    have hr := Lib.run_unsafeString_none (P := X.P) (w := w) T I o.type q
    refine Oper.wp_of_run (w' := w) (v := .string (bs [])) ?_ (hK _ _ _ _ _ k (hw.sub (List.sublist_cons_self _ _)) (put_dst ha hd hn _))
    rw [ha.eval']
    simp [execOp, ho, resolve, invoke, builtin, hx, hy, hr]
    rfl
  · obtain ⟨g, c, rfl, rfl⟩ := hq hl
    rcases id hown.2 with ⟨hv, _⟩ | ⟨g', cap, cur, hv, _, hg, hnc, hcm, hcs, htake⟩
    · cases hv
    · cases hv
      have hsh : w.shape? g = some (E, cur.size) := by simp [World.shape?, hg]
      have hr := Lib.run_unsafeString_row (P := X.P) (w := w) T I o.type E hp hcE g cur.size hsh l hl (by omega) (by unfold maxLen at hcm; omega) (fun j z hz => by
        refine hown.cells (g := g) rfl j (.int .u8 z.toNat) ?_
        have hj : j < l.length := (List.getElem?_eq_some_iff.1 hz).1
        rw [flat_one (enc := encU8) (fun _ => rfl) (0 : UInt8) l j hj]
        have h4 := getD_some l hj (0 : UInt8)
        rw [hz] at h4
        rw [← Option.some.inj h4]; rfl)
      have hln : ¬ l.length = 0 := fun h => hl (List.eq_nil_of_length_eq_zero h)
      have hfz : ∀ b, b ≠ g → (w.freeze ⟨g, 0, none⟩ l.length).heap[b]? = w.heap[b]? := fun b hb => by
        unfold World.freeze
        rw [if_neg hln]
        simp only [Array.getElem?_modify]
        rw [if_neg (fun h => hb h.symm)]
      have hsz : (w.freeze ⟨g, 0, none⟩ l.length).heap.size = w.heap.size := by
        unfold World.freeze
        rw [if_neg hln]; simp
      have hos : (w.freeze ⟨g, 0, none⟩ l.length).os = w.os ∧ (w.freeze ⟨g, 0, none⟩ l.length).tape = w.tape ∧ (w.freeze ⟨g, 0, none⟩ l.length).output = w.output ∧ (w.freeze ⟨g, 0, none⟩ l.length).drawn = w.drawn := by
        unfold World.freeze
        rw [if_neg hln]; exact ⟨rfl, rfl, rfl, rfl⟩
      have hgl : g < w.heap.size := (Array.getElem?_eq_some_iff.1 hg).1
      have hR : Reach u0 C0 τ0 σ (w.freeze ⟨g, 0, none⟩ l.length) (Res.any (some g) :: F) :=
        hw.turn1 (some g) (some g) rfl rfl hos.1 hos.2.1 hos.2.2.1 (by rw [hsz]; exact Nat.le_refl _) (by rw [hos.2.2.2]; exact Nat.le_refl _) (fun k hk hne => hfz k (fun h => hne (by rw [h]))) (fun b hb => by cases hb; rw [hsz]; exact hgl) (fun b hb => .inl hb)
      refine Oper.wp_of_run (w' := w.freeze ⟨g, 0, none⟩ l.length) (v := .string (bs l)) ?_ (hK _ _ _ _ _ k (hR.sub (List.sublist_cons_self _ _)) (put_dst ha hd hn _))
      rw [ha.eval']
      simp [execOp, ho, resolve, invoke, builtin, hx, hy, hr]
      rfl
section
variable {X : Ctx} {ops : Array Oper} {Q : QP} {e : Env} {σ : Store} {H H' : List Res} {c : Code} {l : List Oper}
theorem TL.asH (h : H = H') (k : TL X ops Q l e σ H') : TL X ops Q l e σ H := h ▸ k
end
end Go.E
end

/- R4 -/
section
/- Decompiled: a strings.Builder, alone and in a piece that grows. -/
set_option linter.unusedVariables false
set_option linter.unusedSimpArgs false
namespace Go.Proofs.YtmfclggfajopkaaGreatDoor
open Go Go.E
set_option maxRecDepth 100000
private theorem ag65 : Go.E.aggOf Tryz.prog 65 = some false := by kernel_rfl
private theorem fo68_0 : Go.E.foOf Tryz.prog 68 0 = some 0 := by kernel_rfl
private theorem sz65 : Go.E.szOf Tryz.prog 65 = some 1 := by kernel_rfl
private theorem sz68 : Go.E.szOf Tryz.prog 68 = some 2 := by kernel_rfl

noncomputable def copyCheckF (x0 : SB) : Option (SB) :=
 some (⟨x0.buf⟩ : SB)
theorem copyCheckF_con {σ : Store} {x0 : SB} {b0_0 : Nat} {a0_1 : Option Addr} {c0_2 : Nat}  {r : SB} (hh : copyCheckF x0 = some r) :
  Con Tryz.prog 96 #[loc b0_0 0] σ [Res.cells b0_0 #[badV false b0_0, .slice a0_1 x0.buf.length c0_2] 68, Res.rowS 5 1 encU8 (.slice a0_1 x0.buf.length c0_2) x0.buf] (fun v σ' H' => ∃ (uo1 : Bool), ∃ (ao2 : Option Addr), ∃ (co3 : Nat), v = .tuple #[] ∧ σ = σ' ∧ H' = [Res.cells b0_0 #[badV uo1 b0_0, .slice ao2 r.buf.length co3] 68, Res.rowS 5 1 encU8 (.slice ao2 r.buf.length co3) r.buf]) := by
 dsimp only [copyCheckF] at hh
 refine Con.mk (n := 20) Tryz.func96 z z z (fun w0 => ?_)
 refine TC.a (TL.lo z (.inl z) z z z (TL.v z (OpVal.nilCheckLoc z z) z z (TL.v z (OpVal.fieldLoc z fo68_0 z) z z (TL.v z (OpVal.loadLoc z ag65 z (i := 0) z z) z z (TL.v z (OpVal.eqlNil z Tryz.underlying65 z z) z z (TL.en (TC.cond z (fun _ => ?_) (fun h => Bool.noConfusion h))))))))
 refine TC.region (TL.lo z (.inl z) z z z (TL.lo z (.inl z) z z z (TL.v z (OpVal.cvtUns z Tryz.underlying65 Tryz.underlying179 sz68 (by decide) z (i := 0) z z (by simp)) z z (TL.v z (OpVal.noEsc z z Tryz.func115 (by kernel_rfl) (by kernel_rfl) (by kernel_rfl) (by kernel_rfl) z) z z (TL.v z (OpVal.cvtPtr z Tryz.underlying179 Tryz.underlying65 sz68 z (i := 0) z z (by kernel_rfl)) z z (TL.v z (OpVal.nilCheckLoc z z) z z (TL.v z (OpVal.fieldLoc z fo68_0 z) z z (TL.op z (OpOk.storeLoc z sz65 z z z z z ?_)))))))))
 refine TL.nil ?_
 obtain rfl := so hh
 exact RetOk.mk' (rs := []) [Res.cells b0_0 #[badV true b0_0, .slice a0_1 x0.buf.length c0_2] 68, Res.rowS 5 1 encU8 (.slice a0_1 x0.buf.length c0_2) x0.buf] z (.inr z) RVs.nil (List.sublist_append_left _ _) ⟨true, a0_1, c0_2, z, z, z⟩

noncomputable def copyCheckT (x0 : SB) : Option (SB) :=
 some (⟨x0.buf⟩ : SB)
theorem copyCheckT_con {σ : Store} {x0 : SB} {b0_0 : Nat} {a0_1 : Option Addr} {c0_2 : Nat}  {r : SB} (hh : copyCheckT x0 = some r) :
  Con Tryz.prog 96 #[loc b0_0 0] σ [Res.cells b0_0 #[badV true b0_0, .slice a0_1 x0.buf.length c0_2] 68, Res.rowS 5 1 encU8 (.slice a0_1 x0.buf.length c0_2) x0.buf] (fun v σ' H' => ∃ (uo1 : Bool), ∃ (ao2 : Option Addr), ∃ (co3 : Nat), v = .tuple #[] ∧ σ = σ' ∧ H' = [Res.cells b0_0 #[badV uo1 b0_0, .slice ao2 r.buf.length co3] 68, Res.rowS 5 1 encU8 (.slice ao2 r.buf.length co3) r.buf]) := by
 dsimp only [copyCheckT] at hh
 refine Con.mk (n := 20) Tryz.func96 z z z (fun w0 => ?_)
 refine TC.a (TL.lo z (.inl z) z z z (TL.v z (OpVal.nilCheckLoc z z) z z (TL.v z (OpVal.fieldLoc z fo68_0 z) z z (TL.v z (OpVal.loadLoc z ag65 z (i := 0) z z) z z (TL.v z (OpVal.eqlNil z Tryz.underlying65 z z) z z (TL.en (TC.cond z (fun h => Bool.noConfusion h) (fun _ => ?_))))))))
 refine TC.a (TL.lo z (.inl z) z z z (TL.v z (OpVal.nilCheckLoc z z) z z (TL.v z (OpVal.fieldLoc z fo68_0 z) z z (TL.v z (OpVal.loadLoc z ag65 z (i := 0) z z) z z (TL.lo z (.inl z) z z z (TL.v z (OpVal.neqSelf z Tryz.underlying65 sz68 z z) z z (TL.en (TC.cond z (fun h => Bool.noConfusion h) (fun _ => ?_)))))))))
 refine TC.skip ?_
 obtain rfl := so hh
 exact RetOk.mk' (rs := []) [Res.cells b0_0 #[badV true b0_0, .slice a0_1 x0.buf.length c0_2] 68, Res.rowS 5 1 encU8 (.slice a0_1 x0.buf.length c0_2) x0.buf] z (.inr z) RVs.nil (List.sublist_append_left _ _) ⟨true, a0_1, c0_2, z, z, z⟩

noncomputable def copyCheckUF (x0 : Turned) : Option (Turned) :=
 some (⟨(⟨x0.b.buf⟩ : SB), x0.at'⟩ : Turned)
theorem copyCheckUF_con {σ : Store} {x0 : Turned} {b0_0 : Nat} {a0_1 : Option Addr} {c0_2 : Nat} {a0_3 : Option Addr} {c0_4 : Nat}  {r : Turned} (hh : copyCheckUF x0 = some r) :
  Con Tryz.prog 96 #[loc b0_0 0] σ [Res.cells b0_0 #[badV false b0_0, .slice a0_1 x0.b.buf.length c0_2, .slice a0_3 x0.at'.length c0_4] 70, Res.rowS 5 1 encU8 (.slice a0_1 x0.b.buf.length c0_2) x0.b.buf, Res.rowS 56 2 encSpan (.slice a0_3 x0.at'.length c0_4) x0.at'] (fun v σ' H' => ∃ (uo1 : Bool), ∃ (ao2 : Option Addr), ∃ (co3 : Nat), ∃ (ao4 : Option Addr), ∃ (co5 : Nat), v = .tuple #[] ∧ σ = σ' ∧ H' = [Res.cells b0_0 #[badV uo1 b0_0, .slice ao2 r.b.buf.length co3, .slice ao4 r.at'.length co5] 70, Res.rowS 5 1 encU8 (.slice ao2 r.b.buf.length co3) r.b.buf, Res.rowS 56 2 encSpan (.slice ao4 r.at'.length co5) r.at']) := by
 dsimp only [copyCheckUF] at hh
 refine Con.mk (n := 20) Tryz.func96 z z z (fun w0 => ?_)
 refine TC.a (TL.lo z (.inl z) z z z (TL.v z (OpVal.nilCheckLoc z z) z z (TL.v z (OpVal.fieldLoc z fo68_0 z) z z (TL.v z (OpVal.loadLoc z ag65 z (i := 0) z z) z z (TL.v z (OpVal.eqlNil z Tryz.underlying65 z z) z z (TL.en (TC.cond z (fun _ => ?_) (fun h => Bool.noConfusion h))))))))
 refine TC.region (TL.lo z (.inl z) z z z (TL.lo z (.inl z) z z z (TL.v z (OpVal.cvtUns z Tryz.underlying65 Tryz.underlying179 sz68 (by decide) z (i := 0) z z (by simp)) z z (TL.v z (OpVal.noEsc z z Tryz.func115 (by kernel_rfl) (by kernel_rfl) (by kernel_rfl) (by kernel_rfl) z) z z (TL.v z (OpVal.cvtPtr z Tryz.underlying179 Tryz.underlying65 sz68 z (i := 0) z z (by kernel_rfl)) z z (TL.v z (OpVal.nilCheckLoc z z) z z (TL.v z (OpVal.fieldLoc z fo68_0 z) z z (TL.op z (OpOk.storeLoc z sz65 z z z z z ?_)))))))))
 refine TL.nil ?_
 obtain rfl := so hh
 exact RetOk.mk' (rs := []) [Res.cells b0_0 #[badV true b0_0, .slice a0_1 x0.b.buf.length c0_2, .slice a0_3 x0.at'.length c0_4] 70, Res.rowS 5 1 encU8 (.slice a0_1 x0.b.buf.length c0_2) x0.b.buf, Res.rowS 56 2 encSpan (.slice a0_3 x0.at'.length c0_4) x0.at'] z (.inr z) RVs.nil (List.sublist_append_left _ _) ⟨true, a0_1, c0_2, a0_3, c0_4, z, z, z⟩

noncomputable def copyCheckUT (x0 : Turned) : Option (Turned) :=
 some (⟨(⟨x0.b.buf⟩ : SB), x0.at'⟩ : Turned)
theorem copyCheckUT_con {σ : Store} {x0 : Turned} {b0_0 : Nat} {a0_1 : Option Addr} {c0_2 : Nat} {a0_3 : Option Addr} {c0_4 : Nat}  {r : Turned} (hh : copyCheckUT x0 = some r) :
  Con Tryz.prog 96 #[loc b0_0 0] σ [Res.cells b0_0 #[badV true b0_0, .slice a0_1 x0.b.buf.length c0_2, .slice a0_3 x0.at'.length c0_4] 70, Res.rowS 5 1 encU8 (.slice a0_1 x0.b.buf.length c0_2) x0.b.buf, Res.rowS 56 2 encSpan (.slice a0_3 x0.at'.length c0_4) x0.at'] (fun v σ' H' => ∃ (uo1 : Bool), ∃ (ao2 : Option Addr), ∃ (co3 : Nat), ∃ (ao4 : Option Addr), ∃ (co5 : Nat), v = .tuple #[] ∧ σ = σ' ∧ H' = [Res.cells b0_0 #[badV uo1 b0_0, .slice ao2 r.b.buf.length co3, .slice ao4 r.at'.length co5] 70, Res.rowS 5 1 encU8 (.slice ao2 r.b.buf.length co3) r.b.buf, Res.rowS 56 2 encSpan (.slice ao4 r.at'.length co5) r.at']) := by
 dsimp only [copyCheckUT] at hh
 refine Con.mk (n := 20) Tryz.func96 z z z (fun w0 => ?_)
 refine TC.a (TL.lo z (.inl z) z z z (TL.v z (OpVal.nilCheckLoc z z) z z (TL.v z (OpVal.fieldLoc z fo68_0 z) z z (TL.v z (OpVal.loadLoc z ag65 z (i := 0) z z) z z (TL.v z (OpVal.eqlNil z Tryz.underlying65 z z) z z (TL.en (TC.cond z (fun h => Bool.noConfusion h) (fun _ => ?_))))))))
 refine TC.a (TL.lo z (.inl z) z z z (TL.v z (OpVal.nilCheckLoc z z) z z (TL.v z (OpVal.fieldLoc z fo68_0 z) z z (TL.v z (OpVal.loadLoc z ag65 z (i := 0) z z) z z (TL.lo z (.inl z) z z z (TL.v z (OpVal.neqSelf z Tryz.underlying65 sz68 z z) z z (TL.en (TC.cond z (fun h => Bool.noConfusion h) (fun _ => ?_)))))))))
 refine TC.skip ?_
 obtain rfl := so hh
 exact RetOk.mk' (rs := []) [Res.cells b0_0 #[badV true b0_0, .slice a0_1 x0.b.buf.length c0_2, .slice a0_3 x0.at'.length c0_4] 70, Res.rowS 5 1 encU8 (.slice a0_1 x0.b.buf.length c0_2) x0.b.buf, Res.rowS 56 2 encSpan (.slice a0_3 x0.at'.length c0_4) x0.at'] z (.inr z) RVs.nil (List.sublist_append_left _ _) ⟨true, a0_1, c0_2, a0_3, c0_4, z, z, z⟩

end Go.Proofs.YtmfclggfajopkaaGreatDoor
end

/- R5 -/
section
/- Decompiled: what a strings.Builder does, alone and in a piece that grows. -/
set_option linter.unusedVariables false
set_option linter.unusedSimpArgs false
namespace Go.Proofs.YtmfclggfajopkaaGreatDoor
open Go Go.E
set_option maxRecDepth 100000
private theorem ag66 : Go.E.aggOf Tryz.prog 66 = some false := by kernel_rfl
private theorem by5 : Go.E.byOf Tryz.prog 5 = some 1 := by kernel_rfl
private theorem ce5 : Tryz.prog.cellsOf 5 = 1 := by kernel_rfl
private theorem fo68_1 : Go.E.foOf Tryz.prog 68 1 = some 1 := by kernel_rfl
private theorem pf96 : Go.E.plainF Tryz.prog 96 = true := by kernel_rfl
private theorem sz66 : Go.E.szOf Tryz.prog 66 = some 1 := by kernel_rfl
private theorem ze5 : Go.E.zeroOf Tryz.prog 5 = some (.int .u8 0) := by kernel_rfl
noncomputable def copyCheck (x0 : SB) : Option SB := copyCheckF x0
noncomputable def copyCheckU (x0 : Turned) : Option Turned := copyCheckUF x0
theorem copyCheck_con {σ : Store} {x0 : SB} {b0_0 : Nat} {u0_1 : Bool} {a0_2 : Option Addr} {c0_3 : Nat} {r : SB} (hh : copyCheck x0 = some r) :
  Con Tryz.prog 96 #[loc b0_0 0] σ [Res.cells b0_0 #[badV u0_1 b0_0, .slice a0_2 x0.buf.length c0_3] 68, Res.rowS 5 1 encU8 (.slice a0_2 x0.buf.length c0_3) x0.buf] (fun v σ' H' => ∃ (uo1 : Bool), ∃ (ao2 : Option Addr), ∃ (co3 : Nat), v = .tuple #[] ∧ σ = σ' ∧ H' = [Res.cells b0_0 #[badV uo1 b0_0, .slice ao2 r.buf.length co3] 68, Res.rowS 5 1 encU8 (.slice ao2 r.buf.length co3) r.buf]) := by
 cases u0_1
 ·exact copyCheckF_con hh
 ·exact copyCheckT_con hh
theorem copyCheckU_con {σ : Store} {x0 : Turned} {b0_0 : Nat} {u0_1 : Bool} {a0_2 : Option Addr} {c0_3 : Nat} {a0_4 : Option Addr} {c0_5 : Nat} {r : Turned} (hh : copyCheckU x0 = some r) :
  Con Tryz.prog 96 #[loc b0_0 0] σ [Res.cells b0_0 #[badV u0_1 b0_0, .slice a0_2 x0.b.buf.length c0_3, .slice a0_4 x0.at'.length c0_5] 70, Res.rowS 5 1 encU8 (.slice a0_2 x0.b.buf.length c0_3) x0.b.buf, Res.rowS 56 2 encSpan (.slice a0_4 x0.at'.length c0_5) x0.at'] (fun v σ' H' => ∃ (uo1 : Bool), ∃ (ao2 : Option Addr), ∃ (co3 : Nat), ∃ (ao4 : Option Addr), ∃ (co5 : Nat), v = .tuple #[] ∧ σ = σ' ∧ H' = [Res.cells b0_0 #[badV uo1 b0_0, .slice ao2 r.b.buf.length co3, .slice ao4 r.at'.length co5] 70, Res.rowS 5 1 encU8 (.slice ao2 r.b.buf.length co3) r.b.buf, Res.rowS 56 2 encSpan (.slice ao4 r.at'.length co5) r.at']) := by
 cases u0_1
 ·exact copyCheckUF_con hh
 ·exact copyCheckUT_con hh

noncomputable def writeS (x0 : SB) (x1 : List UInt8) : Option (Int × Unit × SB) :=
 grd (x1.length ≤ 281474976710656) (bnd (copyCheck (⟨x0.buf⟩ : SB)) (fun v4 => grd (v4.buf.length + x1.length ≤ 140737488355328) (some (((x1.length : Nat) : Int), (), (⟨(v4.buf ++ x1)⟩ : SB)))))
theorem writeS_con {σ : Store} {x0 : SB} {b0_0 : Nat} {u0_1 : Bool} {a0_2 : Option Addr} {c0_3 : Nat} {x1 : List UInt8}  {r : Int × Unit × SB} (hh : writeS x0 x1 = some r) :
  Con Tryz.prog 64 #[loc b0_0 0, .string (bs x1)] σ [Res.cells b0_0 #[badV u0_1 b0_0, .slice a0_2 x0.buf.length c0_3] 68, Res.rowS 5 1 encU8 (.slice a0_2 x0.buf.length c0_3) x0.buf] (fun v σ' H' => ∃ (uo1 : Bool), ∃ (ao2 : Option Addr), ∃ (co3 : Nat), v = .tuple #[.int .i64 r.1, .nilIface] ∧ σ = σ' ∧ H' = [Res.cells b0_0 #[badV uo1 b0_0, .slice ao2 r.2.2.buf.length co3] 68, Res.rowS 5 1 encU8 (.slice ao2 r.2.2.buf.length co3) r.2.2.buf]) := by
 dsimp only [writeS] at hh
 refine Con.mk (n := 19) Tryz.func64 z z z (fun w0 => ?_)
 have x1b := grd_c hh
 replace hh := grd_t hh
 refine TC.a (TL.a z (.inr z) z z z (TL.v z (OpVal.mv (.inr z)) z z (TL.en (TC.a (TL.lo z (.inl z) z z z (TL.front 1 z z (TL.front 1 z z ?_)))))))
 obtain ⟨v4, u4, hh⟩ := bnd_e hh
 refine TL.op z (OpOk.call (copyCheck_con u4) z z pf96 z z z z ?_)
 rintro _ _ _ hle104 ⟨u104_1, a104_2, c104_3, rfl, rfl, rfl⟩
 refine TL.en (TC.a (TL.lo z (.inl z) z z z (TL.lo z (.inl z) z z z (TL.v z (OpVal.nilCheckLoc z z) z z (TL.v z (OpVal.fieldLoc z fo68_1 z) z z (TL.v z (OpVal.loadLoc z ag66 z (i := 0) z z) z z (TL.v z (OpVal.moveStr (.inl z) z) z z (TL.front 1 z z ?_))))))))
 have u11 := grd_c hh
 replace hh := grd_t hh
 refine TL.op z (OpOk.appendStr z Tryz.underlying66 Tryz.underlying9 sz5 by5 ze5 z z z z u11 (fun a106 c107 => ?_))
 refine TL.v z (OpVal.nilCheckLoc z z) z z (TL.v z (OpVal.fieldLoc z fo68_1 z) z z (TL.front 1 z z (TL.op z (OpOk.storeSl z sz66 z z z z z ?_))))
 refine TL.en (TC.a (TL.v z (OpVal.moveStr (.inl z) z) z z (TL.v z (OpVal.lenBs z Tryz.underlying9 z) z z (TL.a z (.inr z) z z z (TL.v z (OpVal.mv (.inr z)) z z (TL.en (TC.ret ?_)))))))
 obtain rfl := so hh
 exact RetOk.mk' (rs := [.tmp 4, .tmp 5]) [Res.cells b0_0 #[badV u104_1 b0_0, .slice a106 ((v4.buf ++ x1).length) c107] 68, Res.rowS 5 1 encU8 (.slice a106 (v4.buf ++ x1).length c107) (v4.buf ++ x1)] z (.inl z) (RVs.tmp z (RVs.tmp z RVs.nil)) (List.sublist_append_left _ _) ⟨u104_1, a106, c107, z, z, z⟩

noncomputable def writeSU (x0 : Turned) (x1 : List UInt8) : Option (Int × Unit × Turned) :=
 grd (x1.length ≤ 281474976710656) (bnd (copyCheckU (⟨(⟨x0.b.buf⟩ : SB), x0.at'⟩ : Turned)) (fun v4 => grd (v4.b.buf.length + x1.length ≤ 140737488355328) (some (((x1.length : Nat) : Int), (), (⟨(⟨(v4.b.buf ++ x1)⟩ : SB), v4.at'⟩ : Turned)))))
theorem writeSU_con {σ : Store} {x0 : Turned} {b0_0 : Nat} {u0_1 : Bool} {a0_2 : Option Addr} {c0_3 : Nat} {a0_4 : Option Addr} {c0_5 : Nat} {x1 : List UInt8}  {r : Int × Unit × Turned} (hh : writeSU x0 x1 = some r) :
  Con Tryz.prog 64 #[loc b0_0 0, .string (bs x1)] σ [Res.cells b0_0 #[badV u0_1 b0_0, .slice a0_2 x0.b.buf.length c0_3, .slice a0_4 x0.at'.length c0_5] 70, Res.rowS 5 1 encU8 (.slice a0_2 x0.b.buf.length c0_3) x0.b.buf, Res.rowS 56 2 encSpan (.slice a0_4 x0.at'.length c0_5) x0.at'] (fun v σ' H' => ∃ (uo1 : Bool), ∃ (ao2 : Option Addr), ∃ (co3 : Nat), ∃ (ao4 : Option Addr), ∃ (co5 : Nat), v = .tuple #[.int .i64 r.1, .nilIface] ∧ σ = σ' ∧ H' = [Res.cells b0_0 #[badV uo1 b0_0, .slice ao2 r.2.2.b.buf.length co3, .slice ao4 r.2.2.at'.length co5] 70, Res.rowS 5 1 encU8 (.slice ao2 r.2.2.b.buf.length co3) r.2.2.b.buf, Res.rowS 56 2 encSpan (.slice ao4 r.2.2.at'.length co5) r.2.2.at']) := by
 dsimp only [writeSU] at hh
 refine Con.mk (n := 19) Tryz.func64 z z z (fun w0 => ?_)
 have x1b := grd_c hh
 replace hh := grd_t hh
 refine TC.a (TL.a z (.inr z) z z z (TL.v z (OpVal.mv (.inr z)) z z (TL.en (TC.a (TL.lo z (.inl z) z z z (TL.front 2 z z (TL.front 2 z z (TL.front 2 z z ?_))))))))
 obtain ⟨v4, u4, hh⟩ := bnd_e hh
 refine TL.op z (OpOk.call (copyCheckU_con u4) z z pf96 z z z z ?_)
 rintro _ _ _ hle106 ⟨u106_1, a106_2, c106_3, a106_4, c106_5, rfl, rfl, rfl⟩
 refine TL.en (TC.a (TL.lo z (.inl z) z z z (TL.lo z (.inl z) z z z (TL.v z (OpVal.nilCheckLoc z z) z z (TL.v z (OpVal.fieldLoc z fo68_1 z) z z (TL.v z (OpVal.loadLoc z ag66 z (i := 0) z z) z z (TL.v z (OpVal.moveStr (.inl z) z) z z (TL.front 1 z z ?_))))))))
 have u11 := grd_c hh
 replace hh := grd_t hh
 refine TL.op z (OpOk.appendStr z Tryz.underlying66 Tryz.underlying9 sz5 by5 ze5 z z z z u11 (fun a109 c110 => ?_))
 refine TL.v z (OpVal.nilCheckLoc z z) z z (TL.v z (OpVal.fieldLoc z fo68_1 z) z z (TL.front 1 z z (TL.op z (OpOk.storeSl z sz66 z z z z z ?_))))
 refine TL.en (TC.a (TL.v z (OpVal.moveStr (.inl z) z) z z (TL.v z (OpVal.lenBs z Tryz.underlying9 z) z z (TL.a z (.inr z) z z z (TL.v z (OpVal.mv (.inr z)) z z (TL.en (TC.ret ?_)))))))
 obtain rfl := so hh
 exact RetOk.mk' (rs := [.tmp 4, .tmp 5]) [Res.cells b0_0 #[badV u106_1 b0_0, .slice a109 ((v4.b.buf ++ x1).length) c110, .slice a106_4 v4.at'.length c106_5] 70, Res.rowS 5 1 encU8 (.slice a109 (v4.b.buf ++ x1).length c110) (v4.b.buf ++ x1), Res.rowS 56 2 encSpan (.slice a106_4 v4.at'.length c106_5) v4.at'] z (.inl z) (RVs.tmp z (RVs.tmp z RVs.nil)) (List.sublist_append_left _ _) ⟨u106_1, a109, c110, a106_4, c106_5, z, z, z⟩

noncomputable def lenU (x0 : Turned) : Option (Int) :=
 some ((x0.b.buf.length : Nat) : Int)
theorem lenU_con {σ : Store} {x0 : Turned} {b0_0 : Nat} {u0_1 : Bool} {a0_2 : Option Addr} {c0_3 : Nat} {a0_4 : Option Addr} {c0_5 : Nat}  {r : Int} (hh : lenU x0 = some r) :
  Con Tryz.prog 32 #[loc b0_0 0] σ [Res.cells b0_0 #[badV u0_1 b0_0, .slice a0_2 x0.b.buf.length c0_3, .slice a0_4 x0.at'.length c0_5] 70, Res.rowS 5 1 encU8 (.slice a0_2 x0.b.buf.length c0_3) x0.b.buf, Res.rowS 56 2 encSpan (.slice a0_4 x0.at'.length c0_5) x0.at'] (fun v σ' H' => v = .int .i64 r ∧ σ = σ' ∧ H' = [Res.cells b0_0 #[badV u0_1 b0_0, .slice a0_2 x0.b.buf.length c0_3, .slice a0_4 x0.at'.length c0_5] 70, Res.rowS 5 1 encU8 (.slice a0_2 x0.b.buf.length c0_3) x0.b.buf, Res.rowS 56 2 encSpan (.slice a0_4 x0.at'.length c0_5) x0.at']) := by
 dsimp only [lenU] at hh
 refine Con.mk (n := 8) Tryz.func32 z z z (fun w0 => ?_)
 refine TC.a (TL.a z (.inr z) z z z (TL.en (TC.a (TL.lo z (.inl z) z z z (TL.v z (OpVal.nilCheckLoc z z) z z (TL.v z (OpVal.fieldLoc z fo68_1 z) z z (TL.v z (OpVal.loadLoc z ag66 z (i := 0) z z) z z (TL.v z (OpVal.lenC z Tryz.underlying66 z) z z (TL.a z (.inr z) z z z ?_)))))))))
 refine TL.en (TC.ret ?_)
 obtain rfl := so hh
 exact RetOk.mk' (rs := [.tmp 2]) [Res.cells b0_0 #[badV u0_1 b0_0, .slice a0_2 x0.b.buf.length c0_3, .slice a0_4 x0.at'.length c0_5] 70, Res.rowS 5 1 encU8 (.slice a0_2 x0.b.buf.length c0_3) x0.b.buf, Res.rowS 56 2 encSpan (.slice a0_4 x0.at'.length c0_5) x0.at'] z (.inl z) (RVs.tmp z RVs.nil) (List.sublist_append_left _ _) ⟨z, z, z⟩

noncomputable def stringB (x0 : SB) : Option ((List UInt8)) :=
 some x0.buf
theorem stringB_con {σ : Store} {x0 : SB} {b0_0 : Nat} {u0_1 : Bool} {a0_2 : Option Addr} {c0_3 : Nat}  {r : (List UInt8)} (hh : stringB x0 = some r) :
  Con Tryz.prog 65 #[loc b0_0 0] σ [Res.cells b0_0 #[badV u0_1 b0_0, .slice a0_2 x0.buf.length c0_3] 68, Res.rowS 5 1 encU8 (.slice a0_2 x0.buf.length c0_3) x0.buf] (fun v σ' H' => v = .string (bs r) ∧ σ = σ' ∧ H' = []) := by
 dsimp only [stringB] at hh
 refine Con.mk (n := 14) Tryz.func65 z z z (fun w0 => ?_)
 refine TC.a (TL.v z (OpVal.moveStr (.inr z) z) z z (TL.en (TC.seq (TC.drawR (Hr := [Res.cells b0_0 #[badV u0_1 b0_0, .slice a0_2 x0.buf.length c0_3] 68]) (fun r hr => mem_pick [0] z hr) [] (by kernel_rfl) (TA.a 0 z (OpVal.moveLoc (.inl z) z) z (TA.a 1 z (OpVal.nilCheckLoc z z) z (TA.a 2 z (OpVal.fieldLoc z fo68_1 z) z (TA.b 3 z (OpVal.loadLoc z ag66 z (i := 0) z z) z (TA.a 5 z (OpVal.moveLoc (.inl z) z) z ?_)))))))))
 refine TA.a 6 z (OpVal.nilCheckLoc z z) z (TA.a 7 z (OpVal.fieldLoc z fo68_1 z) z (TA.b 8 z (OpVal.loadLoc z ag66 z (i := 0) z z) z (TA.b 9 z (OpVal.lenC z Tryz.underlying66 z) z (TA.front 1 z z (TA.ac 4 z (OpOk.sliceDat z z Tryz.underlying156 z z z (fun sq105 sh106 => (k1 ?_))))))))
 refine TA.ac 10 z (OpOk.unsStr z Tryz.underlying156 ce5 z z z sh106 z (k0 ?_))
 refine TA.a 11 z (OpVal.moveStr (.inr z) z) z (TA.dn (S.n (TC.ofSub (Sub.pre 0 z) (TC.ret ?_))))
 obtain rfl := so hh
 exact r1 2

noncomputable def stringU (x0 : Turned) : Option ((List UInt8)) :=
 some x0.b.buf
theorem stringU_con {σ : Store} {x0 : Turned} {b0_0 : Nat} {u0_1 : Bool} {a0_2 : Option Addr} {c0_3 : Nat} {a0_4 : Option Addr} {c0_5 : Nat}  {r : (List UInt8)} (hh : stringU x0 = some r) :
  Con Tryz.prog 65 #[loc b0_0 0] σ [Res.cells b0_0 #[badV u0_1 b0_0, .slice a0_2 x0.b.buf.length c0_3, .slice a0_4 x0.at'.length c0_5] 70, Res.rowS 5 1 encU8 (.slice a0_2 x0.b.buf.length c0_3) x0.b.buf, Res.rowS 56 2 encSpan (.slice a0_4 x0.at'.length c0_5) x0.at'] (fun v σ' H' => v = .string (bs r) ∧ σ = σ' ∧ H' = [Res.cells b0_0 #[badV u0_1 b0_0, .slice a0_2 x0.b.buf.length c0_3, .slice a0_4 x0.at'.length c0_5] 70, Res.rowS 56 2 encSpan (.slice a0_4 x0.at'.length c0_5) x0.at']) := by
 dsimp only [stringU] at hh
 refine Con.mk (n := 14) Tryz.func65 z z z (fun w0 => ?_)
 refine TC.a (TL.v z (OpVal.moveStr (.inr z) z) z z (TL.en (TC.seq (TC.drawR (Hr := [Res.cells b0_0 #[badV u0_1 b0_0, .slice a0_2 x0.b.buf.length c0_3, .slice a0_4 x0.at'.length c0_5] 70, Res.rowS 56 2 encSpan (.slice a0_4 x0.at'.length c0_5) x0.at']) (fun r hr => mem_pick [0, 2] z hr) [] (by kernel_rfl) (TA.a 0 z (OpVal.moveLoc (.inl z) z) z (TA.a 1 z (OpVal.nilCheckLoc z z) z (TA.a 2 z (OpVal.fieldLoc z fo68_1 z) z (TA.b 3 z (OpVal.loadLoc z ag66 z (i := 0) z z) z (TA.a 5 z (OpVal.moveLoc (.inl z) z) z ?_)))))))))
 refine TA.a 6 z (OpVal.nilCheckLoc z z) z (TA.a 7 z (OpVal.fieldLoc z fo68_1 z) z (TA.b 8 z (OpVal.loadLoc z ag66 z (i := 0) z z) z (TA.b 9 z (OpVal.lenC z Tryz.underlying66 z) z (TA.front 1 z z (TA.ac 4 z (OpOk.sliceDat z z Tryz.underlying156 z z z (fun sq106 sh107 => (k1 ?_))))))))
 refine TA.ac 10 z (OpOk.unsStr z Tryz.underlying156 ce5 z z z sh107 z (k0 ?_))
 refine TA.a 11 z (OpVal.moveStr (.inr z) z) z (TA.dn (S.n (TC.ret ?_)))
 obtain rfl := so hh
 exact RetOk.mk' (rs := [.tmp 2]) [Res.cells b0_0 #[badV u0_1 b0_0, .slice a0_2 x0.b.buf.length c0_3, .slice a0_4 x0.at'.length c0_5] 70, Res.rowS 56 2 encSpan (.slice a0_4 x0.at'.length c0_5) x0.at'] z (.inl z) (RVs.tmp z RVs.nil) (List.sublist_append_left _ _) ⟨z, z, z⟩

end Go.Proofs.YtmfclggfajopkaaGreatDoor
end

/- R6 -/
section
/- Decompiled: a piece that grows; what a rule makes of a factor. -/
set_option linter.unusedVariables false
set_option linter.unusedSimpArgs false
namespace Go.Proofs.YtmfclggfajopkaaGreatDoor
open Go Go.E
set_option maxRecDepth 100000
private theorem ag34 : Go.E.aggOf Tryz.prog 34 = some false := by kernel_rfl
private theorem ag56 : Go.E.aggOf Tryz.prog 56 = some true := by kernel_rfl
private theorem by56 : Go.E.byOf Tryz.prog 56 = some 16 := by kernel_rfl
private theorem fo56_0 : Go.E.foOf Tryz.prog 56 0 = some 0 := by kernel_rfl
private theorem fo56_1 : Go.E.foOf Tryz.prog 56 1 = some 1 := by kernel_rfl
private theorem fo64_0 : Go.E.foOf Tryz.prog 64 0 = some 0 := by kernel_rfl
private theorem fo70_0 : Go.E.foOf Tryz.prog 70 0 = some 0 := by kernel_rfl
private theorem fo70_1 : Go.E.foOf Tryz.prog 70 1 = some 2 := by kernel_rfl
private theorem pf32 : Go.E.plainF Tryz.prog 32 = true := by kernel_rfl
private theorem pf63 : Go.E.plainF Tryz.prog 63 = true := by kernel_rfl
private theorem pf64 : Go.E.plainF Tryz.prog 64 = true := by kernel_rfl
private theorem pf65 : Go.E.plainF Tryz.prog 65 = true := by kernel_rfl
private theorem pl56 : Go.E.plOf Tryz.prog 56 = some #[(0, 1), (1, 1)] := by kernel_rfl
private theorem sz34 : Go.E.szOf Tryz.prog 34 = some 1 := by kernel_rfl
private theorem sz56 : Go.E.szOf Tryz.prog 56 = some 2 := by kernel_rfl
private theorem ze56 : Go.E.zeroOf Tryz.prog 56 = some (.agg #[.int .i64 0, .int .i64 0]) := by kernel_rfl
private theorem ze68 : Go.E.zeroOf Tryz.prog 68 = some (.agg #[.pointer none, .slice none 0 0]) := by kernel_rfl

noncomputable def rewrite_turned_stay_b1 (x2 : Span) (v11 : Int × Unit × Turned) (l122 : List Span) (i125 : Int) : Option (((List Span) × Int) ⊕ (Turned)) :=
 iteO (decide (i125 < x2.to)) (grd ((l122.length + [(⟨i125, IntKind.i64.wrap (i125 + 1)⟩ : Span)].length) * 16 ≤ 140737488355328) (nxt ((l122 ++ [(⟨i125, IntKind.i64.wrap (i125 + 1)⟩ : Span)]), (IntKind.i64.wrap (i125 + 1))))) (fin (some (⟨(⟨v11.2.2.b.buf⟩ : SB), l122⟩ : Turned)))
noncomputable def rewrite_turned_stay (x0 : Turned) (x1 : List UInt8) (x2 : Span) : Option (Turned) :=
 grd (x1.length ≤ 281474976710656) (grd (0 ≤ x2.frm ∧ 0 ≤ x2.to ∧ x2.frm.toNat ≤ x2.to.toNat ∧ x2.to.toNat ≤ x1.length) (bnd (writeSU (⟨(⟨x0.b.buf⟩ : SB), x0.at'⟩ : Turned) ((x1.take x2.to.toNat).drop x2.frm.toNat)) (fun v11 => iter (fun q : (List Span) × Int => rewrite_turned_stay_b1 x2 v11 q.1 q.2) (v11.2.2.at', x2.frm))))
theorem rewrite_turned_stay_con {σ : Store} {x0 : Turned} {b0_0 : Nat} {u0_1 : Bool} {a0_2 : Option Addr} {c0_3 : Nat} {a0_4 : Option Addr} {c0_5 : Nat} {x1 : List UInt8} {x2 : Span}  {r : Turned} (hh : rewrite_turned_stay x0 x1 x2 = some r) :
  Con Tryz.prog 30 #[loc b0_0 0, .string (bs x1), .agg #[.int .i64 x2.frm, .int .i64 x2.to]] σ [Res.cells b0_0 #[badV u0_1 b0_0, .slice a0_2 x0.b.buf.length c0_3, .slice a0_4 x0.at'.length c0_5] 70, Res.rowS 5 1 encU8 (.slice a0_2 x0.b.buf.length c0_3) x0.b.buf, Res.rowS 56 2 encSpan (.slice a0_4 x0.at'.length c0_5) x0.at'] (fun v σ' H' => ∃ (uo1 : Bool), ∃ (ao2 : Option Addr), ∃ (co3 : Nat), ∃ (ao4 : Option Addr), ∃ (co5 : Nat), v = .tuple #[] ∧ σ = σ' ∧ H' = [Res.cells b0_0 #[badV uo1 b0_0, .slice ao2 r.b.buf.length co3, .slice ao4 r.at'.length co5] 70, Res.rowS 5 1 encU8 (.slice ao2 r.b.buf.length co3) r.b.buf, Res.rowS 56 2 encSpan (.slice ao4 r.at'.length co5) r.at']) := by
 dsimp only [rewrite_turned_stay] at hh
 refine Con.mk (n := 38) Tryz.func30 z z z (fun w0 => ?_)
 refine TC.weakR ?_
 have x1b := grd_c hh
 replace hh := grd_t hh
 refine TC.a (TL.op z (OpOk.boxA z z z z (fun b106 => ?_)))
 refine TL.en (TC.seq ?_)
 have u10 := grd_c hh
 replace hh := grd_t hh
 obtain ⟨v11, u11, hh⟩ := bnd_e hh
 refine TC.drawR (Hr := [Res.cells b106 #[.int .i64 x2.frm, .int .i64 x2.to] 56]) (fun r hr => mem_pick [0] z hr) [] (by kernel_rfl) (TA.a 0 z (OpVal.moveLoc (.inl z) z) z (TA.a 1 z (OpVal.nilCheckLoc z z) z (TA.a 2 z (OpVal.fieldLoc z fo70_0 z) z (TA.a 3 z (OpVal.moveStr (.inl z) z) z (TA.a 4 z (OpVal.fieldLoc z fo56_0 z) z (TA.b 5 z (OpVal.loadLoc z ag3 z (i := 0) z z) z (TA.a 6 z (OpVal.fieldLoc z fo56_1 z) z (TA.b 7 z (OpVal.loadLoc z ag3 z (i := 0) z z) z (TA.b 8 rfl (OpVal.sliceBs (l := x1) (i := x2.frm.toNat) (j := x2.to.toNat) rfl Tryz.underlying9 rfl (by show Value.int _ _ = _; rw [Int.toNat_of_nonneg (by omega)]) (by show Value.int _ _ = _; rw [Int.toNat_of_nonneg (by omega)]) (by omega) (by omega)) rfl ?_)))))))))
 refine TA.front 3 z z (TA.front 3 z z (TA.front 3 z z (TA.ac 9 z (OpOk.call (writeSU_con u11) z z pf64 z z z z ?_))))
 rintro _ _ _ hle111 ⟨u111_1, a111_2, c111_3, a111_4, c111_5, rfl, rfl, rfl⟩
 refine k3 (TA.dn (S.n (TC.a (TL.v z (OpVal.fieldLoc z fo56_0 z) z z (TL.v z (OpVal.loadLoc z ag3 z (i := 3) z z) z z (TL.a z (.inr z) z z z (TL.en (TC.block (TC.loopG (α := ((List Span) × Int) × ((Option Addr) × Nat)) [6, 19, 20, 21, 22, 23, 24, 25, 26, 27, 28, 29, 30, 31, 32, 33, 34, 35, 36, 37] (fun g => [(6, .int .i64 g.1.2)]) (fun g => [Res.cells b0_0 #[badV u111_1 b0_0, .slice a111_2 v11.2.2.b.buf.length c111_3, .slice g.2.1 g.1.1.length g.2.2] 70, Res.rowS 5 1 encU8 (.slice a111_2 v11.2.2.b.buf.length c111_3) v11.2.2.b.buf, Res.rowS 56 2 encSpan (.slice g.2.1 g.1.1.length g.2.2) g.1.1, Res.cells b106 #[.int .i64 x2.frm, .int .i64 x2.to] 56]) (fun g => σ) (fun g => iter (fun q : (List Span) × Int => rewrite_turned_stay_b1 x2 v11 q.1 q.2) g.1 = some r) (fun g => rounds (fun q : (List Span) × Int => rewrite_turned_stay_b1 x2 v11 q.1 q.2) g.1) ((v11.2.2.at', x2.frm), (a111_4, c111_5)) (Sub.f [3, 3, 3, 3] 4) z (by repeat (first | exact trivial | refine ⟨z, ?_⟩)) hh (fun g1 j1 hg1 => ?_))))))))))
 obtain ⟨⟨l122, i125⟩, ⟨a123, c124⟩⟩ := g1
 have hh := hg1; clear hg1
 show TC _ _ _ (upds (mask _ j1 _) [(6, .int .i64 i125)]) _ [Res.cells b0_0 #[badV u111_1 b0_0, .slice a111_2 v11.2.2.b.buf.length c111_3, .slice a123 l122.length c124] 70, Res.rowS 5 1 encU8 (.slice a111_2 v11.2.2.b.buf.length c111_3) v11.2.2.b.buf, Res.rowS 56 2 encSpan (.slice a123 l122.length c124) l122, Res.cells b106 #[.int .i64 x2.frm, .int .i64 x2.to] 56]
 obtain ⟨z1, hh, hR1⟩ := iter_e hh
 dsimp only [rewrite_turned_stay_b1] at hh
 refine TC.isSl (i := 1) z (fun _ hb126 _ => ?_)
 refine TC.isSl (i := 2) z (fun _ hb127 _ => ?_)
 refine TC.seq (TC.a (TL.a z (.inl z) z z z (TL.v z (OpVal.fieldLoc z fo56_1 z) z z (TL.v z (OpVal.loadLoc z ag3 z (i := 3) z z) z z (TL.v z (OpVal.lss z z z) z z (TL.en (TC.cD z hh (fun h128 hh => ?_) (fun h128 hh => ?_))))))))
 ·refine TC.skip (S.n (TC.seq (TC.block (TC.region (TL.lo z (.inl z) z z z (TL.lo z (.inl z) z z z (TL.v z (OpVal.nilCheckLoc z z) z z (TL.v z (OpVal.fieldLoc z fo70_1 z) z z (TL.v z (OpVal.loadLoc z ag34 z (i := 0) z z) z z ?_)))))))))
  refine TL.a z (.inl z) z z z (TL.a z (.inl z) z z z (TL.v z (OpVal.addW z z z) z z (TL.v z (OpVal.buildL z pl56 ze56 z) z z (TL.op z (OpOk.lit (enc := encSpan) [(⟨i125, IntKind.i64.wrap (i125 + 1)⟩ : Span)] z Tryz.underlying34 sz56 ze56 z z z encSpan_len (by decide) (by decide) Span.zero z (by decide) z (by decide) encSpan_one (fun a129 c130 => ?_))))))
  refine TL.front 3 z z ?_
  have u29 := grd_c hh
  replace hh := grd_t hh
  refine TL.op z (OpOk.appendS z z Tryz.underlying34 sz56 by56 ze56 z z (by decide) z z z (.inr ⟨_, 0, z⟩) (by simpa using u29) (by decide) (fun a132 c133 => ?_))
  refine TL.v z (OpVal.nilCheckLoc z z) z z (TL.v z (OpVal.fieldLoc z fo70_1 z) z z (TL.front 2 z z (TL.op z (OpOk.storeSl z sz34 z z z z z ?_))))
  refine TL.nil (B.n (S.n (TC.region (TL.a z (.inl z) z z z (TL.v z (OpVal.addW z z z) z z (TL.a z (.inr z) z z z (TL.en ?_)))))))
  obtain ⟨hh, hlt134⟩ := nxt_x hR1 hh
  exact lf (((l122 ++ [(⟨i125, IntKind.i64.wrap (i125 + 1)⟩ : Span)]), (IntKind.i64.wrap (i125 + 1))), (a132, c133)) hlt134 hh (Sub.f [4, 2, 4, 3] 4)
 ·refine TC.exit (S.x (S.x ?_))
  replace hh := fin_x hR1 hh
  refine TC.exitHere ?_
  obtain rfl := so hh
  refine ⟨_, Sub.f [2, 2, 2] 3, ?_⟩
  exact RetOk.mk' (rs := []) [Res.cells b0_0 #[badV u111_1 b0_0, .slice a111_2 v11.2.2.b.buf.length c111_3, .slice a123 l122.length c124] 70, Res.rowS 5 1 encU8 (.slice a111_2 v11.2.2.b.buf.length c111_3) v11.2.2.b.buf, Res.rowS 56 2 encSpan (.slice a123 l122.length c124) l122] z (.inr z) RVs.nil (List.sublist_append_left _ _) ⟨u111_1, a111_2, c111_3, a123, c124, z, z, z⟩

noncomputable def rewrite_turned_put_b1 (x1 : List UInt8) (x2 : Span) (v16 : Int × Unit × Turned) (l121 : List Span) (k124 : Nat) : Option (((List Span) × Nat) ⊕ (Bool × Turned)) :=
 iteO (decide (((k124 : Nat) : Int) < ((x1.length : Nat) : Int))) (grd ((l121.length + [x2].length) * 16 ≤ 140737488355328) (nxt ((l121 ++ [x2]), (k124 + 1)))) (fin (some (true, (⟨(⟨v16.2.2.b.buf⟩ : SB), l121⟩ : Turned))))
noncomputable def rewrite_turned_put (x0 : Turned) (x1 : List UInt8) (x2 : Span) : Option (Bool × Turned) :=
 grd (x1.length ≤ 281474976710656) (bnd (lenU (⟨(⟨x0.b.buf⟩ : SB), x0.at'⟩ : Turned)) (fun v6 => iteO (decide (4096 < (IntKind.i64.wrap (v6 + ((x1.length : Nat) : Int))))) (some (false, (⟨(⟨x0.b.buf⟩ : SB), x0.at'⟩ : Turned))) (bnd (writeSU (⟨(⟨x0.b.buf⟩ : SB), x0.at'⟩ : Turned) x1) (fun v16 => iter (fun q : (List Span) × Nat => rewrite_turned_put_b1 x1 x2 v16 q.1 q.2) (v16.2.2.at', 0)))))
theorem rewrite_turned_put_con {σ : Store} {x0 : Turned} {b0_0 : Nat} {u0_1 : Bool} {a0_2 : Option Addr} {c0_3 : Nat} {a0_4 : Option Addr} {c0_5 : Nat} {x1 : List UInt8} {x2 : Span}  {r : Bool × Turned} (hh : rewrite_turned_put x0 x1 x2 = some r) :
  Con Tryz.prog 31 #[loc b0_0 0, .string (bs x1), .agg #[.int .i64 x2.frm, .int .i64 x2.to]] σ [Res.cells b0_0 #[badV u0_1 b0_0, .slice a0_2 x0.b.buf.length c0_3, .slice a0_4 x0.at'.length c0_5] 70, Res.rowS 5 1 encU8 (.slice a0_2 x0.b.buf.length c0_3) x0.b.buf, Res.rowS 56 2 encSpan (.slice a0_4 x0.at'.length c0_5) x0.at'] (fun v σ' H' => ∃ (uo1 : Bool), ∃ (ao2 : Option Addr), ∃ (co3 : Nat), ∃ (ao4 : Option Addr), ∃ (co5 : Nat), v = .bool r.1 ∧ σ = σ' ∧ H' = [Res.cells b0_0 #[badV uo1 b0_0, .slice ao2 r.2.b.buf.length co3, .slice ao4 r.2.at'.length co5] 70, Res.rowS 5 1 encU8 (.slice ao2 r.2.b.buf.length co3) r.2.b.buf, Res.rowS 56 2 encSpan (.slice ao4 r.2.at'.length co5) r.2.at']) := by
 dsimp only [rewrite_turned_put] at hh
 refine Con.mk (n := 35) Tryz.func31 z z z (fun w0 => ?_)
 have x1b := grd_c hh
 replace hh := grd_t hh
 refine TC.a (TL.op z (OpOk.boxA z z z z (fun b106 => ?_)))
 refine TL.b z (.inr z) z z z (TL.en (TC.seq (TC.a (TL.lo z (.inl z) z z z (TL.v z (OpVal.nilCheckLoc z z) z z (TL.v z (OpVal.fieldLoc z fo70_0 z) z z (TL.front 3 z z (TL.front 3 z z (TL.front 3 z z ?_)))))))))
 obtain ⟨v6, u6, hh⟩ := bnd_e hh
 refine TL.op z (OpOk.call (lenU_con u6) z z pf32 z z z z ?_)
 rintro _ _ _ hle108 ⟨rfl, rfl, rfl⟩
 refine TL.v z (OpVal.moveStr (.inl z) z) z z (TL.v z (OpVal.lenBs z Tryz.underlying9 z) z z (TL.v z (OpVal.addW z z z) z z (TL.v z (OpVal.gtr z z z) z z (TL.en (TC.cD z hh (fun h109 hh => ?_) (fun h109 hh => ?_))))))
 ·refine TC.a (TL.b z (.inr z) z z z (TL.en (TC.ofSub (Sub.f [2, 2, 2] 3) (TC.ret (S.r ?_)))))
  obtain rfl := so hh
  exact RetOk.mk' (rs := [.tmp 6]) [Res.cells b0_0 #[badV u0_1 b0_0, .slice a0_2 x0.b.buf.length c0_3, .slice a0_4 x0.at'.length c0_5] 70, Res.rowS 5 1 encU8 (.slice a0_2 x0.b.buf.length c0_3) x0.b.buf, Res.rowS 56 2 encSpan (.slice a0_4 x0.at'.length c0_5) x0.at'] z (.inl z) (RVs.tmp z RVs.nil) (List.sublist_append_left _ _) ⟨u0_1, a0_2, c0_3, a0_4, c0_5, z, z, z⟩
 ·refine TC.skip (S.n (TC.a (TL.lo z (.inl z) z z z (TL.v z (OpVal.nilCheckLoc z z) z z (TL.v z (OpVal.fieldLoc z fo70_0 z) z z (TL.v z (OpVal.moveStr (.inl z) z) z z (TL.front 2 z z (TL.front 2 z z (TL.front 2 z z ?_)))))))))
  obtain ⟨v16, u16, hh⟩ := bnd_e hh
  refine TL.op z (OpOk.call (writeSU_con u16) z z pf64 z z z z ?_)
  rintro _ _ _ hle110 ⟨u110_1, a110_2, c110_3, a110_4, c110_5, rfl, rfl, rfl⟩
  refine TL.en (TC.seq (TC.a (TL.v z (OpVal.moveStr (.inl z) z) z z (TL.v z (OpVal.lenBs z Tryz.underlying9 z) z z (TL.a z (.inl z) z z z (TL.en (TC.block (TC.loopG (α := ((List Span) × Nat) × ((Option Addr) × Nat)) [22, 23, 24, 25, 26, 27, 28, 29, 30, 31, 32, 33, 34] (fun g => [(22, .int .i64 ((g.1.2 : Nat) : Int))]) (fun g => [Res.cells b0_0 #[badV u110_1 b0_0, .slice a110_2 v16.2.2.b.buf.length c110_3, .slice g.2.1 g.1.1.length g.2.2] 70, Res.rowS 5 1 encU8 (.slice a110_2 v16.2.2.b.buf.length c110_3) v16.2.2.b.buf, Res.rowS 56 2 encSpan (.slice g.2.1 g.1.1.length g.2.2) g.1.1, Res.cells b106 #[.int .i64 x2.frm, .int .i64 x2.to] 56]) (fun g => σ) (fun g => iter (fun q : (List Span) × Nat => rewrite_turned_put_b1 x1 x2 v16 q.1 q.2) g.1 = some r) (fun g => rounds (fun q : (List Span) × Nat => rewrite_turned_put_b1 x1 x2 v16 q.1 q.2) g.1) ((v16.2.2.at', 0), (a110_4, c110_5)) (Sub.f [3, 3, 3, 3] 4) z (by repeat (first | exact trivial | refine ⟨z, ?_⟩)) hh (fun g1 j1 hg1 => ?_)))))))))
  obtain ⟨⟨l121, k124⟩, ⟨a122, c123⟩⟩ := g1
  have hh := hg1; clear hg1
  show TC _ _ _ (upds (mask _ j1 _) [(22, .int .i64 ((k124 : Nat) : Int))]) _ [Res.cells b0_0 #[badV u110_1 b0_0, .slice a110_2 v16.2.2.b.buf.length c110_3, .slice a122 l121.length c123] 70, Res.rowS 5 1 encU8 (.slice a110_2 v16.2.2.b.buf.length c110_3) v16.2.2.b.buf, Res.rowS 56 2 encSpan (.slice a122 l121.length c123) l121, Res.cells b106 #[.int .i64 x2.frm, .int .i64 x2.to] 56]
  obtain ⟨z1, hh, hR1⟩ := iter_e hh
  dsimp only [rewrite_turned_put_b1] at hh
  refine TC.isSl (i := 1) z (fun _ hb125 _ => ?_)
  refine TC.isSl (i := 2) z (fun _ hb126 _ => ?_)
  refine TC.a (TL.v z (OpVal.lss z z z) z z (TL.en (TC.seq (TC.cD z hh (fun h127 hh => ?_) (fun h127 hh => ?_)))))
  ·refine TC.skip (S.n (TC.seq (TC.block ?_)))
   have u28 := grd_c hh
   replace hh := grd_t hh
   refine TC.draw [7, 8, 9, 10] (by kernel_rfl) (TA.a 0 z (OpVal.moveLoc (.inl z) z) z (TA.a 1 z (OpVal.moveLoc (.inl z) z) z (TA.a 2 z (OpVal.nilCheckLoc z z) z (TA.a 3 z (OpVal.fieldLoc z fo70_1 z) z (TA.b 4 z (OpVal.loadLoc z ag34 z (i := 0) z z) z (TA.b 5 z (OpVal.loadAll z ag56 sz56 z (i := 3) z z) z (TA.ac 6 z (OpOk.lit (enc := encSpan) [x2] z Tryz.underlying34 sz56 ze56 z z z encSpan_len (by decide) (by decide) Span.zero z (by decide) z (by decide) encSpan_one (fun a133 c134 => (k1 ?_))))))))))
   refine TA.front 3 z z (TA.last 7 (by kernel_rfl) z z z (OpOk.appendS z z Tryz.underlying34 sz56 by56 ze56 z z (by decide) z z z (.inr ⟨_, 0, z⟩) (by simpa using u28) (by decide) (fun a136 c137 => ?_)))
   refine TZ.v 8 (by kernel_rfl) z z z (OpVal.nilCheckLoc z z) z z (TZ.v 9 (by kernel_rfl) z z z (OpVal.fieldLoc z fo70_1 z) z z (TZ.front 2 z z (TZ.last 10 (by kernel_rfl) z z z (OpOk.storeSl z sz34 z z z z z ?_))))
   refine TZ.done (by kernel_rfl) (B.n (S.n (TC.region (TL.v z (OpVal.succ z z z (by omega)) z z (TL.a z (.inl z) z z z (TL.en ?_))))))
   obtain ⟨hh, hlt138⟩ := nxt_x hR1 hh
   exact lf (((l121 ++ [x2]), (k124 + 1)), (a136, c137)) hlt138 hh (Sub.f [4, 2, 4, 3] 4)
  ·refine TC.exit (S.x (S.x ?_))
   replace hh := fin_x hR1 hh
   refine TC.exitHere (S.n (TC.a (TL.b z (.inr z) z z z (TL.en (TC.ofSub (Sub.f [2, 2, 2] 3) (TC.ret ?_))))))
   obtain rfl := so hh
   exact RetOk.mk' (rs := [.tmp 6]) [Res.cells b0_0 #[badV u110_1 b0_0, .slice a110_2 v16.2.2.b.buf.length c110_3, .slice a122 l121.length c123] 70, Res.rowS 5 1 encU8 (.slice a110_2 v16.2.2.b.buf.length c110_3) v16.2.2.b.buf, Res.rowS 56 2 encSpan (.slice a122 l121.length c123) l121] z (.inl z) (RVs.tmp z RVs.nil) (List.sublist_append_left _ _) ⟨u110_1, a110_2, c110_3, a122, c123, z, z, z⟩

noncomputable def seq_Apply_b1 (x1 : List UInt8) (x0 : Seq) (l126 : List UInt8) (i129 : Int) (k130 : Nat) : Option (((List UInt8) × Int × Nat) ⊕ ((List UInt8) × Int × Bool × Int)) :=
 iteO (decide (((k130 : Nat) : Int) < ((x1.length : Nat) : Int))) (grd (0 ≤ i129 ∧ i129 < (x0.next.length : Int)) (grd ((nth x1 k130 (0 : UInt8)).toNat < (nth x0.next i129.toNat ([] : List Int)).length) (iteO (decide ((nth (nth x0.next i129.toNat ([] : List Int)) ((nth x1 k130 (0 : UInt8)).toNat) (0 : Int)) < 0)) (fin (some (([] : List UInt8), ((k130 : Nat) : Int), false, 0))) (grd (0 ≤ i129 ∧ i129 < (x0.outs.length : Int)) (grd ((nth x1 k130 (0 : UInt8)).toNat < (nth x0.outs i129.toNat ([] : List (List UInt8))).length) (bnd (writeS (⟨l126⟩ : SB) (nth (nth x0.outs i129.toNat ([] : List (List UInt8))) ((nth x1 k130 (0 : UInt8)).toNat) ([] : List UInt8))) (fun v60 => nxt (v60.2.2.buf, (nth (nth x0.next i129.toNat ([] : List Int)) ((nth x1 k130 (0 : UInt8)).toNat) (0 : Int)), (k130 + 1))))))))) (fin (grd (0 ≤ i129 ∧ i129 < (x0.fin.length : Int)) (iteO (!(nth x0.fin i129.toNat false)) (some (([] : List UInt8), ((x1.length : Nat) : Int), false, 0)) (grd (0 ≤ i129 ∧ i129 < (x0.tail.length : Int)) (bnd (writeS (⟨l126⟩ : SB) (nth x0.tail i129.toNat ([] : List UInt8))) (fun v82 => bnd (stringB (⟨v82.2.2.buf⟩ : SB)) (fun v83 => some (v83, ((x1.length : Nat) : Int), true, 0))))))))
noncomputable def seq_Apply (x0 : Seq) (x1 : List UInt8) : Option ((List UInt8) × Int × Bool × Int) :=
 grd (x1.length ≤ 281474976710656) (bnd (seq_Check x0) (fun v7 => iteO (decide (v7 ≠ 0)) (some (([] : List UInt8), 0, false, 1)) (iteO (decide (((x0.next.length : Nat) : Int) = 0)) (some (([] : List UInt8), 0, false, 0)) (bnd (writeS (⟨([] : List UInt8)⟩ : SB) x0.front) (fun v24 => iter (fun q : (List UInt8) × Int × Nat => seq_Apply_b1 x1 x0 q.1 q.2.1 q.2.2) (v24.2.2.buf, 0, 0))))))
theorem seq_Apply_con {σ : Store} {x0 : Seq} {a0_0 : Option Addr} {c0_0 : Nat} {a0_1 : Option Addr} {c0_1 : Nat} {a0_2 : Option Addr} {c0_2 : Nat} {a0_3 : Option Addr} {c0_3 : Nat} {x1 : List UInt8} (f0_0 : RZ σ (pkSl 1 Go.E.encI Go.E.encI_len) (.slice a0_0 x0.next.length c0_0) x0.next) (f0_1 : RZ σ (pkSl 1 Go.E.encS Go.E.encS_len) (.slice a0_1 x0.outs.length c0_1) x0.outs) (f0_2 : RS σ 1 encB (.slice a0_2 x0.fin.length c0_2) x0.fin) (f0_3 : RS σ 1 Go.E.encS (.slice a0_3 x0.tail.length c0_3) x0.tail) {r : (List UInt8) × Int × Bool × Int} (hh : seq_Apply x0 x1 = some r) :
  Con Tryz.prog 63 #[.agg #[.string (bs x0.front), .slice a0_0 x0.next.length c0_0, .slice a0_1 x0.outs.length c0_1, .slice a0_2 x0.fin.length c0_2, .slice a0_3 x0.tail.length c0_3], .string (bs x1)] σ [] (PureP (.tuple #[.string (bs r.1), .int .i64 r.2.1, .bool r.2.2.1, .int .i64 r.2.2.2]) σ) := by
 dsimp only [seq_Apply] at hh
 have f0_0b := f0_0.big
 have f0_1b := f0_1.big
 have f0_2b := f0_2.rv.big
 have f0_3b := f0_3.rv.big
 refine Con.mk (n := 70) Tryz.func63 z z z (fun w0 => ?_)
 have x1b := grd_c hh
 replace hh := grd_t hh
 refine TC.a (TL.op z (OpOk.boxA z z z z (fun b101 => ?_)))
 refine TL.v z (OpVal.moveStr (.inr z) z) z z (TL.a z (.inr z) z z z (TL.b z (.inr z) z z z (TL.a z (.inr z) z z z (TL.en (TC.seq (TC.a (TL.v z (OpVal.loadAll z ag30 sz30 z (i := 0) z z) z z ?_)))))))
 obtain ⟨v7, u7, hh⟩ := bnd_e hh
 refine TL.op z (OpOk.callP (seq_Check_con (x0 := x0) f0_0 f0_1 f0_2 f0_3 u7) z z pf44 z z z ?_)
 refine TL.v z (OpVal.neq z z z) z z (TL.en (TC.cD z hh (fun h103 hh => ?_) (fun h103 hh => ?_)))
 ·refine TC.a (TL.v z (OpVal.moveStr (.inr z) z) z z (TL.a z (.inr z) z z z (TL.b z (.inr z) z z z (TL.a z (.inr z) z z z (TL.en (TC.ofSub (Sub.pre 0 z) (TC.ret (S.r ?_))))))))
  obtain rfl := so hh
  exact RetOk.mk' (rs := [.tmp 4, .tmp 5, .tmp 6, .tmp 7]) [] z (.inl z) (RVs.tmp z (RVs.tmp z (RVs.tmp z (RVs.tmp z RVs.nil)))) (List.sublist_append_left _ _) ⟨z, z, z⟩
 ·refine TC.skip (S.n (TC.seq (TC.a (TL.v z (OpVal.fieldLoc z fo30_1 z) z z (TL.v z (OpVal.loadLoc z ag23 z (i := 0) z z) z z (TL.v z (OpVal.lenC z Tryz.underlying23 z) z z (TL.v z (OpVal.eql z z z) z z (TL.en (TC.cD z hh (fun h104 hh => ?_) (fun h104 hh => ?_))))))))))
  ·refine TC.a (TL.v z (OpVal.moveStr (.inr z) z) z z (TL.a z (.inr z) z z z (TL.b z (.inr z) z z z (TL.a z (.inr z) z z z (TL.en (TC.ofSub (Sub.pre 0 z) (TC.ret (S.r ?_))))))))
   obtain rfl := so hh
   exact RetOk.mk' (rs := [.tmp 4, .tmp 5, .tmp 6, .tmp 7]) [] z (.inl z) (RVs.tmp z (RVs.tmp z (RVs.tmp z (RVs.tmp z RVs.nil)))) (List.sublist_append_left _ _) ⟨z, z, z⟩
  ·refine TC.skip (S.n (TC.a (TL.op z (OpOk.alloc z ze68 z z (fun b105 => ?_)))))
   refine TL.asH (H' := [Res.cells b105 #[badV false b105, .slice none 0 0] 68, Res.cells b101 #[.string (bs x0.front), .slice a0_0 x0.next.length c0_0, .slice a0_1 x0.outs.length c0_1, .slice a0_2 x0.fin.length c0_2, .slice a0_3 x0.tail.length c0_3] 30]) z (TL.en (TC.a (TL.v z (OpVal.fieldLoc z fo30_0 z) z z (TL.v z (OpVal.loadLoc z ag9 z (i := 1) z z) z z (TL.nilS 5 1 encU8 (TL.front 1 z z ?_))))))
   obtain ⟨v24, u24, hh⟩ := bnd_e hh
   refine TL.op z (OpOk.call (writeS_con u24) z z pf64 z z z z ?_)
   rintro _ _ _ hle108 ⟨u108_1, a108_2, c108_3, rfl, rfl, rfl⟩
   refine TL.en (TC.a (TL.a z (.inr z) z z z (TL.en (TC.seq (TC.a (TL.v z (OpVal.moveStr (.inl z) z) z z (TL.v z (OpVal.lenBs z Tryz.underlying9 z) z z (TL.a z (.inl z) z z z (TL.en ?_)))))))))
   refine TC.block (TC.loopG (α := ((List UInt8) × Int × Nat) × (Bool × (Option Addr) × Nat)) [4, 5, 6, 7, 9, 10, 11, 24, 25, 26, 27, 28, 29, 30, 31, 32, 33, 34, 35, 36, 37, 38, 39, 40, 41, 42, 43, 44, 45, 46, 47, 48, 49, 50, 51, 52] (fun g => [(9, .int .i64 g.1.2.1), (24, .int .i64 ((g.1.2.2 : Nat) : Int))]) (fun g => [Res.cells b101 #[.string (bs x0.front), .slice a0_0 x0.next.length c0_0, .slice a0_1 x0.outs.length c0_1, .slice a0_2 x0.fin.length c0_2, .slice a0_3 x0.tail.length c0_3] 30, Res.cells b105 #[badV g.2.1 b105, .slice g.2.2.1 g.1.1.length g.2.2.2] 68, Res.rowS 5 1 encU8 (.slice g.2.2.1 g.1.1.length g.2.2.2) g.1.1]) (fun g => σ) (fun g => iter (fun q : (List UInt8) × Int × Nat => seq_Apply_b1 x1 x0 q.1 q.2.1 q.2.2) g.1 = some r) (fun g => rounds (fun q : (List UInt8) × Int × Nat => seq_Apply_b1 x1 x0 q.1 q.2.1 q.2.2) g.1) ((v24.2.2.buf, 0, 0), (u108_1, a108_2, c108_3)) (Sub.f [1, 1, 2] 3) z (by repeat (first | exact trivial | refine ⟨z, ?_⟩)) hh (fun g1 j1 hg1 => ?_))
   obtain ⟨⟨l126, i129, k130⟩, ⟨u124, a127, c128⟩⟩ := g1
   have hh := hg1; clear hg1
   show TC _ _ _ (upds (mask _ j1 _) [(9, .int .i64 i129), (24, .int .i64 ((k130 : Nat) : Int))]) _ [Res.cells b101 #[.string (bs x0.front), .slice a0_0 x0.next.length c0_0, .slice a0_1 x0.outs.length c0_1, .slice a0_2 x0.fin.length c0_2, .slice a0_3 x0.tail.length c0_3] 30, Res.cells b105 #[badV u124 b105, .slice a127 l126.length c128] 68, Res.rowS 5 1 encU8 (.slice a127 l126.length c128) l126]
   obtain ⟨z1, hh, hR1⟩ := iter_e hh
   dsimp only [seq_Apply_b1] at hh
   refine TC.isSl (i := 2) z (fun _ hb131 _ => ?_)
   refine TC.a (TL.v z (OpVal.lss z z z) z z (TL.en (TC.seq (TC.cD z hh (fun h132 hh => ?_) (fun h132 hh => ?_)))))
   ·refine TC.skip (S.n (TC.seq (TC.block (TC.a (TL.a z (.inl z) z z z (TL.a z (.inr z) z z z (TL.en (TC.seq ?_))))))))
    have u35 := grd_c hh
    replace hh := grd_t hh
    have u40 := grd_c hh
    replace hh := grd_t hh
    refine TC.draw [] (by kernel_rfl) (TA.a 0 z (OpVal.fieldLoc z fo30_1 z) z (TA.b 1 z (OpVal.loadLoc z ag23 z (i := 0) z z) z (TA.a 2 z (OpVal.moveI (.inl z) z) z (TA.b 3 z (OpVal.index z Tryz.underlying23 sz22 z z f0_0.isSl u35.1 u35.2) z ?_))))
    obtain ⟨p134, hk134, hg134⟩ := RZ.seg f0_0 i129.toNat (by omega)
    replace hk134 : RS _ 1 Go.E.encI (.slice p134.1 (nth x0.next i129.toNat ([] : List Int)).length p134.2) (nth x0.next i129.toNat ([] : List Int)) := hk134
    have hk134b := hk134.rv.big
    refine TA.b 4 z (OpVal.of (OpVal.loadSeg0 z ag22 z hg134 z) (v' := .slice p134.1 ((nth x0.next i129.toNat ([] : List Int)).length) p134.2) z) z (TA.a 5 z (OpVal.moveStr (.inl z) z) z (TA.a 6 z (OpVal.moveI (.inl z) z) z (TA.a 7 z (OpVal.indexBs z Tryz.underlying9 z z (by omega)) z (TA.b 8 z (OpVal.indexN z Tryz.underlying22 sz3 z z hk134.rv.sl (by omega)) z (TA.b 9 z (OpVal.loadS1 (0 : Int) z ag3 z hk134 (by omega) z) z (TA.a 10 z (OpVal.moveI (.inr z) z) z (TA.dn (S.n (TC.seq ?_)))))))))
    refine TC.a (TL.a z (.inl z) z z z (TL.v z (OpVal.lss z z z) z z (TL.en (TC.cD z hh (fun h135 hh => ?_) (fun h135 hh => ?_)))))
    ·refine TC.a (TL.a z (.inl z) z z z (TL.v z (OpVal.moveStr (.inr z) z) z z (TL.a z (.inr z) z z z (TL.b z (.inr z) z z z (TL.a z (.inr z) z z z (TL.en (TC.ofSub (Sub.pre 0 z) (TC.ret (S.r ?_)))))))))
     refine B.r (S.r (S.r ?_))
     replace hh := fin_x hR1 hh
     refine B.r (S.r ?_)
     obtain rfl := so hh
     exact RetOk.mk' (rs := [.tmp 4, .tmp 5, .tmp 6, .tmp 7]) [] z (.inl z) (RVs.tmp z (RVs.tmp z (RVs.tmp z (RVs.tmp z RVs.nil)))) (List.sublist_append_left _ _) ⟨z, z, z⟩
    ·refine TC.skip (S.n (TC.seq ?_))
     have u53 := grd_c hh
     replace hh := grd_t hh
     have u58 := grd_c hh
     replace hh := grd_t hh
     obtain ⟨v60, u60, hh⟩ := bnd_e hh
     refine TC.drawR (Hr := [Res.cells b101 #[.string (bs x0.front), .slice a0_0 x0.next.length c0_0, .slice a0_1 x0.outs.length c0_1, .slice a0_2 x0.fin.length c0_2, .slice a0_3 x0.tail.length c0_3] 30]) (fun r hr => mem_pick [0] z hr) [] (by kernel_rfl) (TA.a 0 z (OpVal.fieldLoc z fo30_2 z) z (TA.b 1 z (OpVal.loadLoc z ag27 z (i := 0) z z) z (TA.a 2 z (OpVal.moveI (.inl z) z) z (TA.b 3 z (OpVal.index z Tryz.underlying27 sz28 z z f0_1.isSl u53.1 u53.2) z ?_))))
     obtain ⟨p139, hk139, hg139⟩ := RZ.seg f0_1 i129.toNat (by omega)
     replace hk139 : RS _ 1 Go.E.encS (.slice p139.1 (nth x0.outs i129.toNat ([] : List (List UInt8))).length p139.2) (nth x0.outs i129.toNat ([] : List (List UInt8))) := hk139
     have hk139b := hk139.rv.big
     refine TA.b 4 z (OpVal.of (OpVal.loadSeg0 z ag28 z hg139 z) (v' := .slice p139.1 ((nth x0.outs i129.toNat ([] : List (List UInt8))).length) p139.2) z) z (TA.a 5 z (OpVal.moveStr (.inl z) z) z (TA.a 6 z (OpVal.moveI (.inl z) z) z (TA.a 7 z (OpVal.indexBs z Tryz.underlying9 z z (by omega)) z (TA.b 8 z (OpVal.indexN z Tryz.underlying28 sz9 z z hk139.rv.sl (by omega)) z (TA.b 9 z (OpVal.loadS1 ([] : List UInt8) z ag9 z hk139 (by omega) z) z (TA.front 2 z z (TA.front 2 z z (TA.ac 10 z (OpOk.call (writeS_con u60) z z pf64 z z z z ?_)))))))))
     rintro _ _ _ hle140 ⟨u140_1, a140_2, c140_3, rfl, rfl, rfl⟩
     refine k2 (TA.dn (S.n (TC.region (TL.a z (.inl z) z z z (TL.a z (.inr z) z z z (TL.nil (B.n (S.n (TC.region ?_)))))))))
     refine TL.v z (OpVal.succ z z z (by omega)) z z (TL.a z (.inl z) z z z (TL.en ?_))
     obtain ⟨hh, hlt142⟩ := nxt_x hR1 hh
     exact lf ((v60.2.2.buf, (nth (nth x0.next i129.toNat ([] : List Int)) ((nth x1 k130 (0 : UInt8)).toNat) (0 : Int)), (k130 + 1)), (u140_1, a140_2, c140_3)) hlt142 hh (Sub.f [1, 1, 2] 3)
   ·refine TC.exit (S.x (S.x ?_))
    replace hh := fin_x hR1 hh
    refine TC.exitHere (S.n (TC.seq (TC.a (TL.v z (OpVal.fieldLoc z fo30_3 z) z z (TL.v z (OpVal.loadLoc z ag24 z (i := 0) z z) z z (TL.a z (.inl z) z z z ?_))))))
    have u68 := grd_c hh
    replace hh := grd_t hh
    refine TL.v z (OpVal.index z Tryz.underlying24 sz4 z z f0_2.rv.sl u68.1 u68.2) z z (TL.v z (OpVal.loadS1 false z ag4 z f0_2 (by omega) z) z z (TL.v z (OpVal.not z z) z z (TL.en (TC.cB z hh (fun h143 hh => ?_) (fun h143 hh => ?_)))))
    ·refine TC.a (TL.v z (OpVal.moveStr (.inl z) z) z z (TL.v z (OpVal.lenBs z Tryz.underlying9 z) z z (TL.v z (OpVal.moveStr (.inr z) z) z z (TL.a z (.inr z) z z z (TL.b z (.inr z) z z z (TL.a z (.inr z) z z z (TL.en (TC.ofSub (Sub.pre 0 z) (TC.ret ?_)))))))))
     refine S.r ?_
     obtain rfl := so hh
     exact RetOk.mk' (rs := [.tmp 4, .tmp 5, .tmp 6, .tmp 7]) [] z (.inl z) (RVs.tmp z (RVs.tmp z (RVs.tmp z (RVs.tmp z RVs.nil)))) (List.sublist_append_left _ _) ⟨z, z, z⟩
    ·refine TC.skip (S.n (TC.a (TL.v z (OpVal.fieldLoc z fo30_4 z) z z (TL.v z (OpVal.loadLoc z ag28 z (i := 0) z z) z z (TL.a z (.inl z) z z z ?_)))))
     have u80 := grd_c hh
     replace hh := grd_t hh
     refine TL.v z (OpVal.index z Tryz.underlying28 sz9 z z f0_3.rv.sl u80.1 u80.2) z z (TL.v z (OpVal.loadS1 ([] : List UInt8) z ag9 z f0_3 (by omega) z) z z (TL.front 2 z z (TL.front 2 z z ?_)))
     obtain ⟨v82, u82, hh⟩ := bnd_e hh
     refine TL.op z (OpOk.call (writeS_con u82) z z pf64 z z z z ?_)
     rintro _ _ _ hle144 ⟨u144_1, a144_2, c144_3, rfl, rfl, rfl⟩
     refine TL.en (TC.a (TL.front 1 z z (TL.front 1 z z ?_)))
     obtain ⟨v83, u83, hh⟩ := bnd_e hh
     refine TL.op z (OpOk.call (stringB_con u83) z z pf65 z z z z ?_)
     rintro _ _ _ hle146 ⟨rfl, rfl, rfl⟩
     refine TL.v z (OpVal.moveStr (.inl z) z) z z (TL.v z (OpVal.lenBs z Tryz.underlying9 z) z z (TL.v z (OpVal.moveStr (.inr z) z) z z (TL.a z (.inr z) z z z (TL.b z (.inr z) z z z (TL.a z (.inr z) z z z (TL.en (TC.ofSub (Sub.pre 0 z) (TC.ret ?_))))))))
     obtain rfl := so hh
     exact RetOk.mk' (rs := [.tmp 4, .tmp 5, .tmp 6, .tmp 7]) [] z (.inl z) (RVs.tmp z (RVs.tmp z (RVs.tmp z (RVs.tmp z RVs.nil)))) (List.sublist_append_left _ _) ⟨z, z, z⟩

noncomputable def rewrite_how_out (x0 : How) (x1 : List UInt8) : Option ((List UInt8) × Bool) :=
 grd (x1.length ≤ 281474976710656) (some (x0.r.out, true))
theorem rewrite_how_out_con {σ : Store} {x0 : How} {a0_0 : Option Addr} {c0_0 : Nat} {a0_1 : Option Addr} {c0_1 : Nat} {a0_2 : Option Addr} {c0_2 : Nat} {a0_3 : Option Addr} {c0_3 : Nat} {a0_4 : Option Addr} {c0_4 : Nat} {a0_5 : Option Addr} {c0_5 : Nat} {a0_6 : Option Addr} {c0_6 : Nat} {a0_7 : Option Addr} {c0_7 : Nat} {a0_8 : Option Addr} {c0_8 : Nat} {a0_9 : Option Addr} {c0_9 : Nat} {a0_10 : Option Addr} {c0_10 : Nat} {a0_11 : Option Addr} {c0_11 : Nat} {a0_12 : Option Addr} {c0_12 : Nat} {x1 : List UInt8} (f0_0 : RS σ 1 Go.E.encI (.slice a0_0 x0.r.of.cls.length c0_0) x0.r.of.cls) (f0_1 : RZ σ (pkSl 1 Go.E.encI Go.E.encI_len) (.slice a0_1 x0.r.of.next.length c0_1) x0.r.of.next) (f0_2 : RS σ 1 encB (.slice a0_2 x0.r.of.fin.length c0_2) x0.r.of.fin) (f0_3 : RS σ 1 Go.E.encI (.slice a0_3 x0.r.left.cls.length c0_3) x0.r.left.cls) (f0_4 : RZ σ (pkSl 1 Go.E.encI Go.E.encI_len) (.slice a0_4 x0.r.left.next.length c0_4) x0.r.left.next) (f0_5 : RS σ 1 encB (.slice a0_5 x0.r.left.fin.length c0_5) x0.r.left.fin) (f0_6 : RS σ 1 Go.E.encI (.slice a0_6 x0.r.right.cls.length c0_6) x0.r.right.cls) (f0_7 : RZ σ (pkSl 1 Go.E.encI Go.E.encI_len) (.slice a0_7 x0.r.right.next.length c0_7) x0.r.right.next) (f0_8 : RS σ 1 encB (.slice a0_8 x0.r.right.fin.length c0_8) x0.r.right.fin) (f0_9 : RZ σ (pkSl 1 Go.E.encI Go.E.encI_len) (.slice a0_9 x0.r.by'.next.length c0_9) x0.r.by'.next) (f0_10 : RZ σ (pkSl 1 Go.E.encS Go.E.encS_len) (.slice a0_10 x0.r.by'.outs.length c0_10) x0.r.by'.outs) (f0_11 : RS σ 1 encB (.slice a0_11 x0.r.by'.fin.length c0_11) x0.r.by'.fin) (f0_12 : RS σ 1 Go.E.encS (.slice a0_12 x0.r.by'.tail.length c0_12) x0.r.by'.tail) {r : (List UInt8) × Bool} (hh : rewrite_how_out x0 x1 = some r) :
  Con Tryz.prog 28 #[.agg #[.slice a0_0 x0.r.of.cls.length c0_0, .slice a0_1 x0.r.of.next.length c0_1, .slice a0_2 x0.r.of.fin.length c0_2, .slice a0_3 x0.r.left.cls.length c0_3, .slice a0_4 x0.r.left.next.length c0_4, .slice a0_5 x0.r.left.fin.length c0_5, .slice a0_6 x0.r.right.cls.length c0_6, .slice a0_7 x0.r.right.next.length c0_7, .slice a0_8 x0.r.right.fin.length c0_8, .string (bs x0.r.out), .bool x0.r.mapped, .string (bs x0.r.by'.front), .slice a0_9 x0.r.by'.next.length c0_9, .slice a0_10 x0.r.by'.outs.length c0_10, .slice a0_11 x0.r.by'.fin.length c0_11, .slice a0_12 x0.r.by'.tail.length c0_12], .string (bs x1)] σ [] (PureP (.tuple #[.string (bs r.1), .bool r.2]) σ) := by
 dsimp only [rewrite_how_out] at hh
 have f0_0b := f0_0.rv.big
 have f0_1b := f0_1.big
 have f0_2b := f0_2.rv.big
 have f0_3b := f0_3.rv.big
 have f0_4b := f0_4.big
 have f0_5b := f0_5.rv.big
 have f0_6b := f0_6.rv.big
 have f0_7b := f0_7.big
 have f0_8b := f0_8.rv.big
 have f0_9b := f0_9.big
 have f0_10b := f0_10.big
 have f0_11b := f0_11.rv.big
 have f0_12b := f0_12.rv.big
 refine Con.mk (n := 9) Tryz.func28 z z z (fun w0 => ?_)
 have x1b := grd_c hh
 replace hh := grd_t hh
 refine TC.a (TL.op z (OpOk.boxA z z z z (fun b101 => ?_)))
 refine TL.v z (OpVal.moveStr (.inr z) z) z z (TL.b z (.inr z) z z z (TL.en (TC.a (TL.v z (OpVal.fieldLoc z fo64_0 z) z z (TL.v z (OpVal.fieldLoc z fo32_3 z) z z (TL.v z (OpVal.loadLoc z ag9 z (i := 0) z z) z z (TL.v z (OpVal.moveStr (.inr z) z) z z (TL.b z (.inr z) z z z (TL.en ?_)))))))))
 refine TC.ofSub (Sub.pre 0 z) (TC.ret ?_)
 obtain rfl := so hh
 exact RetOk.mk' (rs := [.tmp 4, .tmp 5]) [] z (.inl z) (RVs.tmp z (RVs.tmp z RVs.nil)) (List.sublist_append_left _ _) ⟨z, z, z⟩

noncomputable def rewrite_how_by (x0 : How) (x1 : List UInt8) : Option ((List UInt8) × Bool) :=
 grd (x1.length ≤ 281474976710656) (bnd (seq_Apply x0.r.by' x1) (fun v8 => iteO v8.2.2.1 (some (v8.1, decide (v8.2.2.2 = 0))) (some (v8.1, false))))
theorem rewrite_how_by_con {σ : Store} {x0 : How} {a0_0 : Option Addr} {c0_0 : Nat} {a0_1 : Option Addr} {c0_1 : Nat} {a0_2 : Option Addr} {c0_2 : Nat} {a0_3 : Option Addr} {c0_3 : Nat} {a0_4 : Option Addr} {c0_4 : Nat} {a0_5 : Option Addr} {c0_5 : Nat} {a0_6 : Option Addr} {c0_6 : Nat} {a0_7 : Option Addr} {c0_7 : Nat} {a0_8 : Option Addr} {c0_8 : Nat} {a0_9 : Option Addr} {c0_9 : Nat} {a0_10 : Option Addr} {c0_10 : Nat} {a0_11 : Option Addr} {c0_11 : Nat} {a0_12 : Option Addr} {c0_12 : Nat} {x1 : List UInt8} (f0_0 : RS σ 1 Go.E.encI (.slice a0_0 x0.r.of.cls.length c0_0) x0.r.of.cls) (f0_1 : RZ σ (pkSl 1 Go.E.encI Go.E.encI_len) (.slice a0_1 x0.r.of.next.length c0_1) x0.r.of.next) (f0_2 : RS σ 1 encB (.slice a0_2 x0.r.of.fin.length c0_2) x0.r.of.fin) (f0_3 : RS σ 1 Go.E.encI (.slice a0_3 x0.r.left.cls.length c0_3) x0.r.left.cls) (f0_4 : RZ σ (pkSl 1 Go.E.encI Go.E.encI_len) (.slice a0_4 x0.r.left.next.length c0_4) x0.r.left.next) (f0_5 : RS σ 1 encB (.slice a0_5 x0.r.left.fin.length c0_5) x0.r.left.fin) (f0_6 : RS σ 1 Go.E.encI (.slice a0_6 x0.r.right.cls.length c0_6) x0.r.right.cls) (f0_7 : RZ σ (pkSl 1 Go.E.encI Go.E.encI_len) (.slice a0_7 x0.r.right.next.length c0_7) x0.r.right.next) (f0_8 : RS σ 1 encB (.slice a0_8 x0.r.right.fin.length c0_8) x0.r.right.fin) (f0_9 : RZ σ (pkSl 1 Go.E.encI Go.E.encI_len) (.slice a0_9 x0.r.by'.next.length c0_9) x0.r.by'.next) (f0_10 : RZ σ (pkSl 1 Go.E.encS Go.E.encS_len) (.slice a0_10 x0.r.by'.outs.length c0_10) x0.r.by'.outs) (f0_11 : RS σ 1 encB (.slice a0_11 x0.r.by'.fin.length c0_11) x0.r.by'.fin) (f0_12 : RS σ 1 Go.E.encS (.slice a0_12 x0.r.by'.tail.length c0_12) x0.r.by'.tail) {r : (List UInt8) × Bool} (hh : rewrite_how_by x0 x1 = some r) :
  Con Tryz.prog 29 #[.agg #[.slice a0_0 x0.r.of.cls.length c0_0, .slice a0_1 x0.r.of.next.length c0_1, .slice a0_2 x0.r.of.fin.length c0_2, .slice a0_3 x0.r.left.cls.length c0_3, .slice a0_4 x0.r.left.next.length c0_4, .slice a0_5 x0.r.left.fin.length c0_5, .slice a0_6 x0.r.right.cls.length c0_6, .slice a0_7 x0.r.right.next.length c0_7, .slice a0_8 x0.r.right.fin.length c0_8, .string (bs x0.r.out), .bool x0.r.mapped, .string (bs x0.r.by'.front), .slice a0_9 x0.r.by'.next.length c0_9, .slice a0_10 x0.r.by'.outs.length c0_10, .slice a0_11 x0.r.by'.fin.length c0_11, .slice a0_12 x0.r.by'.tail.length c0_12], .string (bs x1)] σ [] (PureP (.tuple #[.string (bs r.1), .bool r.2]) σ) := by
 dsimp only [rewrite_how_by] at hh
 have f0_0b := f0_0.rv.big
 have f0_1b := f0_1.big
 have f0_2b := f0_2.rv.big
 have f0_3b := f0_3.rv.big
 have f0_4b := f0_4.big
 have f0_5b := f0_5.rv.big
 have f0_6b := f0_6.rv.big
 have f0_7b := f0_7.big
 have f0_8b := f0_8.rv.big
 have f0_9b := f0_9.big
 have f0_10b := f0_10.big
 have f0_11b := f0_11.rv.big
 have f0_12b := f0_12.rv.big
 refine Con.mk (n := 26) Tryz.func29 z z z (fun w0 => ?_)
 have x1b := grd_c hh
 replace hh := grd_t hh
 refine TC.a (TL.op z (OpOk.boxA z z z z (fun b101 => ?_)))
 refine TL.v z (OpVal.moveStr (.inr z) z) z z (TL.b z (.inr z) z z z (TL.en (TC.a (TL.v z (OpVal.fieldLoc z fo64_0 z) z z (TL.v z (OpVal.fieldLoc z fo32_5 z) z z (TL.v z (OpVal.loadLocA z ag30 sz30 z (i := 0) z z z) z z (TL.v z (OpVal.moveStr (.inl z) z) z z ?_)))))))
 obtain ⟨v8, u8, hh⟩ := bnd_e hh
 refine TL.op z (OpOk.callP (seq_Apply_con (x0 := x0.r.by') f0_9 f0_10 f0_11 f0_12 u8) z z pf63 z z z ?_)
 refine TL.v z (OpVal.moveT (.inl z) z) z z (TL.v z (OpVal.extract z z z) z z (TL.v z (OpVal.extract z z z) z z (TL.v z (OpVal.extract z z z) z z (TL.v z (OpVal.extract z z z) z z (TL.v z (OpVal.moveStr (.inr z) z) z z (TL.a z (.inr z) z z z (TL.b z (.inr z) z z z (TL.a z (.inr z) z z z (TL.en ?_)))))))))
 refine TC.a (TL.v z (OpVal.moveStr (.inl z) z) z z (TL.b z (.inl z) z z z (TL.b z (.inl z) z z z (TL.split 22 z (fun h103 => ?_) (fun h103 => ?_)))))
 ·replace hh := iteO_t h103 hh
  refine TL.gv z z z z z (OpVal.moveI (.inl z) z) z z (TL.gv z z z z z (OpVal.eql z z z) z z (TL.v z (OpVal.pickTB z z z) z z (TL.v z (OpVal.moveStr (.inr z) z) z z (TL.b z (.inr z) z z z (TL.en (TC.ofSub (Sub.pre 0 z) (TC.ret ?_)))))))
  obtain rfl := so hh
  exact RetOk.mk' (rs := [.tmp 4, .tmp 5]) [] z (.inl z) (RVs.tmp z (RVs.tmp z RVs.nil)) (List.sublist_append_left _ _) ⟨z, z, z⟩
 ·replace hh := iteO_f h103 hh
  refine TL.goff z z z z z z z z (TL.goff z z z z z z z z (TL.v z (OpVal.pickFB z z z) z z (TL.v z (OpVal.moveStr (.inr z) z) z z (TL.b z (.inr z) z z z (TL.en (TC.ofSub (Sub.pre 0 z) (TC.ret ?_)))))))
  obtain rfl := so hh
  exact RetOk.mk' (rs := [.tmp 4, .tmp 5]) [] z (.inl z) (RVs.tmp z (RVs.tmp z RVs.nil)) (List.sublist_append_left _ _) ⟨z, z, z⟩

end Go.Proofs.YtmfclggfajopkaaGreatDoor
end

/- R7 -/
section
/- Decompiled: a rule turns a text. -/
set_option linter.unusedVariables false
set_option linter.unusedSimpArgs false
namespace Go.Proofs.YtmfclggfajopkaaGreatDoor
open Go Go.E
set_option maxRecDepth 100000
private theorem ag32 : Go.E.aggOf Tryz.prog 32 = some true := by kernel_rfl
private theorem ag36 : Go.E.aggOf Tryz.prog 36 = some true := by kernel_rfl
private theorem pf13 : Go.E.plainF Tryz.prog 13 = true := by kernel_rfl
private theorem pf27 : Go.E.plainF Tryz.prog 27 = true := by kernel_rfl
private theorem pf28 : Go.E.plainF Tryz.prog 28 = true := by kernel_rfl
private theorem pf29 : Go.E.plainF Tryz.prog 29 = true := by kernel_rfl
private theorem pf30 : Go.E.plainF Tryz.prog 30 = true := by kernel_rfl
private theorem pf31 : Go.E.plainF Tryz.prog 31 = true := by kernel_rfl
private theorem pf33 : Go.E.plainF Tryz.prog 33 = true := by kernel_rfl
private theorem pl36 : Go.E.plOf Tryz.prog 36 = some #[(0, 1), (1, 1)] := by kernel_rfl
private theorem pl64 : Go.E.plOf Tryz.prog 64 = some #[(0, 16)] := by kernel_rfl
private theorem sz32 : Go.E.szOf Tryz.prog 32 = some 16 := by kernel_rfl
private theorem sz36 : Go.E.szOf Tryz.prog 36 = some 2 := by kernel_rfl
private theorem ze36 : Go.E.zeroOf Tryz.prog 36 = some (.agg #[.string ByteArray.empty, .slice none 0 0]) := by kernel_rfl
private theorem ze64 : Go.E.zeroOf Tryz.prog 64 = some (.agg #[.slice none 0 0, .slice none 0 0, .slice none 0 0, .slice none 0 0, .slice none 0 0, .slice none 0 0, .slice none 0 0, .slice none 0 0, .slice none 0 0, .string ByteArray.empty, .bool false, .string ByteArray.empty, .slice none 0 0, .slice none 0 0, .slice none 0 0, .slice none 0 0]) := by kernel_rfl
private theorem ze70 : Go.E.zeroOf Tryz.prog 70 = some (.agg #[.pointer none, .slice none 0 0, .slice none 0 0]) := by kernel_rfl

noncomputable def rewrite_turned_piece (x0 : Turned) : Option (Piece) :=
 bnd (stringU (⟨(⟨x0.b.buf⟩ : SB), x0.at'⟩ : Turned)) (fun v5 => some (⟨v5, x0.at'⟩ : Piece))
theorem rewrite_turned_piece_con {σ : Store} {x0 : Turned} {b0_0 : Nat} {u0_1 : Bool} {a0_2 : Option Addr} {c0_3 : Nat} {a0_4 : Option Addr} {c0_5 : Nat}  {r : Piece} (hh : rewrite_turned_piece x0 = some r) :
  Con Tryz.prog 33 #[loc b0_0 0] σ [Res.cells b0_0 #[badV u0_1 b0_0, .slice a0_2 x0.b.buf.length c0_3, .slice a0_4 x0.at'.length c0_5] 70, Res.rowS 5 1 encU8 (.slice a0_2 x0.b.buf.length c0_3) x0.b.buf, Res.rowS 56 2 encSpan (.slice a0_4 x0.at'.length c0_5) x0.at'] (fun v σ' H' => ∃ (a1 : Option Addr), ∃ (c1 : Nat), v = .agg #[.string (bs r.text), .slice a1 r.at'.length c1] ∧ RS σ' 2 encSpan (.slice a1 r.at'.length c1) r.at' ∧ H' = []) := by
 dsimp only [rewrite_turned_piece] at hh
 refine Con.mk (n := 12) Tryz.func33 z z z (fun w0 => ?_)
 refine TC.a (TL.op z (OpOk.alloc z ze36 z z (fun b104 => ?_)))
 refine TL.en (TC.seq ?_)
 obtain ⟨v5, u5, hh⟩ := bnd_e hh
 refine TC.drawR (Hr := [Res.cells b0_0 #[badV u0_1 b0_0, .slice a0_2 x0.b.buf.length c0_3, .slice a0_4 x0.at'.length c0_5] 70, Res.rowS 56 2 encSpan (.slice a0_4 x0.at'.length c0_5) x0.at']) (fun r hr => mem_pick [1, 3] z hr) [] (by kernel_rfl) (TA.a 0 z (OpVal.moveLoc (.inl z) z) z (TA.a 1 z (OpVal.nilCheckLoc z z) z (TA.a 2 z (OpVal.fieldLoc z fo70_0 z) z (TA.a 4 z (OpVal.moveLoc (.inl z) z) z (TA.a 5 z (OpVal.nilCheckLoc z z) z (TA.a 6 z (OpVal.fieldLoc z fo70_1 z) z (TA.b 7 z (OpVal.loadLoc z ag34 z (i := 0) z z) z (TA.front 3 z z (TA.front 3 z z ?_)))))))))
 refine TA.front 3 z z (TA.ac 3 z (OpOk.call (stringU_con u5) z z pf65 z z z z ?_))
 rintro _ _ _ hle107 ⟨rfl, rfl, rfl⟩
 refine ⟨(fun w h => sees_of (Store.le.refl _) (fun r hr => mem_pick [0, 1] z hr) w h), ?_⟩
 refine TA.a 8 z (OpVal.buildL z pl36 ze36 z) z (TA.front 2 z z (TA.ac 9 z (OpOk.storeAll z sz36 z z z z z z (k1 ?_))))
 refine TA.dn (S.n (TC.front 2 z z (TC.sealS encSpan_len (fun τ110 hle109 hr108 => ?_))))
 have hr108b := hr108.rv.big
 refine TC.ofSub (Sub.pre 1 z) (TC.ret ?_)
 obtain rfl := so hh
 exact RetOk.mk' (rs := [.cell 2 36]) [] z (.inl z) (RVs.agg ag36 sz36 z (i := 0) z z RVs.nil) (List.sublist_append_left _ _) ⟨a0_4, c0_5, z, hr108, z⟩

noncomputable def rewrite_Plain (x0 : List UInt8) : Option (Piece × Int) :=
 grd (x0.length ≤ 281474976710656) (iteO (decide (4096 < ((x0.length : Nat) : Int))) (some ((⟨([] : List UInt8), ([] : List Span)⟩ : Piece), 2)) (bnd (rewrite_turned_stay (⟨(⟨([] : List UInt8)⟩ : SB), ([] : List Span)⟩ : Turned) x0 (⟨0, ((x0.length : Nat) : Int)⟩ : Span)) (fun v14 => bnd (rewrite_turned_piece (⟨(⟨v14.b.buf⟩ : SB), v14.at'⟩ : Turned)) (fun v15 => some (v15, 0)))))
def rewrite_Plain_P (σ : Store) (r : Piece × Int) : Value → Store → List Res → Prop := fun v σ' H' =>
 ∃ (a1 : Option Addr), ∃ (c1 : Nat),  v = .tuple #[.agg #[.string (bs r.1.text), .slice a1 r.1.at'.length c1], .int .i64 r.2] ∧ RS σ' 2 encSpan (.slice a1 r.1.at'.length c1) r.1.at' ∧ H' = []
theorem rewrite_Plain_con {σ : Store} {x0 : List UInt8}  {r : Piece × Int} (hh : rewrite_Plain x0 = some r) :
  Con Tryz.prog 10 #[.string (bs x0)] σ [] (rewrite_Plain_P σ r) := by
 dsimp only [rewrite_Plain] at hh
 refine Con.mk (n := 15) Tryz.func10 z z z (fun w0 => ?_)
 have x0b := grd_c hh
 replace hh := grd_t hh
 refine TC.a (TL.op z (OpOk.alloc z ze36 z z (fun b101 => ?_)))
 refine TL.a z (.inr z) z z z (TL.en (TC.seq (TC.a (TL.v z (OpVal.moveStr (.inl z) z) z z (TL.v z (OpVal.lenBs z Tryz.underlying9 z) z z (TL.v z (OpVal.gtr z z z) z z (TL.en (TC.cD z hh (fun h103 hh => ?_) (fun h103 hh => ?_)))))))))
 ·refine TC.a (TL.v z (OpVal.buildL z pl36 ze36 z) z z (TL.op z (OpOk.storeAll z sz36 z z z z z z ?_)))
  refine TL.a z (.inr z) z z z (TL.en (TC.ret (S.r ?_)))
  obtain rfl := so hh
  exact RetOk.mk' (rs := [.cell 2 36, .tmp 3]) [] z (.inl z) (RVs.agg ag36 sz36 z (i := 0) z z (RVs.tmp z RVs.nil)) (List.sublist_append_left _ _) ⟨none, 0, z, (RS.nilF _ encSpan encSpan_len), z⟩
 ·refine TC.skip (S.n (TC.a (TL.op z (OpOk.alloc z ze70 z z (fun b104 => ?_)))))
  refine TL.asH (H' := [Res.cells b104 #[badV false b104, .slice none 0 0, .slice none 0 0] 70, Res.cells b101 #[.string (bs ([] : List UInt8)), .slice none 0 0] 36]) z (TL.en (TC.a (TL.v z (OpVal.moveStr (.inl z) z) z z (TL.v z (OpVal.moveStr (.inl z) z) z z (TL.v z (OpVal.lenBs z Tryz.underlying9 z) z z (TL.v z (OpVal.buildL z pl56 ze56 z) z z (TL.nilS 5 1 encU8 (TL.nilS 56 2 encSpan (TL.front 1 z z ?_)))))))))
  refine TL.front 2 z z ?_
  obtain ⟨v14, u14, hh⟩ := bnd_e hh
  refine TL.op z (OpOk.call (rewrite_turned_stay_con u14) z z pf30 z z z z ?_)
  rintro _ _ _ hle108 ⟨u108_1, a108_2, c108_3, a108_4, c108_5, rfl, rfl, rfl⟩
  refine TL.en (TC.a (TL.front 2 z z (TL.front 2 z z (TL.front 2 z z ?_))))
  obtain ⟨v15, u15, hh⟩ := bnd_e hh
  refine TL.op z (OpOk.call (rewrite_turned_piece_con u15) z z pf33 z z z z ?_)
  rintro _ τ111 _ hle111 ⟨a111_1, c111_2, rfl, hr111_3, rfl⟩
  have hr111_3b := hr111_3.rv.big
  refine TL.op z (OpOk.storeAll z sz36 z z z z z z ?_)
  refine TL.a z (.inr z) z z z (TL.en (TC.ret ?_))
  obtain rfl := so hh
  exact RetOk.mk' (rs := [.cell 2 36, .tmp 3]) [] z (.inl z) (RVs.agg ag36 sz36 z (i := 0) z z (RVs.tmp z RVs.nil)) (List.sublist_append_left _ _) ⟨a111_1, c111_2, z, hr111_3, z⟩

noncomputable def rewrite_Turn_j1 (v17 : (List Span) × Int) (k143 : Nat) (l151 : List UInt8) (l155 : List Span) : Option (((List UInt8) × (List Span) × Int × Nat) ⊕ (Piece × Int)) :=
 nxt (l151, l155, ((nth v17.1 k143 Span.zero).to), (k143 + 1))
noncomputable def rewrite_Turn_b1 (v17 : (List Span) × Int) (x1 : List UInt8) (x0 : Rule) (l135 : List UInt8) (l139 : List Span) (i142 : Int) (k143 : Nat) : Option (((List UInt8) × (List Span) × Int × Nat) ⊕ (Piece × Int)) :=
 iteO (decide (((k143 : Nat) : Int) < ((v17.1.length : Nat) : Int))) (bnd (rewrite_turned_stay (⟨(⟨l135⟩ : SB), l139⟩ : Turned) x1 (⟨i142, (nth v17.1 k143 Span.zero).frm⟩ : Span)) (fun v54 => grd (0 ≤ ((nth v17.1 k143 Span.zero).frm) ∧ 0 ≤ ((nth v17.1 k143 Span.zero).to) ∧ ((nth v17.1 k143 Span.zero).frm).toNat ≤ ((nth v17.1 k143 Span.zero).to).toNat ∧ ((nth v17.1 k143 Span.zero).to).toNat ≤ x1.length) (bnd (rewrite_how_by (⟨x0⟩ : How) ((x1.take (((nth v17.1 k143 Span.zero).to).toNat)).drop (((nth v17.1 k143 Span.zero).frm).toNat))) (fun v65 => iteO (!v65.2) (bnd (rewrite_turned_stay (⟨(⟨v54.b.buf⟩ : SB), v54.at'⟩ : Turned) x1 (nth v17.1 k143 Span.zero)) (fun v75 => rewrite_Turn_j1 v17 k143 v75.b.buf v75.at')) (bnd (rewrite_turned_put (⟨(⟨v54.b.buf⟩ : SB), v54.at'⟩ : Turned) v65.1 (nth v17.1 k143 Span.zero)) (fun v78 => iteO (!v78.1) (fin (some ((⟨([] : List UInt8), ([] : List Span)⟩ : Piece), 2))) (rewrite_Turn_j1 v17 k143 v78.2.b.buf v78.2.at'))))))) (fin (bnd (rewrite_turned_stay (⟨(⟨l135⟩ : SB), l139⟩ : Turned) x1 (⟨i142, ((x1.length : Nat) : Int)⟩ : Span)) (fun v90 => bnd (lenU (⟨(⟨v90.b.buf⟩ : SB), v90.at'⟩ : Turned)) (fun v92 => iteO (decide (4096 < v92)) (some ((⟨([] : List UInt8), ([] : List Span)⟩ : Piece), 2)) (bnd (rewrite_turned_piece (⟨(⟨v90.b.buf⟩ : SB), v90.at'⟩ : Turned)) (fun v97 => some (v97, 0)))))))
noncomputable def rewrite_Turn_j2 (v17 : (List Span) × Int) (k214 : Nat) (l222 : List UInt8) (l226 : List Span) : Option (((List UInt8) × (List Span) × Int × Nat) ⊕ (Piece × Int)) :=
 nxt (l222, l226, ((nth v17.1 k214 Span.zero).to), (k214 + 1))
noncomputable def rewrite_Turn_b2 (v17 : (List Span) × Int) (x1 : List UInt8) (x0 : Rule) (l206 : List UInt8) (l210 : List Span) (i213 : Int) (k214 : Nat) : Option (((List UInt8) × (List Span) × Int × Nat) ⊕ (Piece × Int)) :=
 iteO (decide (((k214 : Nat) : Int) < ((v17.1.length : Nat) : Int))) (bnd (rewrite_turned_stay (⟨(⟨l206⟩ : SB), l210⟩ : Turned) x1 (⟨i213, (nth v17.1 k214 Span.zero).frm⟩ : Span)) (fun v54 => grd (0 ≤ ((nth v17.1 k214 Span.zero).frm) ∧ 0 ≤ ((nth v17.1 k214 Span.zero).to) ∧ ((nth v17.1 k214 Span.zero).frm).toNat ≤ ((nth v17.1 k214 Span.zero).to).toNat ∧ ((nth v17.1 k214 Span.zero).to).toNat ≤ x1.length) (bnd (rewrite_how_out (⟨x0⟩ : How) ((x1.take (((nth v17.1 k214 Span.zero).to).toNat)).drop (((nth v17.1 k214 Span.zero).frm).toNat))) (fun v65 => iteO (!v65.2) (bnd (rewrite_turned_stay (⟨(⟨v54.b.buf⟩ : SB), v54.at'⟩ : Turned) x1 (nth v17.1 k214 Span.zero)) (fun v75 => rewrite_Turn_j2 v17 k214 v75.b.buf v75.at')) (bnd (rewrite_turned_put (⟨(⟨v54.b.buf⟩ : SB), v54.at'⟩ : Turned) v65.1 (nth v17.1 k214 Span.zero)) (fun v78 => iteO (!v78.1) (fin (some ((⟨([] : List UInt8), ([] : List Span)⟩ : Piece), 2))) (rewrite_Turn_j2 v17 k214 v78.2.b.buf v78.2.at'))))))) (fin (bnd (rewrite_turned_stay (⟨(⟨l206⟩ : SB), l210⟩ : Turned) x1 (⟨i213, ((x1.length : Nat) : Int)⟩ : Span)) (fun v90 => bnd (lenU (⟨(⟨v90.b.buf⟩ : SB), v90.at'⟩ : Turned)) (fun v92 => iteO (decide (4096 < v92)) (some ((⟨([] : List UInt8), ([] : List Span)⟩ : Piece), 2)) (bnd (rewrite_turned_piece (⟨(⟨v90.b.buf⟩ : SB), v90.at'⟩ : Turned)) (fun v97 => some (v97, 0)))))))
noncomputable def rewrite_Turn (x0 : Rule) (x1 : List UInt8) : Option (Piece × Int) :=
 grd (x1.length ≤ 281474976710656) (bnd (rewrite_Check x0) (fun v5 => iteO (decide (v5 ≠ 0)) (some ((⟨([] : List UInt8), ([] : List Span)⟩ : Piece), 1)) (bnd (scan_Factors x0.of x0.left x0.right x1) (fun v17 => iteO (decide (v17.2 ≠ 0)) (some ((⟨([] : List UInt8), ([] : List Span)⟩ : Piece), v17.2)) (iteO x0.mapped (iter (fun q : (List UInt8) × (List Span) × Int × Nat => rewrite_Turn_b1 v17 x1 x0 q.1 q.2.1 q.2.2.1 q.2.2.2) (([] : List UInt8), ([] : List Span), 0, 0)) (iter (fun q : (List UInt8) × (List Span) × Int × Nat => rewrite_Turn_b2 v17 x1 x0 q.1 q.2.1 q.2.2.1 q.2.2.2) (([] : List UInt8), ([] : List Span), 0, 0)))))))
def rewrite_Turn_P (σ : Store) (r : Piece × Int) : Value → Store → List Res → Prop := fun v σ' H' =>
 ∃ (a1 : Option Addr), ∃ (c1 : Nat),  v = .tuple #[.agg #[.string (bs r.1.text), .slice a1 r.1.at'.length c1], .int .i64 r.2] ∧ RS σ' 2 encSpan (.slice a1 r.1.at'.length c1) r.1.at' ∧ H' = []
theorem rewrite_Turn_con {σ : Store} {x0 : Rule} {a0_0 : Option Addr} {c0_0 : Nat} {a0_1 : Option Addr} {c0_1 : Nat} {a0_2 : Option Addr} {c0_2 : Nat} {a0_3 : Option Addr} {c0_3 : Nat} {a0_4 : Option Addr} {c0_4 : Nat} {a0_5 : Option Addr} {c0_5 : Nat} {a0_6 : Option Addr} {c0_6 : Nat} {a0_7 : Option Addr} {c0_7 : Nat} {a0_8 : Option Addr} {c0_8 : Nat} {a0_9 : Option Addr} {c0_9 : Nat} {a0_10 : Option Addr} {c0_10 : Nat} {a0_11 : Option Addr} {c0_11 : Nat} {a0_12 : Option Addr} {c0_12 : Nat} {x1 : List UInt8} (f0_0 : RS σ 1 Go.E.encI (.slice a0_0 x0.of.cls.length c0_0) x0.of.cls) (f0_1 : RZ σ (pkSl 1 Go.E.encI Go.E.encI_len) (.slice a0_1 x0.of.next.length c0_1) x0.of.next) (f0_2 : RS σ 1 encB (.slice a0_2 x0.of.fin.length c0_2) x0.of.fin) (f0_3 : RS σ 1 Go.E.encI (.slice a0_3 x0.left.cls.length c0_3) x0.left.cls) (f0_4 : RZ σ (pkSl 1 Go.E.encI Go.E.encI_len) (.slice a0_4 x0.left.next.length c0_4) x0.left.next) (f0_5 : RS σ 1 encB (.slice a0_5 x0.left.fin.length c0_5) x0.left.fin) (f0_6 : RS σ 1 Go.E.encI (.slice a0_6 x0.right.cls.length c0_6) x0.right.cls) (f0_7 : RZ σ (pkSl 1 Go.E.encI Go.E.encI_len) (.slice a0_7 x0.right.next.length c0_7) x0.right.next) (f0_8 : RS σ 1 encB (.slice a0_8 x0.right.fin.length c0_8) x0.right.fin) (f0_9 : RZ σ (pkSl 1 Go.E.encI Go.E.encI_len) (.slice a0_9 x0.by'.next.length c0_9) x0.by'.next) (f0_10 : RZ σ (pkSl 1 Go.E.encS Go.E.encS_len) (.slice a0_10 x0.by'.outs.length c0_10) x0.by'.outs) (f0_11 : RS σ 1 encB (.slice a0_11 x0.by'.fin.length c0_11) x0.by'.fin) (f0_12 : RS σ 1 Go.E.encS (.slice a0_12 x0.by'.tail.length c0_12) x0.by'.tail) {r : Piece × Int} (hh : rewrite_Turn x0 x1 = some r) :
  Con Tryz.prog 8 #[.agg #[.slice a0_0 x0.of.cls.length c0_0, .slice a0_1 x0.of.next.length c0_1, .slice a0_2 x0.of.fin.length c0_2, .slice a0_3 x0.left.cls.length c0_3, .slice a0_4 x0.left.next.length c0_4, .slice a0_5 x0.left.fin.length c0_5, .slice a0_6 x0.right.cls.length c0_6, .slice a0_7 x0.right.next.length c0_7, .slice a0_8 x0.right.fin.length c0_8, .string (bs x0.out), .bool x0.mapped, .string (bs x0.by'.front), .slice a0_9 x0.by'.next.length c0_9, .slice a0_10 x0.by'.outs.length c0_10, .slice a0_11 x0.by'.fin.length c0_11, .slice a0_12 x0.by'.tail.length c0_12], .string (bs x1)] σ [] (rewrite_Turn_P σ r) := by
 dsimp only [rewrite_Turn] at hh
 have f0_0b := f0_0.rv.big
 have f0_1b := f0_1.big
 have f0_2b := f0_2.rv.big
 have f0_3b := f0_3.rv.big
 have f0_4b := f0_4.big
 have f0_5b := f0_5.rv.big
 have f0_6b := f0_6.rv.big
 have f0_7b := f0_7.big
 have f0_8b := f0_8.rv.big
 have f0_9b := f0_9.big
 have f0_10b := f0_10.big
 have f0_11b := f0_11.rv.big
 have f0_12b := f0_12.rv.big
 refine Con.mk (n := 89) Tryz.func8 z z z (fun w0 => ?_)
 have x1b := grd_c hh
 replace hh := grd_t hh
 refine TC.a (TL.op z (OpOk.boxA z z z z (fun b101 => ?_)))
 refine TL.op z (OpOk.alloc z ze36 z z (fun b103 => ?_))
 refine TL.a z (.inr z) z z z (TL.en (TC.seq (TC.a (TL.v z (OpVal.loadAll z ag32 sz32 z (i := 1) z z) z z ?_))))
 obtain ⟨v5, u5, hh⟩ := bnd_e hh
 refine TL.op z (OpOk.callP (rewrite_Check_con (x0 := x0) f0_0 f0_1 f0_2 f0_3 f0_4 f0_5 f0_6 f0_7 f0_8 f0_9 f0_10 f0_11 f0_12 u5) z z pf13 z z z ?_)
 refine TL.v z (OpVal.neq z z z) z z (TL.en (TC.cD z hh (fun h105 hh => ?_) (fun h105 hh => ?_)))
 ·refine TC.a (TL.v z (OpVal.buildL z pl36 ze36 z) z z (TL.op z (OpOk.storeAll z sz36 z z z z z z ?_)))
  refine TL.a z (.inr z) z z z (TL.en (TC.ofSub (Sub.pre 1 z) (TC.ret (S.r ?_))))
  obtain rfl := so hh
  exact RetOk.mk' (rs := [.cell 4 36, .tmp 5]) [] z (.inl z) (RVs.agg ag36 sz36 z (i := 0) z z (RVs.tmp z RVs.nil)) (List.sublist_append_left _ _) ⟨none, 0, z, (RS.nilF _ encSpan encSpan_len), z⟩
 ·refine TC.skip (S.n (TC.a (TL.v z (OpVal.fieldLoc z fo32_0 z) z z (TL.v z (OpVal.loadLocA z ag26 sz26 z (i := 1) z z z) z z (TL.v z (OpVal.fieldLoc z fo32_1 z) z z (TL.v z (OpVal.loadLocA z ag26 sz26 z (i := 1) z z z) z z (TL.v z (OpVal.fieldLoc z fo32_2 z) z z (TL.v z (OpVal.loadLocA z ag26 sz26 z (i := 1) z z z) z z (TL.v z (OpVal.moveStr (.inl z) z) z z ?_)))))))))
  obtain ⟨v17, u17, hh⟩ := bnd_e hh
  refine TL.op z (OpOk.call (scan_Factors_con (x0 := x0.of) (x1 := x0.left) (x2 := x0.right) f0_0 f0_1 f0_2 f0_3 f0_4 f0_5 f0_6 f0_7 f0_8 u17) z z pf27 z z z z ?_)
  rintro _ τ106 _ hle106 ⟨a106_1, c106_1, rfl, hr106_0, rfl⟩
  replace f0_0 := f0_0.mono hle106
  replace f0_1 := f0_1.mono hle106
  replace f0_2 := f0_2.mono hle106
  replace f0_3 := f0_3.mono hle106
  replace f0_4 := f0_4.mono hle106
  replace f0_5 := f0_5.mono hle106
  replace f0_6 := f0_6.mono hle106
  replace f0_7 := f0_7.mono hle106
  replace f0_8 := f0_8.mono hle106
  replace f0_9 := f0_9.mono hle106
  replace f0_10 := f0_10.mono hle106
  replace f0_11 := f0_11.mono hle106
  replace f0_12 := f0_12.mono hle106
  have hr106_0b := hr106_0.rv.big
  refine TL.v z (OpVal.moveT (.inl z) z) z z (TL.v z (OpVal.extract z z z) z z (TL.v z (OpVal.extract z z z) z z (TL.sl z (.inr z) z z z (TL.a z (.inr z) z z z (TL.en (TC.seq (TC.a (TL.a z (.inl z) z z z (TL.v z (OpVal.neq z z z) z z ?_)))))))))
  refine TL.en (TC.cD z hh (fun h107 hh => ?_) (fun h107 hh => ?_))
  ·refine TC.a (TL.v z (OpVal.buildL z pl36 ze36 z) z z (TL.a z (.inl z) z z z (TL.op z (OpOk.storeAll z sz36 z z z z z z ?_))))
   refine TL.a z (.inr z) z z z (TL.en (TC.ofSub (Sub.pre 1 z) (TC.ret (S.r ?_))))
   obtain rfl := so hh
   exact RetOk.mk' (rs := [.cell 4 36, .tmp 5]) [] z (.inl z) (RVs.agg ag36 sz36 z (i := 0) z z (RVs.tmp z RVs.nil)) (List.sublist_append_left _ _) ⟨none, 0, z, (RS.nilF _ encSpan encSpan_len), z⟩
  ·refine TC.skip (S.n (TC.a (TL.v z (OpVal.loadAll z ag32 sz32 z (i := 1) z z) z z (TL.v z (OpVal.buildL z pl64 ze64 z) z z (TL.v z (OpVal.makeFn z) z z (TL.v z (OpVal.moveFn (.inr z) z) z z (TL.en (TC.seq (TC.a ?_)))))))))
   refine TL.v z (OpVal.fieldLoc z fo32_4 z) z z (TL.v z (OpVal.loadLoc z ag4 z (i := 1) z z) z z (TL.en (TC.cB z hh (fun h108 hh => ?_) (fun h108 hh => ?_))))
   ·refine TC.region (TL.v z (OpVal.loadAll z ag32 sz32 z (i := 1) z z) z z (TL.v z (OpVal.buildL z pl64 ze64 z) z z (TL.v z (OpVal.makeFn z) z z (TL.v z (OpVal.moveFn (.inr z) z) z z (TL.en (TC.a (TL.op z (OpOk.alloc z ze70 z z (fun b109 => ?_)))))))))
    refine TL.asH (H' := [Res.cells b109 #[badV false b109, .slice none 0 0, .slice none 0 0] 70, Res.cells b103 #[.string (bs ([] : List UInt8)), .slice none 0 0] 36, Res.cells b101 #[.slice a0_0 x0.of.cls.length c0_0, .slice a0_1 x0.of.next.length c0_1, .slice a0_2 x0.of.fin.length c0_2, .slice a0_3 x0.left.cls.length c0_3, .slice a0_4 x0.left.next.length c0_4, .slice a0_5 x0.left.fin.length c0_5, .slice a0_6 x0.right.cls.length c0_6, .slice a0_7 x0.right.next.length c0_7, .slice a0_8 x0.right.fin.length c0_8, .string (bs x0.out), .bool x0.mapped, .string (bs x0.by'.front), .slice a0_9 x0.by'.next.length c0_9, .slice a0_10 x0.by'.outs.length c0_10, .slice a0_11 x0.by'.fin.length c0_11, .slice a0_12 x0.by'.tail.length c0_12] 32]) z (TL.en (TC.a (TL.a z (.inr z) z z z (TL.en (TC.seq (TC.a (TL.sl z (.inl z) z z z (TL.v z (OpVal.lenC z Tryz.underlying34 z) z z (TL.a z (.inl z) z z z ?_)))))))))
    refine TL.en (TC.block (TC.nilS 5 1 encU8 (TC.nilS 56 2 encSpan (TC.loopG (α := ((List UInt8) × (List Span) × Int × Nat) × (Bool × (Option Addr) × Nat × (Option Addr) × Nat)) [5, 10, 12, 13, 14, 44, 45, 46, 47, 48, 49, 50, 51, 52, 53, 54, 55, 56, 57, 58, 59, 60, 61, 62, 63, 64, 65, 66, 67, 68, 69, 70, 71, 72, 73, 74, 75, 76, 77] (fun g => [(10, .int .i64 g.1.2.2.1), (44, .int .i64 ((g.1.2.2.2 : Nat) : Int))]) (fun g => [Res.cells b103 #[.string (bs ([] : List UInt8)), .slice none 0 0] 36, Res.cells b109 #[badV g.2.1 b109, .slice g.2.2.1 g.1.1.length g.2.2.2.1, .slice g.2.2.2.2.1 g.1.2.1.length g.2.2.2.2.2] 70, Res.rowS 5 1 encU8 (.slice g.2.2.1 g.1.1.length g.2.2.2.1) g.1.1, Res.rowS 56 2 encSpan (.slice g.2.2.2.2.1 g.1.2.1.length g.2.2.2.2.2) g.1.2.1]) (fun g => τ106) (fun g => iter (fun q : (List UInt8) × (List Span) × Int × Nat => rewrite_Turn_b1 v17 x1 x0 q.1 q.2.1 q.2.2.1 q.2.2.2) g.1 = some r) (fun g => rounds (fun q : (List UInt8) × (List Span) × Int × Nat => rewrite_Turn_b1 v17 x1 x0 q.1 q.2.1 q.2.2.1 q.2.2.2) g.1) ((([] : List UInt8), ([] : List Span), 0, 0), (false, none, 0, none, 0)) (Sub.f [1, 2, 3] 4) z (by repeat (first | exact trivial | refine ⟨z, ?_⟩)) hh (fun g1 j1 hg1 => ?_)))))
    obtain ⟨⟨l135, l139, i142, k143⟩, ⟨u133, a136, c137, a140, c141⟩⟩ := g1
    have hh := hg1; clear hg1
    show TC _ _ _ (upds (mask _ j1 _) [(10, .int .i64 i142), (44, .int .i64 ((k143 : Nat) : Int))]) _ [Res.cells b103 #[.string (bs ([] : List UInt8)), .slice none 0 0] 36, Res.cells b109 #[badV u133 b109, .slice a136 l135.length c137, .slice a140 l139.length c141] 70, Res.rowS 5 1 encU8 (.slice a136 l135.length c137) l135, Res.rowS 56 2 encSpan (.slice a140 l139.length c141) l139]
    obtain ⟨z1, hh, hR1⟩ := iter_e hh
    dsimp only [rewrite_Turn_b1] at hh
    refine TC.isSl (i := 2) z (fun _ hb146 _ => ?_)
    refine TC.isSl (i := 3) z (fun _ hb147 _ => ?_)
    refine TC.a (TL.v z (OpVal.lss z z z) z z (TL.en (TC.seq (TC.cD z hh (fun h148 hh => ?_) (fun h148 hh => ?_)))))
    ·refine TC.skip (S.n (TC.cutG (α := ((List UInt8) × (List Span)) × (Bool × (Option Addr) × Nat × (Option Addr) × Nat)) [5, 10, 12, 13, 14, 46, 47, 48, 49, 50, 51, 52, 53, 54, 55, 56, 57, 58, 59, 60, 61, 62, 63, 64, 65, 66, 67, 68, 69, 70, 71, 72, 73, 74, 75, 76] (fun g => [(10, .int .i64 ((nth v17.1 k143 Span.zero).to))]) (fun g => [Res.cells b103 #[.string (bs ([] : List UInt8)), .slice none 0 0] 36, Res.cells b109 #[badV g.2.1 b109, .slice g.2.2.1 g.1.1.length g.2.2.2.1, .slice g.2.2.2.2.1 g.1.2.length g.2.2.2.2.2] 70, Res.rowS 5 1 encU8 (.slice g.2.2.1 g.1.1.length g.2.2.2.1) g.1.1, Res.rowS 56 2 encSpan (.slice g.2.2.2.2.1 g.1.2.length g.2.2.2.2.2) g.1.2]) (fun g => τ106) (fun g => rewrite_Turn_j1 v17 k143 g.1.1 g.1.2 = some z1) ?_ (fun g j hg => ?_)))
     ·skip
      refine TC.block (TC.a (TL.v z (OpVal.indexN z Tryz.underlying34 sz56 z z hr106_0.rv.sl (by omega)) z z (TL.v z (OpVal.loadSA Span.zero z ag56 sz56 z hr106_0 (by omega) (by omega)) z z (TL.op z (OpOk.alloc z ze56 z z (fun b158 => ?_))))))
      refine TL.op z (OpOk.storeAll z sz56 z z z z z z ?_)
      refine TL.en (TC.a (TL.v z (OpVal.moveStr (.inl z) z) z z (TL.a z (.inl z) z z z (TL.v z (OpVal.fieldLoc z fo56_0 z) z z (TL.v z (OpVal.loadLoc z ag3 z (i := 0) z z) z z (TL.v z (OpVal.buildL z pl56 ze56 z) z z (TL.front 4 z z (TL.front 4 z z (TL.front 4 z z ?_)))))))))
      obtain ⟨v54, u54, hh⟩ := bnd_e hh
      refine TL.op z (OpOk.call (rewrite_turned_stay_con u54) z z pf30 z z z z ?_)
      rintro _ _ _ hle160 ⟨u160_1, a160_2, c160_3, a160_4, c160_5, rfl, rfl, rfl⟩
      refine TL.en (TC.a (TL.v z (OpVal.fieldLoc z fo56_1 z) z z (TL.v z (OpVal.loadLoc z ag3 z (i := 3) z z) z z (TL.a z (.inr z) z z z (TL.en (TC.a (TL.v z (OpVal.moveFn (.inl z) z) z z (TL.v z (OpVal.moveStr (.inl z) z) z z (TL.v z (OpVal.fieldLoc z fo56_0 z) z z ?_)))))))))
      refine TL.v z (OpVal.loadLoc z ag3 z (i := 3) z z) z z (TL.v z (OpVal.fieldLoc z fo56_1 z) z z (TL.v z (OpVal.loadLoc z ag3 z (i := 3) z z) z z ?_))
      have u64 := grd_c hh
      replace hh := grd_t hh
      refine TL.v rfl (OpVal.sliceBs (l := x1) (i := ((nth v17.1 k143 Span.zero).frm).toNat) (j := ((nth v17.1 k143 Span.zero).to).toNat) rfl Tryz.underlying9 rfl (by show Value.int _ _ = _; rw [Int.toNat_of_nonneg (by omega)]) (by show Value.int _ _ = _; rw [Int.toNat_of_nonneg (by omega)]) (by omega) (by omega)) rfl rfl ?_
      obtain ⟨v65, u65, hh⟩ := bnd_e hh
      refine TL.op z (OpOk.callP (rewrite_how_by_con (x0 := (⟨x0⟩ : How)) f0_0 f0_1 f0_2 f0_3 f0_4 f0_5 f0_6 f0_7 f0_8 f0_9 f0_10 f0_11 f0_12 u65) z z pf29 z z z ?_)
      refine TL.v z (OpVal.moveT (.inl z) z) z z (TL.v z (OpVal.extract z z z) z z (TL.v z (OpVal.extract z z z) z z (TL.v z (OpVal.moveStr (.inr z) z) z z (TL.b z (.inr z) z z z (TL.en (TC.a (TL.b z (.inl z) z z z (TL.v z (OpVal.not z z) z z (TL.en ?_)))))))))
      refine TC.cB z hh (fun h163 hh => ?_) (fun h163 hh => ?_)
      ·refine TC.region (TL.v z (OpVal.moveStr (.inl z) z) z z (TL.v z (OpVal.loadAll z ag56 sz56 z (i := 3) z z) z z (TL.front 2 z z (TL.front 2 z z (TL.front 2 z z ?_)))))
       obtain ⟨v75, u75, hh⟩ := bnd_e hh
       refine TL.op z (OpOk.call (rewrite_turned_stay_con u75) z z pf30 z z z z ?_)
       rintro _ _ _ hle164 ⟨u164_1, a164_2, c164_3, a164_4, c164_5, rfl, rfl, rfl⟩
       exact TL.nil (B.n (S.n (cf ((v75.b.buf, v75.at'), (u164_1, a164_2, c164_3, a164_4, c164_5)) hh (Sub.f [2, 2, 2, 4] 4))))
      ·refine TC.a (TL.v z (OpVal.moveStr (.inl z) z) z z (TL.v z (OpVal.loadAll z ag56 sz56 z (i := 3) z z) z z (TL.front 2 z z (TL.front 2 z z (TL.front 2 z z ?_)))))
       obtain ⟨v78, u78, hh⟩ := bnd_e hh
       refine TL.op z (OpOk.call (rewrite_turned_put_con u78) z z pf31 z z z z ?_)
       rintro _ _ _ hle167 ⟨u167_1, a167_2, c167_3, a167_4, c167_5, rfl, rfl, rfl⟩
       refine TL.v z (OpVal.not z z) z z (TL.en (TC.cB z hh (fun h170 hh => ?_) (fun h170 hh => ?_)))
       ·refine TC.a (TL.v z (OpVal.buildL z pl36 ze36 z) z z (TL.front 4 z z (TL.op z (OpOk.storeAll z sz36 z z z z z z ?_))))
        refine TL.a z (.inr z) z z z (TL.en (TC.ofSub (Sub.pre 1 z) (TC.ret (B.r (S.r (S.r ?_))))))
        replace hh := fin_x hR1 hh
        refine B.r (S.r ?_)
        obtain rfl := so hh
        exact RetOk.mk' (rs := [.cell 4 36, .tmp 5]) [] z (.inl z) (RVs.agg ag36 sz36 z (i := 0) z z (RVs.tmp z RVs.nil)) (List.sublist_append_left _ _) ⟨none, 0, z, (RS.nilF _ encSpan encSpan_len), z⟩
       ·exact TC.skip (B.n (S.n (cf ((v78.2.b.buf, v78.2.at'), (u167_1, a167_2, c167_3, a167_4, c167_5)) hh (Sub.f [2, 2, 2, 4] 4))))
     ·skip
      obtain ⟨⟨l151, l155⟩, ⟨u149, a152, c153, a156, c157⟩⟩ := g
      have hh := hg; clear hg
      show TC _ _ _ (upds (mask _ j _) [(10, .int .i64 ((nth v17.1 k143 Span.zero).to))]) _ [Res.cells b103 #[.string (bs ([] : List UInt8)), .slice none 0 0] 36, Res.cells b109 #[badV u149 b109, .slice a152 l151.length c153, .slice a156 l155.length c157] 70, Res.rowS 5 1 encU8 (.slice a152 l151.length c153) l151, Res.rowS 56 2 encSpan (.slice a156 l155.length c157) l155]
      dsimp only [rewrite_Turn_j1] at hh
      refine TC.isSl (i := 2) z (fun _ hb171 _ => ?_)
      refine TC.isSl (i := 3) z (fun _ hb172 _ => ?_)
      refine TC.region (TL.v z (OpVal.succ z z z (by omega)) z z (TL.a z (.inl z) z z z (TL.en ?_)))
      obtain ⟨hh, hlt173⟩ := nxt_x hR1 hh
      exact lf ((l151, l155, ((nth v17.1 k143 Span.zero).to), (k143 + 1)), (u149, a152, c153, a156, c157)) hlt173 hh (Sub.f [3, 3, 3, 3] 4)
    ·refine TC.exit (S.x (S.x ?_))
     replace hh := fin_x hR1 hh
     refine TC.exitHere (S.n (TC.a (TL.v z (OpVal.moveStr (.inl z) z) z z (TL.a z (.inl z) z z z (TL.v z (OpVal.moveStr (.inl z) z) z z (TL.v z (OpVal.lenBs z Tryz.underlying9 z) z z (TL.v z (OpVal.buildL z pl56 ze56 z) z z (TL.front 3 z z (TL.front 3 z z ?_)))))))))
     refine TL.front 3 z z ?_
     obtain ⟨v90, u90, hh⟩ := bnd_e hh
     refine TL.op z (OpOk.call (rewrite_turned_stay_con u90) z z pf30 z z z z ?_)
     rintro _ _ _ hle174 ⟨u174_1, a174_2, c174_3, a174_4, c174_5, rfl, rfl, rfl⟩
     refine TL.en (TC.seq (TC.a (TL.v z (OpVal.fieldLoc z fo70_0 z) z z (TL.front 2 z z (TL.front 2 z z (TL.front 2 z z ?_))))))
     obtain ⟨v92, u92, hh⟩ := bnd_e hh
     refine TL.op z (OpOk.call (lenU_con u92) z z pf32 z z z z ?_)
     rintro _ _ _ hle177 ⟨rfl, rfl, rfl⟩
     refine TL.v z (OpVal.gtr z z z) z z (TL.en (TC.cD z hh (fun h178 hh => ?_) (fun h178 hh => ?_)))
     ·refine TC.a (TL.v z (OpVal.buildL z pl36 ze36 z) z z (TL.front 3 z z (TL.op z (OpOk.storeAll z sz36 z z z z z z ?_))))
      refine TL.a z (.inr z) z z z (TL.en (TC.ofSub (Sub.pre 1 z) (TC.ret (S.r ?_))))
      obtain rfl := so hh
      exact RetOk.mk' (rs := [.cell 4 36, .tmp 5]) [] z (.inl z) (RVs.agg ag36 sz36 z (i := 0) z z (RVs.tmp z RVs.nil)) (List.sublist_append_left _ _) ⟨none, 0, z, (RS.nilF _ encSpan encSpan_len), z⟩
     ·refine TC.skip (S.n (TC.a (TL.front 2 z z (TL.front 2 z z (TL.front 2 z z ?_)))))
      obtain ⟨v97, u97, hh⟩ := bnd_e hh
      refine TL.op z (OpOk.call (rewrite_turned_piece_con u97) z z pf33 z z z z ?_)
      rintro _ τ179 _ hle179 ⟨a179_1, c179_2, rfl, hr179_3, rfl⟩
      replace f0_0 := f0_0.mono hle179
      replace f0_1 := f0_1.mono hle179
      replace f0_2 := f0_2.mono hle179
      replace f0_3 := f0_3.mono hle179
      replace f0_4 := f0_4.mono hle179
      replace f0_5 := f0_5.mono hle179
      replace f0_6 := f0_6.mono hle179
      replace f0_7 := f0_7.mono hle179
      replace f0_8 := f0_8.mono hle179
      replace f0_9 := f0_9.mono hle179
      replace f0_10 := f0_10.mono hle179
      replace f0_11 := f0_11.mono hle179
      replace f0_12 := f0_12.mono hle179
      replace hr106_0 := hr106_0.mono hle179
      have hr179_3b := hr179_3.rv.big
      refine TL.op z (OpOk.storeAll z sz36 z z z z z z ?_)
      refine TL.a z (.inr z) z z z (TL.en (TC.ret ?_))
      obtain rfl := so hh
      exact RetOk.mk' (rs := [.cell 4 36, .tmp 5]) [] z (.inl z) (RVs.agg ag36 sz36 z (i := 0) z z (RVs.tmp z RVs.nil)) (List.sublist_append_left _ _) ⟨a179_1, c179_2, z, hr179_3, z⟩
   ·refine TC.skip (S.n (TC.a (TL.op z (OpOk.alloc z ze70 z z (fun b180 => ?_)))))
    refine TL.asH (H' := [Res.cells b180 #[badV false b180, .slice none 0 0, .slice none 0 0] 70, Res.cells b103 #[.string (bs ([] : List UInt8)), .slice none 0 0] 36, Res.cells b101 #[.slice a0_0 x0.of.cls.length c0_0, .slice a0_1 x0.of.next.length c0_1, .slice a0_2 x0.of.fin.length c0_2, .slice a0_3 x0.left.cls.length c0_3, .slice a0_4 x0.left.next.length c0_4, .slice a0_5 x0.left.fin.length c0_5, .slice a0_6 x0.right.cls.length c0_6, .slice a0_7 x0.right.next.length c0_7, .slice a0_8 x0.right.fin.length c0_8, .string (bs x0.out), .bool x0.mapped, .string (bs x0.by'.front), .slice a0_9 x0.by'.next.length c0_9, .slice a0_10 x0.by'.outs.length c0_10, .slice a0_11 x0.by'.fin.length c0_11, .slice a0_12 x0.by'.tail.length c0_12] 32]) z (TL.en (TC.a (TL.a z (.inr z) z z z (TL.en (TC.seq (TC.a (TL.sl z (.inl z) z z z (TL.v z (OpVal.lenC z Tryz.underlying34 z) z z (TL.a z (.inl z) z z z ?_)))))))))
    refine TL.en (TC.block (TC.nilS 5 1 encU8 (TC.nilS 56 2 encSpan (TC.loopG (α := ((List UInt8) × (List Span) × Int × Nat) × (Bool × (Option Addr) × Nat × (Option Addr) × Nat)) [5, 10, 12, 13, 14, 44, 45, 46, 47, 48, 49, 50, 51, 52, 53, 54, 55, 56, 57, 58, 59, 60, 61, 62, 63, 64, 65, 66, 67, 68, 69, 70, 71, 72, 73, 74, 75, 76, 77] (fun g => [(10, .int .i64 g.1.2.2.1), (44, .int .i64 ((g.1.2.2.2 : Nat) : Int))]) (fun g => [Res.cells b103 #[.string (bs ([] : List UInt8)), .slice none 0 0] 36, Res.cells b180 #[badV g.2.1 b180, .slice g.2.2.1 g.1.1.length g.2.2.2.1, .slice g.2.2.2.2.1 g.1.2.1.length g.2.2.2.2.2] 70, Res.rowS 5 1 encU8 (.slice g.2.2.1 g.1.1.length g.2.2.2.1) g.1.1, Res.rowS 56 2 encSpan (.slice g.2.2.2.2.1 g.1.2.1.length g.2.2.2.2.2) g.1.2.1]) (fun g => τ106) (fun g => iter (fun q : (List UInt8) × (List Span) × Int × Nat => rewrite_Turn_b2 v17 x1 x0 q.1 q.2.1 q.2.2.1 q.2.2.2) g.1 = some r) (fun g => rounds (fun q : (List UInt8) × (List Span) × Int × Nat => rewrite_Turn_b2 v17 x1 x0 q.1 q.2.1 q.2.2.1 q.2.2.2) g.1) ((([] : List UInt8), ([] : List Span), 0, 0), (false, none, 0, none, 0)) (Sub.f [1, 2, 3] 4) z (by repeat (first | exact trivial | refine ⟨z, ?_⟩)) hh (fun g2 j2 hg2 => ?_)))))
    obtain ⟨⟨l206, l210, i213, k214⟩, ⟨u204, a207, c208, a211, c212⟩⟩ := g2
    have hh := hg2; clear hg2
    show TC _ _ _ (upds (mask _ j2 _) [(10, .int .i64 i213), (44, .int .i64 ((k214 : Nat) : Int))]) _ [Res.cells b103 #[.string (bs ([] : List UInt8)), .slice none 0 0] 36, Res.cells b180 #[badV u204 b180, .slice a207 l206.length c208, .slice a211 l210.length c212] 70, Res.rowS 5 1 encU8 (.slice a207 l206.length c208) l206, Res.rowS 56 2 encSpan (.slice a211 l210.length c212) l210]
    obtain ⟨z1, hh, hR1⟩ := iter_e hh
    dsimp only [rewrite_Turn_b2] at hh
    refine TC.isSl (i := 2) z (fun _ hb217 _ => ?_)
    refine TC.isSl (i := 3) z (fun _ hb218 _ => ?_)
    refine TC.a (TL.v z (OpVal.lss z z z) z z (TL.en (TC.seq (TC.cD z hh (fun h219 hh => ?_) (fun h219 hh => ?_)))))
    ·refine TC.skip (S.n (TC.cutG (α := ((List UInt8) × (List Span)) × (Bool × (Option Addr) × Nat × (Option Addr) × Nat)) [5, 10, 12, 13, 14, 46, 47, 48, 49, 50, 51, 52, 53, 54, 55, 56, 57, 58, 59, 60, 61, 62, 63, 64, 65, 66, 67, 68, 69, 70, 71, 72, 73, 74, 75, 76] (fun g => [(10, .int .i64 ((nth v17.1 k214 Span.zero).to))]) (fun g => [Res.cells b103 #[.string (bs ([] : List UInt8)), .slice none 0 0] 36, Res.cells b180 #[badV g.2.1 b180, .slice g.2.2.1 g.1.1.length g.2.2.2.1, .slice g.2.2.2.2.1 g.1.2.length g.2.2.2.2.2] 70, Res.rowS 5 1 encU8 (.slice g.2.2.1 g.1.1.length g.2.2.2.1) g.1.1, Res.rowS 56 2 encSpan (.slice g.2.2.2.2.1 g.1.2.length g.2.2.2.2.2) g.1.2]) (fun g => τ106) (fun g => rewrite_Turn_j2 v17 k214 g.1.1 g.1.2 = some z1) ?_ (fun g j hg => ?_)))
     ·skip
      refine TC.block (TC.a (TL.v z (OpVal.indexN z Tryz.underlying34 sz56 z z hr106_0.rv.sl (by omega)) z z (TL.v z (OpVal.loadSA Span.zero z ag56 sz56 z hr106_0 (by omega) (by omega)) z z (TL.op z (OpOk.alloc z ze56 z z (fun b229 => ?_))))))
      refine TL.op z (OpOk.storeAll z sz56 z z z z z z ?_)
      refine TL.en (TC.a (TL.v z (OpVal.moveStr (.inl z) z) z z (TL.a z (.inl z) z z z (TL.v z (OpVal.fieldLoc z fo56_0 z) z z (TL.v z (OpVal.loadLoc z ag3 z (i := 0) z z) z z (TL.v z (OpVal.buildL z pl56 ze56 z) z z (TL.front 4 z z (TL.front 4 z z (TL.front 4 z z ?_)))))))))
      obtain ⟨v54, u54, hh⟩ := bnd_e hh
      refine TL.op z (OpOk.call (rewrite_turned_stay_con u54) z z pf30 z z z z ?_)
      rintro _ _ _ hle231 ⟨u231_1, a231_2, c231_3, a231_4, c231_5, rfl, rfl, rfl⟩
      refine TL.en (TC.a (TL.v z (OpVal.fieldLoc z fo56_1 z) z z (TL.v z (OpVal.loadLoc z ag3 z (i := 3) z z) z z (TL.a z (.inr z) z z z (TL.en (TC.a (TL.v z (OpVal.moveFn (.inl z) z) z z (TL.v z (OpVal.moveStr (.inl z) z) z z (TL.v z (OpVal.fieldLoc z fo56_0 z) z z ?_)))))))))
      refine TL.v z (OpVal.loadLoc z ag3 z (i := 3) z z) z z (TL.v z (OpVal.fieldLoc z fo56_1 z) z z (TL.v z (OpVal.loadLoc z ag3 z (i := 3) z z) z z ?_))
      have u64 := grd_c hh
      replace hh := grd_t hh
      refine TL.v rfl (OpVal.sliceBs (l := x1) (i := ((nth v17.1 k214 Span.zero).frm).toNat) (j := ((nth v17.1 k214 Span.zero).to).toNat) rfl Tryz.underlying9 rfl (by show Value.int _ _ = _; rw [Int.toNat_of_nonneg (by omega)]) (by show Value.int _ _ = _; rw [Int.toNat_of_nonneg (by omega)]) (by omega) (by omega)) rfl rfl ?_
      obtain ⟨v65, u65, hh⟩ := bnd_e hh
      refine TL.op z (OpOk.callP (rewrite_how_out_con (x0 := (⟨x0⟩ : How)) f0_0 f0_1 f0_2 f0_3 f0_4 f0_5 f0_6 f0_7 f0_8 f0_9 f0_10 f0_11 f0_12 u65) z z pf28 z z z ?_)
      refine TL.v z (OpVal.moveT (.inl z) z) z z (TL.v z (OpVal.extract z z z) z z (TL.v z (OpVal.extract z z z) z z (TL.v z (OpVal.moveStr (.inr z) z) z z (TL.b z (.inr z) z z z (TL.en (TC.a (TL.b z (.inl z) z z z (TL.v z (OpVal.not z z) z z (TL.en ?_)))))))))
      refine TC.cB z hh (fun h234 hh => ?_) (fun h234 hh => ?_)
      ·refine TC.region (TL.v z (OpVal.moveStr (.inl z) z) z z (TL.v z (OpVal.loadAll z ag56 sz56 z (i := 3) z z) z z (TL.front 2 z z (TL.front 2 z z (TL.front 2 z z ?_)))))
       obtain ⟨v75, u75, hh⟩ := bnd_e hh
       refine TL.op z (OpOk.call (rewrite_turned_stay_con u75) z z pf30 z z z z ?_)
       rintro _ _ _ hle235 ⟨u235_1, a235_2, c235_3, a235_4, c235_5, rfl, rfl, rfl⟩
       exact TL.nil (B.n (S.n (cf ((v75.b.buf, v75.at'), (u235_1, a235_2, c235_3, a235_4, c235_5)) hh (Sub.f [2, 2, 2, 4] 4))))
      ·refine TC.a (TL.v z (OpVal.moveStr (.inl z) z) z z (TL.v z (OpVal.loadAll z ag56 sz56 z (i := 3) z z) z z (TL.front 2 z z (TL.front 2 z z (TL.front 2 z z ?_)))))
       obtain ⟨v78, u78, hh⟩ := bnd_e hh
       refine TL.op z (OpOk.call (rewrite_turned_put_con u78) z z pf31 z z z z ?_)
       rintro _ _ _ hle238 ⟨u238_1, a238_2, c238_3, a238_4, c238_5, rfl, rfl, rfl⟩
       refine TL.v z (OpVal.not z z) z z (TL.en (TC.cB z hh (fun h241 hh => ?_) (fun h241 hh => ?_)))
       ·refine TC.a (TL.v z (OpVal.buildL z pl36 ze36 z) z z (TL.front 4 z z (TL.op z (OpOk.storeAll z sz36 z z z z z z ?_))))
        refine TL.a z (.inr z) z z z (TL.en (TC.ofSub (Sub.pre 1 z) (TC.ret (B.r (S.r (S.r ?_))))))
        replace hh := fin_x hR1 hh
        refine B.r (S.r ?_)
        obtain rfl := so hh
        exact RetOk.mk' (rs := [.cell 4 36, .tmp 5]) [] z (.inl z) (RVs.agg ag36 sz36 z (i := 0) z z (RVs.tmp z RVs.nil)) (List.sublist_append_left _ _) ⟨none, 0, z, (RS.nilF _ encSpan encSpan_len), z⟩
       ·exact TC.skip (B.n (S.n (cf ((v78.2.b.buf, v78.2.at'), (u238_1, a238_2, c238_3, a238_4, c238_5)) hh (Sub.f [2, 2, 2, 4] 4))))
     ·skip
      obtain ⟨⟨l222, l226⟩, ⟨u220, a223, c224, a227, c228⟩⟩ := g
      have hh := hg; clear hg
      show TC _ _ _ (upds (mask _ j _) [(10, .int .i64 ((nth v17.1 k214 Span.zero).to))]) _ [Res.cells b103 #[.string (bs ([] : List UInt8)), .slice none 0 0] 36, Res.cells b180 #[badV u220 b180, .slice a223 l222.length c224, .slice a227 l226.length c228] 70, Res.rowS 5 1 encU8 (.slice a223 l222.length c224) l222, Res.rowS 56 2 encSpan (.slice a227 l226.length c228) l226]
      dsimp only [rewrite_Turn_j2] at hh
      refine TC.isSl (i := 2) z (fun _ hb242 _ => ?_)
      refine TC.isSl (i := 3) z (fun _ hb243 _ => ?_)
      refine TC.region (TL.v z (OpVal.succ z z z (by omega)) z z (TL.a z (.inl z) z z z (TL.en ?_)))
      obtain ⟨hh, hlt244⟩ := nxt_x hR1 hh
      exact lf ((l222, l226, ((nth v17.1 k214 Span.zero).to), (k214 + 1)), (u220, a223, c224, a227, c228)) hlt244 hh (Sub.f [3, 3, 3, 3] 4)
    ·refine TC.exit (S.x (S.x ?_))
     replace hh := fin_x hR1 hh
     refine TC.exitHere (S.n (TC.a (TL.v z (OpVal.moveStr (.inl z) z) z z (TL.a z (.inl z) z z z (TL.v z (OpVal.moveStr (.inl z) z) z z (TL.v z (OpVal.lenBs z Tryz.underlying9 z) z z (TL.v z (OpVal.buildL z pl56 ze56 z) z z (TL.front 3 z z (TL.front 3 z z ?_)))))))))
     refine TL.front 3 z z ?_
     obtain ⟨v90, u90, hh⟩ := bnd_e hh
     refine TL.op z (OpOk.call (rewrite_turned_stay_con u90) z z pf30 z z z z ?_)
     rintro _ _ _ hle245 ⟨u245_1, a245_2, c245_3, a245_4, c245_5, rfl, rfl, rfl⟩
     refine TL.en (TC.seq (TC.a (TL.v z (OpVal.fieldLoc z fo70_0 z) z z (TL.front 2 z z (TL.front 2 z z (TL.front 2 z z ?_))))))
     obtain ⟨v92, u92, hh⟩ := bnd_e hh
     refine TL.op z (OpOk.call (lenU_con u92) z z pf32 z z z z ?_)
     rintro _ _ _ hle248 ⟨rfl, rfl, rfl⟩
     refine TL.v z (OpVal.gtr z z z) z z (TL.en (TC.cD z hh (fun h249 hh => ?_) (fun h249 hh => ?_)))
     ·refine TC.a (TL.v z (OpVal.buildL z pl36 ze36 z) z z (TL.front 3 z z (TL.op z (OpOk.storeAll z sz36 z z z z z z ?_))))
      refine TL.a z (.inr z) z z z (TL.en (TC.ofSub (Sub.pre 1 z) (TC.ret (S.r ?_))))
      obtain rfl := so hh
      exact RetOk.mk' (rs := [.cell 4 36, .tmp 5]) [] z (.inl z) (RVs.agg ag36 sz36 z (i := 0) z z (RVs.tmp z RVs.nil)) (List.sublist_append_left _ _) ⟨none, 0, z, (RS.nilF _ encSpan encSpan_len), z⟩
     ·refine TC.skip (S.n (TC.a (TL.front 2 z z (TL.front 2 z z (TL.front 2 z z ?_)))))
      obtain ⟨v97, u97, hh⟩ := bnd_e hh
      refine TL.op z (OpOk.call (rewrite_turned_piece_con u97) z z pf33 z z z z ?_)
      rintro _ τ250 _ hle250 ⟨a250_1, c250_2, rfl, hr250_3, rfl⟩
      replace f0_0 := f0_0.mono hle250
      replace f0_1 := f0_1.mono hle250
      replace f0_2 := f0_2.mono hle250
      replace f0_3 := f0_3.mono hle250
      replace f0_4 := f0_4.mono hle250
      replace f0_5 := f0_5.mono hle250
      replace f0_6 := f0_6.mono hle250
      replace f0_7 := f0_7.mono hle250
      replace f0_8 := f0_8.mono hle250
      replace f0_9 := f0_9.mono hle250
      replace f0_10 := f0_10.mono hle250
      replace f0_11 := f0_11.mono hle250
      replace f0_12 := f0_12.mono hle250
      replace hr106_0 := hr106_0.mono hle250
      have hr250_3b := hr250_3.rv.big
      refine TL.op z (OpOk.storeAll z sz36 z z z z z z ?_)
      refine TL.a z (.inr z) z z z (TL.en (TC.ret ?_))
      obtain rfl := so hh
      exact RetOk.mk' (rs := [.cell 4 36, .tmp 5]) [] z (.inl z) (RVs.agg ag36 sz36 z (i := 0) z z (RVs.tmp z RVs.nil)) (List.sublist_append_left _ _) ⟨a250_1, c250_2, z, hr250_3, z⟩

end Go.Proofs.YtmfclggfajopkaaGreatDoor
end

/- Pl -/
section
/- Plain lemmas on rounds. No program, no condition. -/
set_option linter.unusedVariables false
set_option linter.unusedSimpArgs false
namespace Go.E
open Go

section
variable {S R : Type} {step : S → Option (S ⊕ R)}
/-- Rounds that count, and may stop at the first that tells. -/
theorem iter_any {y no : R} (f : Nat → S) (p : Nat → Bool) (n : Nat) (hs : ∀ k, k < n → p k = false → step (f k) = some (.inl (f (k + 1)))) (hy : ∀ k, k < n → p k = true → step (f k) = some (.inr y))
    (hd : step (f n) = some (.inr no)) : ∀ k, k ≤ n → iter step (f k) = some (bif (List.range n).any (fun i => decide (k ≤ i) && p i) then y else no) := by
  intro k hk
  obtain ⟨m, rfl⟩ : ∃ m, k = n - m := ⟨n - k, by omega⟩
  induction m with
  | zero =>
    have : (List.range n).any (fun i => decide (n - 0 ≤ i) && p i) = false := by
      rw [List.any_eq_false]; intro i hi; have := List.mem_range.1 hi; simp; omega
    rw [this]; exact iter_done hd
  | succ m ih =>
    by_cases h : m < n
    · have e : n - (m + 1) + 1 = n - m := by omega
      cases hp : p (n - (m + 1)) with
      | true =>
        have : (List.range n).any (fun i => decide (n - (m + 1) ≤ i) && p i) = true := by
          rw [List.any_eq_true]; exact ⟨n - (m + 1), List.mem_range.2 (by omega), by simp [hp]⟩
        rw [this]; exact iter_done (hy _ (by omega) hp)
      | false =>
        have h1 := hs (n - (m + 1)) (by omega) hp
        rw [e] at h1
        have : (List.range n).any (fun i => decide (n - (m + 1) ≤ i) && p i) = (List.range n).any (fun i => decide (n - m ≤ i) && p i) := by
          rw [Bool.eq_iff_iff, List.any_eq_true, List.any_eq_true]
          constructor
          · rintro ⟨i, hi, hx⟩
            simp only [Bool.and_eq_true, decide_eq_true_eq] at hx
            refine ⟨i, hi, ?_⟩
            have : i ≠ n - (m + 1) := fun h => by rw [h, hp] at hx; exact absurd hx.2 Bool.false_ne_true
            simp [hx.2]; omega
          · rintro ⟨i, hi, hx⟩
            simp only [Bool.and_eq_true, decide_eq_true_eq] at hx
            exact ⟨i, hi, by simp [hx.2]; omega⟩
        rw [this]
        exact iter_next h1 (ih (by omega))
    · have e : n - (m + 1) = n - m := by omega
      rw [e]; exact ih (by omega)
theorem iter_any0 {y no : R} (f : Nat → S) (p : Nat → Bool) (n : Nat) (hs : ∀ k, k < n → p k = false → step (f k) = some (.inl (f (k + 1)))) (hy : ∀ k, k < n → p k = true → step (f k) = some (.inr y))
    (hd : step (f n) = some (.inr no)) : iter step (f 0) = some (bif (List.range n).any p then y else no) := by
  have := iter_any f p n hs hy hd 0 (by omega)
  simpa using this
end

theorem take_snoc {α : Type} (l : List α) {k : Nat} (h : k < l.length) (d : α) : l.take (k + 1) = l.take k ++ [nth l k d] := by
  rw [List.take_add_one, getD_some l h d]; rfl
end Go.E
end

/- FMp -/
section
/- Sets of keys, as finite maps; rows by number. Plain lemmas, no condition. -/
set_option linter.unusedVariables false
set_option linter.unusedSimpArgs false
namespace Go.E
open Go
set_option linter.unusedSectionVars false
section
variable {K : Type} [DecidableEq K]
end

section
variable {β γ : Type}
/-- Rows of what bears a number. -/
structure Grp (key : β → Int) (val : β → γ) (n : Nat) (l : List (List γ)) (xs : List β) : Prop where
  len : l.length = n
  row : ∀ i, i < n → nth l i [] = (xs.filter fun x => decide (key x = (i : Int))).map val
end
end Go.E
end

/- It -/
section
/- Rounds over a list's things, by an invariant on what was met. Plain lemmas, no condition. -/
set_option linter.unusedVariables false
set_option linter.unusedSimpArgs false
namespace Go.E
open Go
theorem iter_inl {S R : Type} {step : S → Option (S ⊕ R)} {s s' : S} (h : step s = some (.inl s')) : iter step s = iter step s' := by
  cases hr : iter step s' with
  | some r => exact iter_next h hr
  | none =>
    cases hq : iter step s with
    | none => rfl
    | some r =>
      obtain ⟨z, hz, hR⟩ := iter_e hq
      rw [h] at hz; cases hz
      have := (hR.next s' rfl).1
      rw [hr] at this; cases this
/-- Rounds over a list, by an invariant on what was met so far. -/
theorem iter_for {α S T R : Type} {step : T → Option (T ⊕ R)} (g : S → Nat → T) (l : List α) (d : α) (I : List α → S → Prop) (Q : R → Prop)
    (hs : ∀ k s, k < l.length → I (l.take k) s → (∃ s', step (g s k) = some (.inl (g s' (k + 1))) ∧ I (l.take k ++ [nth l k d]) s') ∨ ∃ r, step (g s k) = some (.inr r) ∧ Q r)
    (hd : ∀ s, I l s → ∃ r, step (g s l.length) = some (.inr r) ∧ Q r) {s0 : S} (h0 : I [] s0) : ∃ r, iter step (g s0 0) = some r ∧ Q r := by
  have key : ∀ m k s, l.length - k = m → k ≤ l.length → I (l.take k) s → ∃ r, iter step (g s k) = some r ∧ Q r := by
    intro m
    induction m with
    | zero =>
      intro k s hm hk hI
      have hk : k = l.length := by omega
      subst hk
      rw [List.take_length] at hI
      obtain ⟨r, h1, h2⟩ := hd s hI
      exact ⟨r, iter_done h1, h2⟩
    | succ m ih =>
      intro k s hm hk hI
      rcases hs k s (by omega) hI with ⟨s', h1, h2⟩ | ⟨r, h1, h2⟩
      · rw [← take_snoc l (by omega) d] at h2
        obtain ⟨r, h3, h4⟩ := ih (k + 1) s' (by omega) (by omega) h2
        exact ⟨r, iter_next h1 h3, h4⟩
      · exact ⟨r, iter_done h1, h2⟩
  exact key _ 0 s0 rfl (Nat.zero_le _) h0
theorem take_split {α : Type} (l : List α) {k : Nat} (h : k < l.length) (d : α) : l = l.take k ++ nth l k d :: l.drop (k + 1) := by
  have h1 : l.drop k = nth l k d :: l.drop (k + 1) := by
    have := List.drop_eq_getElem_cons h
    rw [this]; congr 1
    have h2 := getD_some l h d
    rw [List.getElem?_eq_getElem h] at h2; exact Option.some.inj h2
  rw [← h1, List.take_append_drop]
end Go.E
end

/- Sm -/
section
/- Rules by which simp, with omega for what is asked, follows a decompiled function. Plain lemmas, no condition. -/
set_option linter.unusedVariables false
set_option linter.unusedSimpArgs false
namespace Go.E
open Go
theorem iteO_dt {α : Type} {p : Prop} [Decidable p] {a b : Option α} (h : p) : iteO (decide p) a b = a := by rw [decide_eq_true h]; rfl
theorem iteO_df {α : Type} {p : Prop} [Decidable p] {a b : Option α} (h : ¬ p) : iteO (decide p) a b = b := by rw [decide_eq_false h]; rfl
theorem bnd_mk {α β : Type} {x : α} {f : α → Option β} : bnd (some x) f = f x := rfl
theorem iteO_nt {α : Type} {a b : Option α} : iteO (!true) a b = b := rfl
theorem iteO_nf {α : Type} {a b : Option α} : iteO (!false) a b = a := rfl
/-- Rounds that count up through n, whose state stands in a relation to the number. -/
theorem iter_up {S T R : Type} {step : T → Option (T ⊕ R)} (g : S → Nat → T) (n : Nat) (I : Nat → S → Prop) (Q : R → Prop)
    (hs : ∀ k s, k < n → I k s → (∃ s', step (g s k) = some (.inl (g s' (k + 1))) ∧ I (k + 1) s') ∨ ∃ r, step (g s k) = some (.inr r) ∧ Q r)
    (hd : ∀ s, I n s → ∃ r, step (g s n) = some (.inr r) ∧ Q r) {s0 : S} (h0 : I 0 s0) : ∃ r, iter step (g s0 0) = some r ∧ Q r := by
  have key : ∀ m k s, n - k = m → k ≤ n → I k s → ∃ r, iter step (g s k) = some r ∧ Q r := by
    intro m
    induction m with
    | zero =>
      intro k s hm hk hI
      have hk : k = n := by omega
      subst hk
      obtain ⟨r, h1, h2⟩ := hd s hI
      exact ⟨r, iter_done h1, h2⟩
    | succ m ih =>
      intro k s hm hk hI
      rcases hs k s (by omega) hI with ⟨s', h1, h2⟩ | ⟨r, h1, h2⟩
      · obtain ⟨r, h3, h4⟩ := ih (k + 1) s' (by omega) (by omega) h2
        exact ⟨r, iter_next h1 h3, h4⟩
      · exact ⟨r, iter_done h1, h2⟩
  exact key _ 0 s0 rfl (Nat.zero_le _) h0
theorem nth_set {α : Type} (l : List α) (i j : Nat) (x d : α) : nth (l.set i x) j d = if i = j ∧ j < l.length then x else nth l j d := by
  unfold nth
  simp only [List.getD_eq_getElem?_getD, List.getElem?_set]
  by_cases h : i = j
  · subst h
    by_cases k : i < l.length
    · simp [k]
    · simp [k]
  · simp [h]
theorem nth_map {α β : Type} (f : α → β) (l : List α) (i : Nat) (d : α) (e : β) (h : i < l.length) : nth (l.map f) i e = f (nth l i d) := by
  unfold nth
  simp [List.getD_eq_getElem?_getD, List.getElem?_map, List.getElem?_eq_getElem h]
theorem nth_rep {α : Type} (n i : Nat) (x : α) : nth (List.replicate n x) i x = x := by
  unfold nth
  rw [List.getD_eq_getElem?_getD, List.getElem?_replicate]
  split <;> rfl
/-- Lists of one length whose things are the same are one. -/
theorem nth_ext {α : Type} (d : α) {l m : List α} (hl : l.length = m.length) (h : ∀ i, i < l.length → nth l i d = nth m i d) : l = m := by
  apply List.ext_getElem hl
  intro i h1 h2
  have a := h i h1
  have b := getD_some l h1 d
  have c := getD_some m h2 d
  rw [List.getElem?_eq_getElem h1] at b
  rw [List.getElem?_eq_getElem h2] at c
  rw [Option.some.inj b, a, ← Option.some.inj c]
theorem any_range_succ (n : Nat) (p : Nat → Bool) : (List.range (n + 1)).any p = ((List.range n).any p || p n) := by
  rw [List.range_succ, List.any_append]; simp
theorem any_range {n : Nat} {p : Nat → Bool} : (List.range n).any p = true ↔ ∃ j, j < n ∧ p j = true := by
  simp [List.any_eq_true, List.mem_range]
end Go.E
end

/- RwC -/
section
/- Transducers that go one way: Check, Apply. Plain lemmas, no condition. -/
set_option linter.unusedVariables false
set_option linter.unusedSimpArgs false
namespace Go.Proofs.YtmfclggfajopkaaGreatDoor
open Go Go.E
set_option maxRecDepth 100000

theorem all_range {n : Nat} {p : Nat → Bool} : (List.range n).all p = true ↔ ∀ j, j < n → p j = true := by
  simp [List.all_eq_true, List.mem_range]
/-- Rounds that count, and stop at the first that is not right. -/
theorem iter_chk {R : Type} {step : Nat → Option (Nat ⊕ R)} {good bad : R} (n : Nat) (p : Nat → Bool) (hy : ∀ k, k < n → p k = true → step k = some (.inl (k + 1))) (hn : ∀ k, k < n → p k = false → step k = some (.inr bad)) (hd : step n = some (.inr good)) :
    iter step 0 = some (if (List.range n).all p = true then good else bad) := by
  have h := iter_any0 (step := step) (y := bad) (no := good) (fun k => k) (fun k => !p k) n (fun k hk h => hy k hk (by simpa using h)) (fun k hk h => hn k hk (by simpa using h)) hd
  rw [h, ← List.not_all_eq_any_not]
  cases (List.range n).all p <;> rfl

/-- May the row of a state, of n states, be so, at a byte? -/
def cellQ (nx : List Int) (os : List (List UInt8)) (n b : Nat) : Bool := decide (-1 ≤ nth nx b 0) && decide (nth nx b 0 < (n : Int)) && decide ((nth os b []).length ≤ 4096) && (decide (nth nx b 0 ≠ -1) || decide (nth os b [] = []))
def rowQ (nx : List Int) (os : List (List UInt8)) (n : Nat) : Bool := decide (nx.length = 256) && decide (os.length = 256) && (List.range 256).all (cellQ nx os n)
theorem seq_row_eq (nx : List Int) (os : List (List UInt8)) (n : Nat) : seq_row nx os ((n : Nat) : Int) = some (rowQ nx os n) := by
  unfold seq_row rowQ
  by_cases h1 : nx.length = 256
  · rw [iteO_df (by omega)]
    by_cases h2 : os.length = 256
    · rw [iteO_df (by omega), decide_eq_true h1, decide_eq_true h2, Bool.true_and, Bool.true_and]
      have := iter_chk (step := fun q : Nat => seq_row_b1 nx ((n : Nat) : Int) os q) (good := true) (bad := false) 256 (cellQ nx os n) ?_ ?_ ?_
      · rw [this]; cases (List.range 256).all (cellQ nx os n) <;> rfl
      · intro k hk hp
        simp only [cellQ, Bool.and_eq_true, Bool.or_eq_true, decide_eq_true_eq] at hp
        obtain ⟨⟨⟨p1, p2⟩, p3⟩, p4⟩ := hp
        simp only [seq_row_b1, seq_row_j1]
        rw [iteO_dt (by omega), iteO_df (by omega), iteO_df (by omega), grd_mk (by omega), iteO_df (by omega)]
        by_cases c : nth nx k (0 : Int) = -1
        · rw [iteO_dt c, grd_mk (by omega), iteO_df (by rcases p4 with p4 | p4 <;> simp_all)]; rfl
        · rw [iteO_df c]; rfl
      · intro k hk hp
        simp only [seq_row_b1, seq_row_j1]
        rw [iteO_dt (by omega)]
        by_cases c1 : nth nx k (0 : Int) < -1
        · rw [iteO_dt c1]; rfl
        rw [iteO_df c1]
        by_cases c2 : ((n : Nat) : Int) ≤ nth nx k (0 : Int)
        · rw [iteO_dt c2]; rfl
        rw [iteO_df c2, grd_mk (by omega)]
        by_cases c3 : 4096 < (nth os k ([] : List UInt8)).length
        · rw [iteO_dt (by omega)]; rfl
        rw [iteO_df (by omega)]
        by_cases c4 : nth nx k (0 : Int) = -1
        · rw [iteO_dt c4, grd_mk (by omega)]
          by_cases c5 : nth os k ([] : List UInt8) = []
          · exfalso
            simp only [cellQ, c5] at hp
            rw [decide_eq_true (by omega), decide_eq_true (by omega)] at hp
            simp at hp
          · rw [iteO_dt c5]; rfl
        · exfalso
          simp only [cellQ] at hp
          rw [decide_eq_true (by omega), decide_eq_true (by omega), decide_eq_true (by omega), decide_eq_true c4] at hp
          simp at hp
      · simp only [seq_row_b1]
        rw [iteO_df (by omega)]; rfl
    · rw [iteO_dt (by omega), decide_eq_false h2]; simp
  · rw [iteO_dt (by omega), decide_eq_false h1]; simp

def stateQ (q : Seq) (s : Nat) : Bool := decide ((nth q.tail s []).length ≤ 4096) && (nth q.fin s false || decide (nth q.tail s [] = [])) && rowQ (nth q.next s []) (nth q.outs s []) q.next.length
def shapeQ (q : Seq) : Bool := decide (q.next.length ≤ 1024) && decide (q.outs.length = q.next.length) && decide (q.fin.length = q.next.length) && decide (q.tail.length = q.next.length) && decide (q.front.length ≤ 4096) && (decide (q.next.length ≠ 0) || decide (q.front = []))
/-- Is a transducer that goes one way right? -/
def rightQ (q : Seq) : Bool := shapeQ q && (List.range q.next.length).all (stateQ q)
theorem seq_Check_eq (q : Seq) : seq_Check q = some (if rightQ q = true then 0 else 1) := by
  unfold seq_Check
  by_cases h1 : q.next.length ≤ 1024
  rotate_left
  · rw [iteO_dt (by omega), if_neg (by simp [rightQ, shapeQ, h1])]
  rw [iteO_df (by omega)]
  by_cases h2 : q.outs.length = q.next.length
  rotate_left
  · rw [iteO_dt (by omega), if_neg (by simp [rightQ, shapeQ, h2])]
  rw [iteO_df (by omega)]
  by_cases h3 : q.fin.length = q.next.length
  rotate_left
  · rw [iteO_dt (by omega), if_neg (by simp [rightQ, shapeQ, h3])]
  rw [iteO_df (by omega)]
  by_cases h4 : q.tail.length = q.next.length
  rotate_left
  · rw [iteO_dt (by omega), if_neg (by simp [rightQ, shapeQ, h4])]
  rw [iteO_df (by omega)]
  by_cases h5 : q.front.length ≤ 4096
  rotate_left
  · rw [iteO_dt (by omega), if_neg (by simp [rightQ, shapeQ, h5])]
  rw [iteO_df (by omega)]
  have key : (decide (q.next.length ≠ 0) || decide (q.front = [])) = true → seq_Check_j1 q = some (if rightQ q = true then 0 else 1) := by
    intro h6
    have hs : shapeQ q = true := by simp only [shapeQ, h6, Bool.and_true, Bool.and_eq_true, decide_eq_true_eq]; exact ⟨⟨⟨⟨h1, h2⟩, h3⟩, h4⟩, h5⟩
    unfold seq_Check_j1 rightQ
    rw [hs, Bool.true_and]
    refine iter_chk (step := fun k : Nat => seq_Check_b1 q k) q.next.length (stateQ q) ?_ ?_ ?_
    · intro k hk hp
      simp only [stateQ, Bool.and_eq_true, decide_eq_true_eq] at hp
      obtain ⟨⟨p1, p2⟩, p3⟩ := hp
      have hj : seq_Check_j2 k q = some (.inl (k + 1)) := by
        unfold seq_Check_j2
        rw [grd_mk (by omega), seq_row_eq, bnd_mk, p3]; rfl
      simp only [seq_Check_b1]
      rw [iteO_dt (by omega), grd_mk (by omega), iteO_df (by omega), grd_mk (by omega)]
      cases hf : nth q.fin k false with
      | true => rw [iteO_nt]; exact hj
      | false =>
        rw [hf, Bool.false_or, decide_eq_true_eq] at p2
        rw [iteO_nf, grd_mk (by omega), iteO_df (by simp [p2])]; exact hj
    · intro k hk hp
      simp only [seq_Check_b1]
      rw [iteO_dt (by omega), grd_mk (by omega)]
      by_cases c1 : 4096 < (nth q.tail k ([] : List UInt8)).length
      · rw [iteO_dt (by omega)]; rfl
      rw [iteO_df (by omega), grd_mk (by omega)]
      have hj : (nth q.fin k false || decide (nth q.tail k [] = [])) = true → seq_Check_j2 k q = some (.inr 1) := by
        intro hh
        simp only [stateQ, hh, Bool.and_true] at hp
        rw [decide_eq_true (by omega), Bool.true_and] at hp
        unfold seq_Check_j2
        rw [grd_mk (by omega), seq_row_eq, bnd_mk, hp]; rfl
      cases hf : nth q.fin k false with
      | true => rw [iteO_nt]; exact hj (by rw [hf]; rfl)
      | false =>
        rw [iteO_nf, grd_mk (by omega)]
        by_cases c2 : nth q.tail k ([] : List UInt8) = []
        · rw [iteO_df (by simp [c2])]; exact hj (by rw [c2]; simp)
        · rw [iteO_dt c2]; rfl
    · simp only [seq_Check_b1]
      rw [iteO_df (by omega)]; rfl
  by_cases h6 : q.next.length = 0
  · rw [iteO_dt (by omega)]
    by_cases h7 : q.front = []
    · rw [iteO_df (by simp [h7])]; exact key (by simp [h7])
    · rw [iteO_dt h7, if_neg (by simp [rightQ, shapeQ, h6, h7])]
  · rw [iteO_df (by omega)]; exact key (by simp [h6])

theorem writeS_eq (l m : List UInt8) (h : l.length + m.length ≤ 140737488355328) : writeS ⟨l⟩ m = some (((m.length : Nat) : Int), (), ⟨l ++ m⟩) := by
  unfold writeS
  rw [grd_mk (by omega), show copyCheck (⟨l⟩ : SB) = some ⟨l⟩ from rfl, bnd_mk, grd_mk h]

/-- What comes out, how far it goes, and whether that is all and an end. -/
def runQ (q : Seq) : List UInt8 → Nat → Int → List UInt8 → List UInt8 × Nat × Bool
  | [], i, s, acc => if nth q.fin s.toNat false = true then (acc ++ nth q.tail s.toNat [], i, true) else ([], i, false)
  | b :: w, i, s, acc => if nth (nth q.next s.toNat []) b.toNat 0 < 0 then ([], i, false) else runQ q w (i + 1) (nth (nth q.next s.toNat []) b.toNat 0) (acc ++ nth (nth q.outs s.toNat []) b.toNat [])
def applyQ (q : Seq) (w : List UInt8) : List UInt8 × Int × Bool × Int :=
  if rightQ q = true then (if q.next.length = 0 then ([], 0, false, 0) else ((runQ q w 0 0 q.front).1, (((runQ q w 0 0 q.front).2.1 : Nat) : Int), (runQ q w 0 0 q.front).2.2, 0)) else ([], 0, false, 1)

structure CellOk (q : Seq) (s : Int) (b : UInt8) : Prop where
  n : b.toNat < (nth q.next s.toNat []).length
  o : b.toNat < (nth q.outs s.toNat []).length
  lo : -1 ≤ nth (nth q.next s.toNat []) b.toNat 0
  hi : nth (nth q.next s.toNat []) b.toNat 0 < (q.next.length : Int)
  le : (nth (nth q.outs s.toNat []) b.toNat []).length ≤ 4096
theorem rightQ_shape {q : Seq} (h : rightQ q = true) : q.next.length ≤ 1024 ∧ q.outs.length = q.next.length ∧ q.fin.length = q.next.length ∧ q.tail.length = q.next.length ∧ q.front.length ≤ 4096 := by
  simp only [rightQ, shapeQ, Bool.and_eq_true, decide_eq_true_eq] at h
  exact ⟨h.1.1.1.1.1.1, h.1.1.1.1.1.2, h.1.1.1.1.2, h.1.1.1.2, h.1.1.2⟩
theorem rightQ_state {q : Seq} (h : rightQ q = true) {s : Int} (h0 : 0 ≤ s) (h1 : s < (q.next.length : Int)) : stateQ q s.toNat = true := by
  simp only [rightQ, Bool.and_eq_true] at h
  exact all_range.1 h.2 _ (by omega)
theorem rightQ_tail {q : Seq} (h : rightQ q = true) {s : Int} (h0 : 0 ≤ s) (h1 : s < (q.next.length : Int)) : (nth q.tail s.toNat []).length ≤ 4096 := by
  have := rightQ_state h h0 h1
  simp only [stateQ, Bool.and_eq_true, decide_eq_true_eq] at this
  exact this.1.1
theorem rightQ_cell {q : Seq} (h : rightQ q = true) {s : Int} (h0 : 0 ≤ s) (h1 : s < (q.next.length : Int)) (b : UInt8) : CellOk q s b := by
  have hs := rightQ_state h h0 h1
  simp only [stateQ, rowQ, Bool.and_eq_true, decide_eq_true_eq] at hs
  obtain ⟨_, ⟨h2, h3⟩, h4⟩ := hs
  have hb := UInt8.toNat_lt b
  have hc := all_range.1 h4 b.toNat (by omega)
  simp only [cellQ, Bool.and_eq_true, decide_eq_true_eq] at hc
  exact ⟨by omega, by omega, hc.1.1.1, hc.1.1.2, hc.1.2⟩

theorem drop_nth' {α : Type} (l : List α) {k : Nat} (h : k < l.length) (d : α) : l.drop k = nth l k d :: l.drop (k + 1) := by
  rw [List.drop_eq_getElem_cons h]
  congr 1
  have h2 := getD_some l h d
  rw [List.getElem?_eq_getElem h] at h2; exact Option.some.inj h2
theorem apply_loop {q : Seq} (h : rightQ q = true) (w : List UInt8) (hw : w.length ≤ 1000000) : ∀ (m k : Nat) (s : Int) (acc : List UInt8), w.length - k = m → k ≤ w.length → 0 ≤ s → s < (q.next.length : Int) → acc.length ≤ 4096 * (k + 1) →
    iter (fun z : (List UInt8) × Int × Nat => seq_Apply_b1 w q z.1 z.2.1 z.2.2) (acc, s, k) = some ((runQ q (w.drop k) k s acc).1, (((runQ q (w.drop k) k s acc).2.1 : Nat) : Int), (runQ q (w.drop k) k s acc).2.2, 0)
  | 0, k, s, acc, hm, hk, h0, h1, ha => by
    obtain ⟨q1, q2, q3, q4, q5⟩ := rightQ_shape h
    have ht := rightQ_tail h h0 h1
    have e : k = w.length := by omega
    subst e
    refine iter_done ?_
    simp only [seq_Apply_b1]
    rw [List.drop_length, runQ, iteO_df (by omega), grd_mk (by omega)]
    cases hf : nth q.fin s.toNat false with
    | false => rw [iteO_nf]; rfl
    | true =>
      rw [iteO_nt, grd_mk (by omega), writeS_eq _ _ (by omega), bnd_mk]; rfl
  | m + 1, k, s, acc, hm, hk, h0, h1, ha => by
    obtain ⟨q1, q2, q3, q4, q5⟩ := rightQ_shape h
    obtain ⟨c1, c2, c3, c4, c5⟩ := rightQ_cell h h0 h1 (nth w k (0 : UInt8))
    rw [drop_nth' w (show k < w.length by omega) (0 : UInt8), runQ]
    by_cases cz : nth (nth q.next s.toNat ([] : List Int)) (nth w k (0 : UInt8)).toNat (0 : Int) < 0
    · refine iter_done ?_
      simp only [seq_Apply_b1]
      rw [if_pos cz, iteO_dt (by omega), grd_mk (by omega), grd_mk c1, iteO_dt cz]; rfl
    · rw [if_neg cz]
      refine iter_next (s' := (acc ++ nth (nth q.outs s.toNat ([] : List (List UInt8))) (nth w k (0 : UInt8)).toNat ([] : List UInt8), nth (nth q.next s.toNat ([] : List Int)) (nth w k (0 : UInt8)).toNat (0 : Int), k + 1)) ?_ (apply_loop h w hw m (k + 1) _ _ (by omega) (by omega) (by omega) c4 (by rw [List.length_append]; omega))
      simp only [seq_Apply_b1]
      rw [iteO_dt (by omega), grd_mk (by omega), grd_mk c1, iteO_df cz, grd_mk (by omega), grd_mk c2, writeS_eq _ _ (by omega), bnd_mk]; rfl
theorem apply_eq (q : Seq) (w : List UInt8) (hw : w.length ≤ 1000000) : seq_Apply q w = some (applyQ q w) := by
  unfold seq_Apply applyQ
  rw [grd_mk (by omega), seq_Check_eq, bnd_mk]
  by_cases h : rightQ q = true
  · rw [if_pos h, iteO_df (by omega), if_pos h]
    by_cases h2 : q.next.length = 0
    · rw [iteO_dt (by omega), if_pos h2]
    · rw [iteO_df (by omega), if_neg h2, writeS_eq _ _ (by have := (rightQ_shape h).2.2.2.2; simp only [List.length_nil]; omega), bnd_mk]
      simp only [List.nil_append]
      have := apply_loop h w hw _ 0 0 q.front rfl (Nat.zero_le _) (by omega) (by omega) (by have := (rightQ_shape h).2.2.2.2; omega)
      rw [List.drop_zero] at this
      exact this
  · rw [if_neg h, iteO_dt (by omega), if_neg h]
theorem runQ_len {q : Seq} (h : rightQ q = true) : ∀ (w : List UInt8) (k : Nat) (s : Int) (acc : List UInt8), 0 ≤ s → s < (q.next.length : Int) → (runQ q w k s acc).1.length ≤ acc.length + 4096 * (w.length + 1)
  | [], k, s, acc, h0, h1 => by
    have ht := rightQ_tail h h0 h1
    rw [runQ]; split
    · simp only [List.length_append, List.length_nil]; omega
    · simp
  | b :: w, k, s, acc, h0, h1 => by
    obtain ⟨c1, c2, c3, c4, c5⟩ := rightQ_cell h h0 h1 b
    rw [runQ]; split
    · simp
    · have := runQ_len h w (k + 1) (nth (nth q.next s.toNat []) b.toNat 0) (acc ++ nth (nth q.outs s.toNat []) b.toNat []) (by omega) c4
      simp only [List.length_append, List.length_cons] at this ⊢; omega
theorem applyQ_len (q : Seq) (w : List UInt8) : (applyQ q w).1.length ≤ 4096 * (w.length + 2) := by
  unfold applyQ
  split
  · rename_i h
    split
    · simp
    · have h5 := (rightQ_shape h).2.2.2.2
      have := runQ_len h w 0 0 q.front (by omega) (by omega)
      simp only; omega
  · simp
theorem applyQ_right {q : Seq} (h : rightQ q = true) (w : List UInt8) : (applyQ q w).2.2.2 = 0 := by
  unfold applyQ; rw [if_pos h]; split <;> rfl
end Go.Proofs.YtmfclggfajopkaaGreatDoor
end

/- ScPd -/
section
/- Automatons that go one way, and factors: the program's side. Plain lemmas, no condition. -/
set_option linter.unusedVariables false
set_option linter.unusedSimpArgs false
namespace Go.Proofs.YtmfclggfajopkaaGreatDoor
open Go Go.E

theorem u64or_lt (a b : Nat) : u64or a b < 18446744073709551616 := (BitVec.ofNat 64 a ||| BitVec.ofNat 64 b).isLt
theorem anyOk (a b : BSet) : ∃ v, set_Any a b = some v := by
  obtain ⟨r, h, _⟩ := iter_for (step := fun q : BSet × Nat => set_Any_b1 b q.1 q.2) (fun s k => (s, k)) [(), (), (), ()] () (fun _ _ => True) (fun _ => True)
    (fun k s hk _ => by
      have hk4 : k < 4 := hk
      refine .inl ⟨BSet.setWord s k (u64or (BSet.word s k) (BSet.word b k)), ?_, trivial⟩
      simp only [set_Any_b1]
      rw [show decide (((k : Nat) : Int) < 4) = true from decide_eq_true (by omega), iteO_true, grd_mk hk4, grd_mk hk4, grd_mk hk4, grd_mk (u64or_lt _ _)]; rfl)
    (fun s _ => ⟨s, by simp only [set_Any_b1]; rfl, trivial⟩) (s0 := a) trivial
  exact ⟨r, h⟩
/-- How many classes there are, if they come in order. -/
def cntS (o : Option Nat) (n : Int) : Option Nat := o.bind fun k => if n < 0 ∨ (k : Int) < n then none else some (if n = k then k + 1 else k)
def cntF (l : List Int) : Option Nat := l.foldl cntS (some 0)
theorem cntS_none : ∀ l : List Int, l.foldl cntS none = none
  | [] => rfl
  | _ :: l => cntS_none l
theorem cntF_snoc (l : List Int) (n : Int) : cntF (l ++ [n]) = cntS (cntF l) n := by simp [cntF, List.foldl_append]
theorem cntF_none {l m : List Int} (h : cntF l = none) : cntF (l ++ m) = none := by
  unfold cntF at h ⊢; rw [List.foldl_append, h, cntS_none]
theorem cntF_le : ∀ (l : List Int) (j k : Nat), l.foldl cntS (some j) = some k → k ≤ j + l.length
  | [], j, k, h => by cases h; simp
  | n :: l, j, k, h => by
    rw [List.foldl_cons] at h
    by_cases hc : n < 0 ∨ (j : Int) < n
    · rw [show cntS (some j) n = none by simp [cntS, hc], cntS_none] at h; cases h
    · rw [show cntS (some j) n = some (if n = j then j + 1 else j) by simp [cntS, hc]] at h
      have := cntF_le l _ k h
      simp only [List.length_cons]
      split at this <;> omega
theorem partSets_ok (cls : List Int) : ∃ r, part_Sets cls = some r ∧ (((cls.length ≠ 256 ∨ cntF cls = none) ∧ r.2 = 1) ∨ (cls.length = 256 ∧ cntF cls = some r.1.length ∧ r.2 = 0)) := by
  unfold part_Sets
  by_cases h256 : cls.length = 256
  · rw [show decide (((cls.length : Nat) : Int) ≠ 256) = false from decide_eq_false (by omega), iteO_false]
    obtain ⟨r, h1, h2⟩ := iter_for (step := fun q : List BSet × Nat => part_Sets_b1 cls q.1 q.2) (fun s k => (s, k)) cls 0 (fun pre s => cntF pre = some s.length) (fun r => (cntF cls = none ∧ r.2 = 1) ∨ (cntF cls = some r.1.length ∧ r.2 = 0))
      (fun k s hk hI => by
        have hle := cntF_le _ _ _ hI
        rw [List.length_take, Nat.zero_add] at hle
        have hsp := take_split cls hk (0 : Int)
        have hstop : (nth cls k 0 < 0 ∨ (s.length : Int) < nth cls k 0) → cntF cls = none := fun hc => by
          rw [hsp, ← List.singleton_append, ← List.append_assoc]
          exact cntF_none (by rw [cntF_snoc, hI]; simp [cntS, hc])
        have hgo : ∀ l : List BSet, 0 ≤ nth cls k 0 → nth cls k 0 < (l.length : Int) → ∃ l', part_Sets_j1 cls k l = some (.inl (l', k + 1)) ∧ l'.length = l.length := fun l h0 h1 => by
          obtain ⟨v, hv⟩ := anyOk (nth l ((nth cls k (0 : Int)).toNat) BSet.zero) (BSet.ofL [(toU8 ((k : Nat) : Int))])
          refine ⟨_, by unfold part_Sets_j1; rw [grd_mk ⟨h0, h1⟩, grd_mk (by simp), bnd_some hv, grd_mk ⟨h0, h1⟩]; rfl, by simp⟩
        simp only [part_Sets_b1]
        rw [show decide (((k : Nat) : Int) < ((cls.length : Nat) : Int)) = true from decide_eq_true (by omega), iteO_true]
        by_cases c1 : nth cls k 0 < 0
        · right; rw [decide_eq_true c1, iteO_true]; exact ⟨_, rfl, .inl ⟨hstop (.inl c1), rfl⟩⟩
        rw [decide_eq_false c1, iteO_false]
        by_cases c2 : (s.length : Int) < nth cls k 0
        · right; rw [decide_eq_true c2, iteO_true]; exact ⟨_, rfl, .inl ⟨hstop (.inr c2), rfl⟩⟩
        rw [decide_eq_false c2, iteO_false]
        left
        by_cases c3 : nth cls k 0 = (s.length : Int)
        · rw [decide_eq_true c3, iteO_true, grd_mk (by simp; omega)]
          obtain ⟨l', h1, h2⟩ := hgo (s ++ [BSet.zero]) (by omega) (by simp; omega)
          exact ⟨l', h1, by rw [cntF_snoc, hI, h2]; simp [cntS, c3]⟩
        · rw [decide_eq_false c3, iteO_false]
          obtain ⟨l', h1, h2⟩ := hgo s (by omega) (by omega)
          exact ⟨l', h1, by rw [cntF_snoc, hI, h2]; simp [cntS, c3]; omega⟩)
      (fun s hI => ⟨(s, 0), by simp only [part_Sets_b1]; rw [show decide (((cls.length : Nat) : Int) < ((cls.length : Nat) : Int)) = false from decide_eq_false (by omega), iteO_false]; rfl, .inr ⟨hI, rfl⟩⟩) (s0 := []) rfl
    refine ⟨r, h1, ?_⟩
    rcases h2 with ⟨h2, h3⟩ | ⟨h2, h3⟩
    · exact .inl ⟨.inr h2, h3⟩
    · exact .inr ⟨h256, h2, h3⟩
  · rw [show decide (((cls.length : Nat) : Int) ≠ 256) = true from decide_eq_true (by omega), iteO_true]
    exact ⟨_, rfl, .inl ⟨.inl h256, rfl⟩⟩
def goodS (n : Nat) (s : Int) : Bool := decide (0 ≤ s) && decide (s < (n : Int))
def goodR (n m : Nat) (row : List Int) : Bool := decide (row.length = m) && row.all (goodS n)
/-- Is an automaton right? -/
def rightD (d : Dfa) : Bool := decide (d.cls.length = 256) && (match cntF d.cls with | some m => d.next.all (goodR d.next.length m) | none => false) && decide (1 ≤ d.next.length ∧ d.next.length ≤ 1024) && decide (d.fin.length = d.next.length)
theorem all_snoc {α : Type} (p : α → Bool) (l : List α) (x : α) : (l ++ [x]).all p = (l.all p && p x) := by simp [List.all_append]
theorem all_false_of {α : Type} {p : α → Bool} {l : List α} {k : Nat} (hk : k < l.length) (d : α) (h : p (nth l k d) = false) : l.all p = false := by
  rw [List.all_eq_false]; exact ⟨_, List.mem_of_getElem? (getD_some l hk d), by simp [h]⟩
theorem chk_in (d : Dfa) (k : Nat) : ∃ r, iter (fun q : Nat => dfa_Check_b2 d k q) 0 = some r ∧ (((nth d.next k []).all (goodS d.next.length) = true ∧ r = .inl (k + 1)) ∨ ((nth d.next k []).all (goodS d.next.length) = false ∧ r = .inr 1)) :=
  iter_for (step := fun q : Nat => dfa_Check_b2 d k q) (fun (_ : Unit) j => j) (nth d.next k []) 0 (fun pre _ => pre.all (goodS d.next.length) = true) (fun r => ((nth d.next k []).all (goodS d.next.length) = true ∧ r = .inl (k + 1)) ∨ ((nth d.next k []).all (goodS d.next.length) = false ∧ r = .inr 1))
    (fun j s hj hI => by
      simp only [dfa_Check_b2]
      rw [show decide (((j : Nat) : Int) < (((nth d.next k ([] : List Int)).length : Nat) : Int)) = true from decide_eq_true (by omega), iteO_true]
      by_cases c1 : nth (nth d.next k ([] : List Int)) j (0 : Int) < 0
      · right; rw [decide_eq_true c1, iteO_true]; exact ⟨_, rfl, .inr ⟨all_false_of hj 0 (by simp [goodS]; omega), rfl⟩⟩
      rw [decide_eq_false c1, iteO_false]
      by_cases c2 : ((d.next.length : Nat) : Int) ≤ nth (nth d.next k ([] : List Int)) j (0 : Int)
      · right; rw [decide_eq_true c2, iteO_true]; exact ⟨_, rfl, .inr ⟨all_false_of hj 0 (by simp [goodS]; omega), rfl⟩⟩
      rw [decide_eq_false c2, iteO_false]
      left
      exact ⟨(), rfl, by rw [all_snoc, hI]; simp [goodS]; omega⟩)
    (fun s hI => by
      simp only [dfa_Check_b2]
      rw [show decide ((((nth d.next k ([] : List Int)).length : Nat) : Int) < (((nth d.next k ([] : List Int)).length : Nat) : Int)) = false from decide_eq_false (by omega), iteO_false]
      exact ⟨_, rfl, .inl ⟨hI, rfl⟩⟩) (s0 := ()) rfl
theorem chk_out (d : Dfa) (v : (List BSet) × Int) : ∃ r, iter (fun q : Nat => dfa_Check_b1 d v q) 0 = some r ∧ ((d.next.all (goodR d.next.length v.1.length) = true ∧ r = 0) ∨ (d.next.all (goodR d.next.length v.1.length) = false ∧ r = 1)) :=
  iter_for (step := fun q : Nat => dfa_Check_b1 d v q) (fun (_ : Unit) j => j) d.next [] (fun pre _ => pre.all (goodR d.next.length v.1.length) = true) (fun r => (d.next.all (goodR d.next.length v.1.length) = true ∧ r = 0) ∨ (d.next.all (goodR d.next.length v.1.length) = false ∧ r = 1))
    (fun k s hk hI => by
      simp only [dfa_Check_b1]
      rw [show decide (((k : Nat) : Int) < ((d.next.length : Nat) : Int)) = true from decide_eq_true (by omega), iteO_true]
      by_cases c1 : (nth d.next k ([] : List Int)).length = v.1.length
      · rw [show decide ((((nth d.next k ([] : List Int)).length : Nat) : Int) ≠ ((v.1.length : Nat) : Int)) = false from decide_eq_false (by omega), iteO_false]
        obtain ⟨r, h1, h2 | h2⟩ := chk_in d k
        · left; rw [h1, h2.2]; exact ⟨(), rfl, by rw [all_snoc, hI]; simp [goodR, c1, h2.1]⟩
        · right; rw [h1, h2.2]; exact ⟨_, rfl, .inr ⟨all_false_of hk [] (by simp only [goodR, h2.1, Bool.and_false]), rfl⟩⟩
      · right
        rw [show decide ((((nth d.next k ([] : List Int)).length : Nat) : Int) ≠ ((v.1.length : Nat) : Int)) = true from decide_eq_true (by omega), iteO_true]
        exact ⟨_, rfl, .inr ⟨all_false_of hk [] (by simp [goodR, c1]), rfl⟩⟩)
    (fun s hI => by
      simp only [dfa_Check_b1]
      rw [show decide (((d.next.length : Nat) : Int) < ((d.next.length : Nat) : Int)) = false from decide_eq_false (by omega), iteO_false]
      exact ⟨_, rfl, .inl ⟨hI, rfl⟩⟩) (s0 := ()) rfl
theorem check_eq (d : Dfa) : dfa_Check d = some (if rightD d = true then 0 else 1) := by
  unfold dfa_Check
  obtain ⟨v, hv, h⟩ := partSets_ok d.cls
  rw [bnd_some hv]
  rcases h with ⟨h1, h2⟩ | ⟨h1, h2, h3⟩
  · rw [decide_eq_true (show v.2 ≠ 0 by omega), iteO_true]
    rw [if_neg]
    rcases h1 with h1 | h1
    · simp [rightD, h1]
    · simp [rightD, h1]
  · rw [decide_eq_false (show ¬ v.2 ≠ 0 by omega), iteO_false]
    by_cases c1 : d.next.length < 1
    · rw [show decide (((d.next.length : Nat) : Int) < 1) = true from decide_eq_true (by omega), iteO_true, if_neg]
      simp only [rightD, Bool.and_eq_true, decide_eq_true_eq]; omega
    rw [show decide (((d.next.length : Nat) : Int) < 1) = false from decide_eq_false (by omega), iteO_false]
    by_cases c2 : 1024 < d.next.length
    · rw [show decide (1024 < ((d.next.length : Nat) : Int)) = true from decide_eq_true (by omega), iteO_true, if_neg]
      simp only [rightD, Bool.and_eq_true, decide_eq_true_eq]; omega
    rw [show decide (1024 < ((d.next.length : Nat) : Int)) = false from decide_eq_false (by omega), iteO_false]
    by_cases c3 : d.fin.length = d.next.length
    · rw [show decide (((d.fin.length : Nat) : Int) ≠ ((d.next.length : Nat) : Int)) = false from decide_eq_false (by omega), iteO_false]
      obtain ⟨r, hr, hr2⟩ := chk_out d v
      rw [hr]
      have e : rightD d = d.next.all (goodR d.next.length v.1.length) := by
        simp only [rightD, h1, h2, c3, decide_true, Bool.true_and, Bool.and_true]
        rw [show decide (1 ≤ d.next.length ∧ d.next.length ≤ 1024) = true from decide_eq_true (by omega), Bool.and_true]
      rw [e]
      rcases hr2 with ⟨h4, h5⟩ | ⟨h4, h5⟩
      · rw [h4, h5, if_pos rfl]
      · rw [h4, h5, if_neg (by simp)]
    · rw [show decide (((d.fin.length : Nat) : Int) ≠ ((d.next.length : Nat) : Int)) = true from decide_eq_true (by omega), iteO_true, if_neg]
      simp only [rightD, Bool.and_eq_true, decide_eq_true_eq]; omega
theorem cnt_mem : ∀ (l : List Int) (j m : Nat), l.foldl cntS (some j) = some m → j ≤ m ∧ ∀ n ∈ l, 0 ≤ n ∧ n < (m : Int)
  | [], j, m, h => by cases h; simp
  | n :: l, j, m, h => by
    rw [List.foldl_cons] at h
    by_cases hc : n < 0 ∨ (j : Int) < n
    · rw [show cntS (some j) n = none by simp [cntS, hc], cntS_none] at h; cases h
    · rw [show cntS (some j) n = some (if n = j then j + 1 else j) by simp [cntS, hc]] at h
      obtain ⟨h1, h2⟩ := cnt_mem l _ m h
      refine ⟨by split at h1 <;> omega, fun k hk => ?_⟩
      rcases List.mem_cons.1 hk with rfl | hk
      · split at h1 <;> omega
      · exact h2 k hk
def okS (d : Dfa) (s : Int) : Prop := 0 ≤ s ∧ s < (d.next.length : Int)
/-- The state behind a state, by a byte. -/
def dlt (d : Dfa) (s : Int) (b : UInt8) : Int := nth (nth d.next s.toNat ([] : List Int)) ((nth d.cls b.toNat (0 : Int)).toNat) (0 : Int)
theorem nth_mem' {α : Type} {l : List α} {i : Nat} (hi : i < l.length) (d : α) : nth l i d ∈ l := List.mem_of_getElem? (getD_some l hi d)
structure DltOk (d : Dfa) (s : Int) (b : UInt8) : Prop where
  cl : b.toNat < d.cls.length
  c : 0 ≤ nth d.cls b.toNat (0 : Int) ∧ nth d.cls b.toNat (0 : Int) < ((nth d.next s.toNat ([] : List Int)).length : Int)
  nx : okS d (dlt d s b)
  f : 0 ≤ dlt d s b ∧ dlt d s b < (d.fin.length : Int)
theorem dlt_ok {d : Dfa} (h : rightD d = true) {s : Int} (hs : okS d s) (b : UInt8) : DltOk d s b := by
  simp only [rightD, Bool.and_eq_true, decide_eq_true_eq] at h
  obtain ⟨⟨⟨h1, h2⟩, h3⟩, h4⟩ := h
  cases hm : cntF d.cls with
  | none => rw [hm] at h2; cases h2
  | some m =>
    rw [hm] at h2
    have hb := UInt8.toNat_lt b
    have hcl : b.toNat < d.cls.length := by omega
    have hc := (cnt_mem d.cls 0 m hm).2 _ (nth_mem' hcl 0)
    obtain ⟨hs0, hs1⟩ := hs
    have hrow := List.all_eq_true.1 h2 _ (nth_mem' (l := d.next) (i := s.toNat) (by omega) [])
    simp only [goodR, Bool.and_eq_true, decide_eq_true_eq] at hrow
    obtain ⟨hr1, hr2⟩ := hrow
    have hx := List.all_eq_true.1 hr2 _ (nth_mem' (l := nth d.next s.toNat []) (i := (nth d.cls b.toNat (0 : Int)).toNat) (by omega) 0)
    simp only [goodS, Bool.and_eq_true, decide_eq_true_eq] at hx
    exact ⟨hcl, ⟨hc.1, by omega⟩, hx, ⟨hx.1, by have := hx.2; unfold dlt; omega⟩⟩
theorem ok0 {d : Dfa} (h : rightD d = true) : okS d 0 := by
  simp only [rightD, Bool.and_eq_true, decide_eq_true_eq] at h
  exact ⟨by omega, by omega⟩
def runD (d : Dfa) (q : Int) (l : List UInt8) : Int := l.foldl (dlt d) q
theorem runD_ok {d : Dfa} (h : rightD d = true) : ∀ (l : List UInt8) {q : Int}, okS d q → okS d (runD d q l)
  | [], _, hq => hq
  | b :: l, q, hq => by
    rw [runD, List.foldl_cons]; exact runD_ok h l (dlt_ok h hq b).nx
/-- Is the part from i to j taken? -/
def takD (d : Dfa) (l : List UInt8) (i j : Nat) : Bool := nth d.fin (runD d 0 ((l.take j).drop i)).toNat false
theorem part_step (l : List UInt8) {i j : Nat} (hij : i < j) (hj : j ≤ l.length) : (l.take j).drop i = nth l i 0 :: (l.take j).drop (i + 1) := by
  have hlt : i < (l.take j).length := by rw [List.length_take]; omega
  rw [List.drop_eq_getElem_cons hlt]
  congr 1
  have h2 := getD_some l (show i < l.length by omega) (0 : UInt8)
  rw [List.getElem?_eq_getElem (by omega)] at h2
  rw [List.getElem_take]; exact Option.some.inj h2
theorem part_snoc (l : List UInt8) {p i : Nat} (hp : p ≤ i) (hi : i < l.length) : (l.take (i + 1)).drop p = (l.take i).drop p ++ [nth l i 0] := by
  have h1 := take_split l hi (0 : UInt8)
  have h2 : l.take (i + 1) = l.take i ++ [nth l i 0] := by
    rw [List.take_add_one, getD_some l hi (0 : UInt8)]; rfl
  rw [h2, List.drop_append_of_le_length (by rw [List.length_take]; omega)]
theorem runD_snoc (d : Dfa) (q : Int) (l : List UInt8) (b : UInt8) : runD d q (l ++ [b]) = dlt d (runD d q l) b := by simp [runD, List.foldl_append]
theorem nth_range {n k : Nat} (h : k < n) : nth (List.range n) k 0 = k := by
  have h2 := getD_some (List.range n) (show k < (List.range n).length by simpa using h) (0 : Nat)
  rw [List.getElem?_range h] at h2; exact (Option.some.inj h2).symm
def anyTo (d : Dfa) (l : List UInt8) (i : Nat) : Bool := (List.range (i + 1)).any fun j => takD d l j i
def beforeD (d : Dfa) (l : List UInt8) : List Bool := (List.range (l.length + 1)).map (anyTo d l)
/-- What Before and After answer first. -/
def wrongD (d : Dfa) (l : List UInt8) : Int := if rightD d = true then (if 4096 < l.length then 2 else 0) else 1
def anyFrom (d : Dfa) (l : List UInt8) (i : Nat) : Bool := (List.range (l.length + 1 - i)).any fun j => takD d l i (i + j)
def afterD (d : Dfa) (l : List UInt8) : List Bool := (List.range (l.length + 1)).map (anyFrom d l)
/-- Does a text from some place ahead lead to a state? -/
def ledB (d : Dfa) (l : List UInt8) (m i q : Nat) : Bool := (List.range m).any fun j => decide (runD d 0 ((l.take i).drop j) = ((q : Nat) : Int))
theorem led_zero (d : Dfa) (l : List UInt8) (i q : Nat) : ledB d l (i + 1) i q = (ledB d l i i q || decide (q = 0)) := by
  unfold ledB
  rw [any_range_succ, List.drop_of_length_le (by rw [List.length_take]; omega)]
  congr 1
  rw [decide_eq_decide]; show (0 : Int) = _ ↔ _; omega
theorem led_any {d : Dfa} (h : rightD d = true) (l : List UInt8) (i : Nat) : (List.range d.next.length).any (fun q => ledB d l (i + 1) i q && nth d.fin q false) = anyTo d l i := by
  rw [Bool.eq_iff_iff, any_range, anyTo, any_range]
  constructor
  · rintro ⟨q, h1, h2⟩
    rw [Bool.and_eq_true, ledB, any_range] at h2
    obtain ⟨⟨j, h3, h4⟩, h5⟩ := h2
    refine ⟨j, h3, ?_⟩
    rw [decide_eq_true_eq] at h4
    rw [takD, h4, Int.toNat_natCast]; exact h5
  · rintro ⟨j, h1, h2⟩
    have h3 := runD_ok h ((l.take i).drop j) (ok0 h)
    refine ⟨(runD d 0 ((l.take i).drop j)).toNat, by have := h3.1; have := h3.2; omega, ?_⟩
    rw [Bool.and_eq_true]
    refine ⟨?_, h2⟩
    rw [ledB, any_range]
    exact ⟨j, h1, decide_eq_true (by rw [Int.toNat_of_nonneg h3.1])⟩
theorem led_next {d : Dfa} (h : rightD d = true) (l : List UInt8) {i : Nat} (hi : i < l.length) (q' : Nat) :
    (List.range d.next.length).any (fun q => ledB d l (i + 1) i q && decide (dlt d q (nth l i 0) = ((q' : Nat) : Int))) = ledB d l (i + 1) (i + 1) q' := by
  rw [Bool.eq_iff_iff, any_range, ledB, any_range]
  constructor
  · rintro ⟨q, h1, h2⟩
    rw [Bool.and_eq_true, ledB, any_range] at h2
    obtain ⟨⟨j, h3, h4⟩, h5⟩ := h2
    refine ⟨j, h3, ?_⟩
    rw [decide_eq_true_eq] at h4
    rw [part_snoc l (by omega) hi, runD_snoc, h4]; exact h5
  · rintro ⟨j, h1, h2⟩
    have h3 := runD_ok h ((l.take i).drop j) (ok0 h)
    refine ⟨(runD d 0 ((l.take i).drop j)).toNat, by have := h3.1; have := h3.2; omega, ?_⟩
    rw [part_snoc l (by omega) hi, runD_snoc] at h2
    rw [Bool.and_eq_true]
    refine ⟨?_, by rw [Int.toNat_of_nonneg h3.1]; exact h2⟩
    rw [ledB, any_range]
    exact ⟨j, h1, decide_eq_true (by rw [Int.toNat_of_nonneg h3.1])⟩
structure BefIn (d : Dfa) (l : List UInt8) (now r0 : List Bool) (i k : Nat) (s : List Bool × List Bool) : Prop where
  rl : s.1.length = l.length + 1
  nl : s.2.length = d.next.length
  ro : ∀ m, m ≠ i → nth s.1 m false = nth r0 m false
  ri : nth s.1 i false = (List.range k).any fun q => nth now q false && nth d.fin q false
  ne : i < l.length → ∀ q', nth s.2 q' false = (List.range k).any fun q => nth now q false && decide (dlt d q (nth l i 0) = ((q' : Nat) : Int))
theorem bef_in {d : Dfa} (h : rightD d = true) (l : List UInt8) (hl : l.length ≤ 4096) (now r0 nx0 : List Bool) (i : Nat) (hi : i ≤ l.length) (hn : now.length = d.next.length)
    (h0 : BefIn d l (now.set 0 true) r0 i 0 (r0, nx0)) :
    ∃ s, iter (fun q : (List Bool) × (List Bool) × Nat => scan_Before_b2 d now i l q.1 q.2.1 q.2.2) (r0, nx0, 0) = some (.inl (s.1, s.2, now.set 0 true, i + 1)) ∧ BefIn d l (now.set 0 true) r0 i d.next.length s := by
  have hfl : d.fin.length = d.next.length := by
    simp only [rightD, Bool.and_eq_true, decide_eq_true_eq] at h; exact h.2
  have hnl : (now.set 0 true).length = d.next.length := by rw [List.length_set]; exact hn
  obtain ⟨r, h1, s, rfl, h2⟩ := iter_up (step := fun q : (List Bool) × (List Bool) × Nat => scan_Before_b2 d now i l q.1 q.2.1 q.2.2) (fun (s : List Bool × List Bool) k => (s.1, s.2, k)) d.next.length
    (fun k s => BefIn d l (now.set 0 true) r0 i k s) (fun r => ∃ s : List Bool × List Bool, r = .inl (s.1, s.2, now.set 0 true, i + 1) ∧ BefIn d l (now.set 0 true) r0 i d.next.length s)
    (fun k s hk hI => by
      left
      obtain ⟨r, nx⟩ := s
      have hrl := hI.rl; have hnx := hI.nl
      simp only at hrl hnx
      simp only [scan_Before_b2]
      simp (disch := omega) only [List.length_replicate, iteO_dt, grd_mk, hnl]
      cases hc : nth (now.set 0 true) k false with
      | false =>
        refine ⟨(r, nx), rfl, hI.rl, hI.nl, hI.ro, ?_, ?_⟩
        · rw [any_range_succ, hc, hI.ri]; simp
        · intro hil q'; rw [any_range_succ, hc, hI.ne hil]; simp
      | true =>
        have hq : okS d ((k : Nat) : Int) := ⟨by omega, by omega⟩
        rw [iteO_nt]
        -- what the mark becomes, in one form
        have e : ∀ b, b = (nth r i false || nth d.fin k false) → ∃ s', scan_Before_j3 i l k d nx (r.set i b) = some (.inl (s'.1, s'.2, k + 1)) ∧ BefIn d l (now.set 0 true) r0 i (k + 1) s' := by
          intro b hb
          have hR : nth (r.set i b) i false = (List.range (k + 1)).any fun q => nth (now.set 0 true) q false && nth d.fin q false := by
            rw [nth_set, if_pos ⟨rfl, by omega⟩, any_range_succ, hc, hb, hI.ri, Bool.true_and]
          have hO : ∀ m, m ≠ i → nth (r.set i b) m false = nth r0 m false := fun m hm => by
            rw [nth_set, if_neg (by omega)]; exact hI.ro m hm
          by_cases hil : i < l.length
          · have hs := dlt_ok h hq (nth l i (0 : UInt8))
            have hcl := hs.cl; have hc1 := hs.c; have hnx1 := hs.nx
            have hb := UInt8.toNat_lt (nth l i (0 : UInt8))
            rw [Int.toNat_natCast] at hc1
            simp only [scan_Before_j3, scan_Before_j2]
            rw [iteO_dt (by omega), grd_mk hk, grd_mk hcl, grd_mk hc1]
            rw [show (nth (nth d.next k ([] : List Int)) ((nth d.cls (nth l i (0 : UInt8)).toNat (0 : Int)).toNat) (0 : Int)) = dlt d ((k : Nat) : Int) (nth l i 0) by unfold dlt; rw [Int.toNat_natCast]]
            rw [grd_mk (by have := hnx1.1; have := hnx1.2; omega)]
            refine ⟨(r.set i b, nx.set (dlt d ((k : Nat) : Int) (nth l i 0)).toNat true), rfl, by rw [List.length_set]; exact hrl, by rw [List.length_set]; exact hnx, hO, hR, ?_⟩
            intro _ q'
            rw [any_range_succ, hc, ← hI.ne hil, Bool.true_and, nth_set]
            by_cases hq' : dlt d ((k : Nat) : Int) (nth l i 0) = ((q' : Nat) : Int)
            · rw [if_pos ⟨by omega, by have := hnx1.2; omega⟩, decide_eq_true hq', Bool.or_true]
            · rw [if_neg (by have := hnx1.1; omega), decide_eq_false hq', Bool.or_false]
          · simp only [scan_Before_j3, scan_Before_j2]
            rw [iteO_df (by omega)]
            exact ⟨(r.set i b, nx), rfl, by rw [List.length_set]; exact hrl, hnx, hO, hR, fun hx => absurd hx hil⟩
        cases hr : nth r i false with
        | true => rw [iteO_true]; exact e true (by rw [hr]; rfl)
        | false => rw [iteO_false]; exact e _ (by rw [hr]; rfl))
    (fun s hI => by
      refine ⟨_, ?_, s, rfl, hI⟩
      simp only [scan_Before_b2]
      rw [List.length_replicate, iteO_df (by omega)]; rfl) (s0 := (r0, nx0)) h0
  exact ⟨s, h1, h2⟩
structure BefOut (d : Dfa) (l : List UInt8) (i : Nat) (s : List Bool × List Bool × List Bool) : Prop where
  rl : s.1.length = l.length + 1
  nl : s.2.1.length = d.next.length
  xl : s.2.2.length = d.next.length
  ri : ∀ m, nth s.1 m false = (decide (m < i) && anyTo d l m)
  no : i ≤ l.length → ∀ q, nth s.2.1 q false = ledB d l i i q
theorem rightD_next {d : Dfa} (h : rightD d = true) : 1 ≤ d.next.length ∧ d.next.length ≤ 1024 ∧ d.fin.length = d.next.length := by
  simp only [rightD, Bool.and_eq_true, decide_eq_true_eq] at h; omega
theorem wrongD0 {d : Dfa} {l : List UInt8} (hw : wrongD d l = 0) : rightD d = true ∧ l.length ≤ 4096 := by
  have hr : rightD d = true := by
    by_cases h : rightD d = true
    · exact h
    · rw [wrongD, if_neg h] at hw; cases hw
  refine ⟨hr, ?_⟩
  rw [wrongD, if_pos hr] at hw
  by_cases c : 4096 < l.length
  · rw [if_pos c] at hw; cases hw
  · omega
theorem bef_j1 {d : Dfa} (h : rightD d = true) (l : List UInt8) (hl : l.length ≤ 4096) : scan_Before_j1 l d = some (beforeD d l, 0) := by
  obtain ⟨hn1, hn2, hfl⟩ := rightD_next h
  unfold scan_Before_j1
  obtain ⟨r, h1, rfl⟩ := iter_up (step := fun q : (List Bool) × (List Bool) × (List Bool) × Nat => scan_Before_b1 l d q.1 q.2.1 q.2.2.1 q.2.2.2) (fun (s : List Bool × List Bool × List Bool) k => (s.1, s.2.1, s.2.2, k)) (l.length + 1)
    (fun k s => BefOut d l k s) (fun r => r = (beforeD d l, 0))
    (fun k s hk hI => by
      left
      obtain ⟨r, now, nx⟩ := s
      have hrl := hI.rl; have hnl := hI.nl; have hxl := hI.xl
      simp only at hrl hnl hxl
      simp only [scan_Before_b1]
      rw [List.length_replicate, iteO_dt (by omega), grd_mk (by omega)]
      have hno : ∀ q, q < d.next.length → nth (now.set 0 true) q false = ledB d l (k + 1) k q := fun q hq => by
        rw [led_zero, nth_set]
        by_cases h0 : q = 0
        · rw [if_pos (by omega), decide_eq_true h0, Bool.or_true]
        · rw [if_neg (by omega), decide_eq_false h0, Bool.or_false]; exact hI.no (by omega) q
      have key : ∀ f : Nat → Bool, ((List.range d.next.length).any fun q => nth (now.set 0 true) q false && f q) = (List.range d.next.length).any fun q => ledB d l (k + 1) k q && f q := fun f => by
        rw [Bool.eq_iff_iff, any_range, any_range]
        constructor
        · rintro ⟨q, h1, h2⟩; exact ⟨q, h1, by rw [← hno q h1]; exact h2⟩
        · rintro ⟨q, h1, h2⟩; exact ⟨q, h1, by rw [hno q h1]; exact h2⟩
      obtain ⟨s, h2, h3⟩ := bef_in h l hl now r (nx.take 0 ++ List.replicate (nx.length - 0) false) k (by omega) hnl
        ⟨hrl, by simp [hxl], fun _ _ => rfl, by rw [hI.ri]; simp, fun _ q' => by rw [List.take_zero, List.nil_append, nth_rep]; rfl⟩
      rw [h2]
      refine ⟨(s.1, s.2, now.set 0 true), rfl, h3.rl, h3.nl, by rw [List.length_set]; exact hnl, fun m => ?_, fun hk2 q => ?_⟩
      · by_cases hm : m = k
        · subst hm
          show nth s.1 m false = _
          rw [h3.ri, key, led_any h]
          simp
        · show nth s.1 m false = _
          rw [h3.ro m hm, hI.ri m]
          congr 1
          rw [decide_eq_decide]; omega
      · show nth s.2 q false = _
        rw [h3.ne (by omega) q, key, led_next h l (by omega)])
    (fun s hI => by
      obtain ⟨r, now, nx⟩ := s
      have hrl := hI.rl
      simp only at hrl
      refine ⟨(r, 0), ?_, ?_⟩
      · simp only [scan_Before_b1]
        rw [List.length_replicate, iteO_df (by omega)]; rfl
      · congr 1
        refine nth_ext false (by rw [hrl, beforeD]; simp) fun m hm => ?_
        rw [hrl] at hm
        have := hI.ri m
        simp only at this
        rw [this, decide_eq_true hm, Bool.true_and, beforeD, nth_map (anyTo d l) _ m 0 false (by simpa using hm), nth_range hm])
    (s0 := (List.replicate (l.length + 1) false, List.replicate d.next.length false, List.replicate d.next.length false))
    ⟨by simp, by simp, by simp, fun m => by simp [nth_rep], fun _ q => by show nth (List.replicate _ false) q false = _; rw [nth_rep]; simp [ledB]⟩
  exact h1
theorem checkL_eq (l : List UInt8) (hl : l.length ≤ 281474976710656) (ds : List Dfa) : scan_check l ds = some (if ds.all rightD = true then (if 4096 < l.length then 2 else 0) else 1) := by
  unfold scan_check
  rw [grd_mk hl]
  obtain ⟨r, h1, rfl⟩ := iter_up (step := fun q : Nat => scan_check_b1 ds l q) (fun (_ : Unit) k => k) ds.length (fun k _ => (ds.take k).all rightD = true) (fun r => r = if ds.all rightD = true then (if 4096 < l.length then 2 else 0) else 1)
    (fun k s hk hI => by
      simp only [scan_check_b1]
      rw [iteO_dt (by omega), check_eq, bnd_mk]
      cases hr : rightD (nth ds k Dfa.zero) with
      | true => left; rw [if_pos rfl, iteO_df (by omega)]; exact ⟨(), rfl, by rw [take_snoc ds hk Dfa.zero, all_snoc, hI, hr]; rfl⟩
      | false =>
        right; rw [if_neg (by simp), iteO_dt (by omega)]
        exact ⟨1, rfl, by rw [if_neg]; rw [all_false_of hk Dfa.zero hr]; simp⟩)
    (fun s hI => by
      rw [List.take_length] at hI
      simp only [scan_check_b1]
      rw [iteO_df (by omega), if_pos hI]
      by_cases c : 4096 < l.length
      · rw [iteO_dt (by omega), if_pos c]; exact ⟨_, rfl, rfl⟩
      · rw [iteO_df (by omega), if_neg c]; exact ⟨_, rfl, rfl⟩) (s0 := ()) rfl
  exact h1
theorem checkW_eq (d : Dfa) (l : List UInt8) (hl : l.length ≤ 281474976710656) : scan_check l [d] = some (wrongD d l) := by
  rw [checkL_eq l hl]; unfold wrongD; simp
theorem bef_eq (d : Dfa) (l : List UInt8) (hl : l.length ≤ 281474976710656) : scan_Before d l = some (if wrongD d l = 0 then (beforeD d l, 0) else ([], wrongD d l)) := by
  unfold scan_Before
  rw [grd_mk hl, checkW_eq d l hl, bnd_mk]
  by_cases hw : wrongD d l = 0
  · obtain ⟨hr, h4⟩ := wrongD0 hw
    obtain ⟨hn1, hn2, hfl⟩ := rightD_next hr
    rw [if_pos hw, iteO_df (by omega), grd_mk (by omega), grd_mk (by omega), grd_mk (by omega)]
    exact bef_j1 hr l h4
  · rw [if_neg hw, iteO_dt hw]
/-- Does some beginning of a text lead from a state to an end? -/
def endsF (d : Dfa) : List UInt8 → Int → Bool
  | [], q => nth d.fin q.toNat false
  | b :: l, q => nth d.fin q.toNat false || endsF d l (dlt d q b)
theorem any_cons_range (n : Nat) (p : Nat → Bool) : (List.range (n + 1)).any p = (p 0 || (List.range n).any fun j => p (j + 1)) := by
  rw [Bool.eq_iff_iff, Bool.or_eq_true, any_range, any_range]
  constructor
  · rintro ⟨j, h1, h2⟩
    cases j with
    | zero => exact .inl h2
    | succ j => exact .inr ⟨j, by omega, h2⟩
  · rintro (h | ⟨j, h1, h2⟩)
    · exact ⟨0, by omega, h⟩
    · exact ⟨j + 1, by omega, h2⟩
theorem endsF_any (d : Dfa) : ∀ (l : List UInt8) (q : Int), endsF d l q = (List.range (l.length + 1)).any fun j => nth d.fin (runD d q (l.take j)).toNat false
  | [], q => by simp [endsF, runD]
  | b :: l, q => by rw [endsF, endsF_any d l, List.length_cons, any_cons_range (l.length + 1)]; rfl
theorem anyFrom_ends (d : Dfa) (l : List UInt8) {i : Nat} (hi : i ≤ l.length) : anyFrom d l i = endsF d (l.drop i) 0 := by
  rw [endsF_any, anyFrom, List.length_drop, show l.length + 1 - i = l.length - i + 1 by omega]
  congr 1; funext j
  unfold takD
  congr 3
  rw [List.drop_take, show i + j - i = j by omega]
structure AftIn (d : Dfa) (now : List Bool) (b : UInt8) (k : Nat) (nx : List Bool) : Prop where
  len : nx.length = d.next.length
  it : ∀ q, q < k → nth nx q false = (nth d.fin q false || nth now (dlt d ((q : Nat) : Int) b).toNat false)
theorem aft_in {d : Dfa} (h : rightD d = true) (r now nx : List Bool) (i : Nat) (b : UInt8) (hn : now.length = d.next.length) (hx : nx.length = d.next.length) (hi : i < r.length) :
    ∃ nx', scan_After_r4 d r now nx ((i : Nat) : Int) b = some (0, (r.set i (nth nx' 0 false)), nx', now) ∧ AftIn d now b d.next.length nx' := by
  obtain ⟨hn1, hn2, hfl⟩ := rightD_next h
  unfold scan_After_r4
  obtain ⟨r', h1, s, rfl, h2⟩ := iter_up (step := fun q : (List Bool) × Nat => scan_After_b1 d b now ((i : Nat) : Int) r q.1 q.2) (fun (s : List Bool) k => (s, k)) d.next.length
    (fun k s => AftIn d now b k s) (fun z => ∃ s : List Bool, z = (0, (r.set i (nth s 0 false)), s, now) ∧ AftIn d now b d.next.length s)
    (fun k s hk hI => by
      left
      have hl := hI.len
      simp only [scan_After_b1, scan_After_j2]
      rw [iteO_dt (by omega)]
      have key : ∀ x, x = (nth d.fin k false || nth now (dlt d ((k : Nat) : Int) b).toNat false) → AftIn d now b (k + 1) (s.set k x) := fun x hx => ⟨by rw [List.length_set]; exact hl, fun q hq => by
        rw [nth_set]
        by_cases e : k = q
        · subst e; rw [if_pos ⟨rfl, by omega⟩]; exact hx
        · rw [if_neg (by omega)]; exact hI.it q (by omega)⟩
      cases hf : nth d.fin k false with
      | true => rw [iteO_true, grd_mk (by omega)]; exact ⟨_, rfl, key _ (by rw [hf]; rfl)⟩
      | false =>
        have hq : okS d ((k : Nat) : Int) := ⟨by omega, by omega⟩
        have hs := dlt_ok h hq b
        have hcl := hs.cl; have hc1 := hs.c; have hnx1 := hs.nx
        rw [Int.toNat_natCast] at hc1
        rw [iteO_false, grd_mk hk, grd_mk hcl, grd_mk hc1]
        rw [show (nth (nth d.next k ([] : List Int)) ((nth d.cls b.toNat (0 : Int)).toNat) (0 : Int)) = dlt d ((k : Nat) : Int) b by unfold dlt; rw [Int.toNat_natCast]]
        rw [grd_mk (by have := hnx1.1; have := hnx1.2; omega), grd_mk (by omega)]
        exact ⟨_, rfl, key _ (by rw [hf]; rfl)⟩)
    (fun s hI => by
      have hl := hI.len
      refine ⟨_, ?_, s, rfl, hI⟩
      simp only [scan_After_b1]
      rw [iteO_df (by omega), grd_mk (by omega), grd_mk (by omega), Int.toNat_natCast]; rfl) (s0 := nx) ⟨hx, fun q hq => by omega⟩
  exact ⟨s, h1, h2⟩
structure AftOut (d : Dfa) (l : List UInt8) (i : Nat) (s : List Bool × List Bool × List Bool) : Prop where
  rl : s.1.length = l.length + 1
  nl : s.2.1.length = d.next.length
  xl : s.2.2.length = d.next.length
  ri : ∀ m, i ≤ m → m ≤ l.length → nth s.1 m false = anyFrom d l m
  no : ∀ q, q < d.next.length → nth s.2.1 q false = endsF d (l.drop i) ((q : Nat) : Int)
theorem drop_nth (l : List UInt8) {i : Nat} (hi : i < l.length) : l.drop i = nth l i 0 :: l.drop (i + 1) := by
  have h := getD_some l hi (0 : UInt8)
  rw [List.getElem?_eq_getElem hi] at h
  rw [List.drop_eq_getElem_cons hi, Option.some.inj h]
theorem aft_loop {d : Dfa} (h : rightD d = true) (l : List UInt8) (hl : l.length ≤ 4096) : ∀ (i : Nat) (s : List Bool × List Bool × List Bool), i ≤ l.length → AftOut d l i s →
    ∃ s', iter (fun q : Int × (Nat × (List Bool) × (List Bool) × (List Bool)) => slices_Backward_byte_byte_1_b1 l (stepY (fun (q : (List Bool) × (List Bool) × (List Bool)) (x : Int × UInt8) => scan_After_r4 d q.1 q.2.1 q.2.2 x.1 x.2)) q.1 q.2) (((i : Nat) : Int) - 1, (0, s)) = some (0, s') ∧ AftOut d l 0 s'
  | 0, s, hi, hI => by
    refine ⟨s, iter_done ?_, hI⟩
    simp only [slices_Backward_byte_byte_1_b1]
    rw [iteO_df (by omega)]; rfl
  | i + 1, s, hi, hI => by
    obtain ⟨r, now, nx⟩ := s
    have hrl := hI.rl; have hnl := hI.nl; have hxl := hI.xl
    simp only at hrl hnl hxl
    obtain ⟨nx', h1, h2⟩ := aft_in h r now nx i (nth l i 0) hnl hxl (by omega)
    obtain ⟨hn1, hn2, hfl⟩ := rightD_next h
    have hno : ∀ q, q < d.next.length → nth nx' q false = endsF d (l.drop i) ((q : Nat) : Int) := fun q hq => by
      have hs := dlt_ok h (s := ((q : Nat) : Int)) ⟨by omega, by omega⟩ (nth l i 0)
      rw [h2.it q hq, drop_nth l (by omega), endsF, Int.toNat_natCast]
      have h3 := hI.no (dlt d ((q : Nat) : Int) (nth l i 0)).toNat (by have := hs.nx.1; have := hs.nx.2; omega)
      simp only at h3
      rw [h3, Int.toNat_of_nonneg hs.nx.1]
    have hI' : AftOut d l i ((r.set i (nth nx' 0 false)), nx', now) := ⟨by show (List.set ..).length = _; rw [List.length_set]; exact hrl, h2.len, hnl, fun m hm hm2 => by
      show nth (List.set ..) m false = _
      rw [nth_set]
      by_cases e : i = m
      · subst e; rw [if_pos ⟨rfl, by omega⟩, hno 0 (by omega), anyFrom_ends d l hm2]; rfl
      · rw [if_neg (by omega)]; exact hI.ri m (by omega) hm2, hno⟩
    obtain ⟨s', h3, h4⟩ := aft_loop h l hl i _ (by omega) hI'
    refine ⟨s', iter_next (s' := (((i : Nat) : Int) - 1, (0, (r.set i (nth nx' 0 false)), nx', now))) ?_ h3, h4⟩
    simp only [slices_Backward_byte_byte_1_b1]
    rw [show ((i + 1 : Nat) : Int) - 1 = ((i : Nat) : Int) by omega, iteO_dt (by omega), grd_mk (by omega), Int.toNat_natCast]
    rw [show stepY (fun (q : (List Bool) × (List Bool) × (List Bool)) (x : Int × UInt8) => scan_After_r4 d q.1 q.2.1 q.2.2 x.1 x.2) (0, r, now, nx) (((i : Nat) : Int), nth l i 0) = some ((0, (r.set i (nth nx' 0 false)), nx', now), true) from by
      unfold stepY; rw [if_pos rfl]; simp only [h1]; rfl, bnd_mk, wrap64_of (by omega) (by omega)]
    rfl
theorem aft_eq (d : Dfa) (l : List UInt8) (hl : l.length ≤ 281474976710656) : scan_After d l = some (if wrongD d l = 0 then (afterD d l, 0) else ([], wrongD d l)) := by
  unfold scan_After
  rw [grd_mk hl, checkW_eq d l hl, bnd_mk]
  by_cases hw : wrongD d l = 0
  · obtain ⟨hr, h4⟩ := wrongD0 hw
    obtain ⟨hn1, hn2, hfl⟩ := rightD_next hr
    rw [if_pos hw, iteO_df (by omega), grd_mk (by omega), grd_mk (by omega), grd_mk (by omega)]
    unfold scan_After_j1
    rw [List.length_replicate, grd_mk (by omega), grd_mk (by omega), grd_mk hl]
    rw [bnd_some (show slices_Backward l = some l from rfl)]
    obtain ⟨s', h1, h2⟩ := aft_loop hr l h4 l.length ((List.replicate (l.length + 1) false).set l.length (nth d.fin 0 false), d.fin, List.replicate d.fin.length false) (Nat.le_refl _)
      ⟨by simp, hfl, by simp [hfl], fun m hm hm2 => by
        have e : m = l.length := by omega
        subst e
        show nth (List.set ..) _ false = _
        rw [nth_set, if_pos ⟨rfl, by simp⟩, anyFrom_ends d l (Nat.le_refl _), List.drop_length]; rfl,
       fun q hq => by rw [List.drop_length]; rfl⟩
    unfold slices_Backward_byte_byte_1
    rw [wrap64_of (by omega) (by omega), h1, bnd_mk]
    show some (s'.1, (0 : Int)) = _
    congr 2
    refine nth_ext false (by rw [h2.rl, afterD]; simp) fun m hm => ?_
    rw [h2.rl] at hm
    rw [h2.ri m (Nat.zero_le _) (by omega), afterD, nth_map (anyFrom d l) _ m 0 false (by simpa using hm), nth_range hm]
  · rw [if_neg hw, iteO_dt hw]
/-- The greatest place above p, at most j, that may be and up to which a part that begins at p is taken; p, if there is none. -/
def keepF (d : Dfa) (af : List Bool) (l : List UInt8) (p : Nat) : Nat → Nat
  | 0 => p
  | j + 1 => if p < j + 1 ∧ takD d l p (j + 1) = true ∧ nth af (j + 1) false = true then j + 1 else keepF d af l p j
theorem keepF_low (d : Dfa) (af : List Bool) (l : List UInt8) (p : Nat) : ∀ j, j ≤ p → keepF d af l p j = p
  | 0, _ => rfl
  | j + 1, h => by rw [keepF, if_neg (by omega)]; exact keepF_low d af l p j (by omega)
theorem keepF_ge (d : Dfa) (af : List Bool) (l : List UInt8) (p : Nat) : ∀ j, p ≤ keepF d af l p j
  | 0 => Nat.le_refl _
  | j + 1 => by rw [keepF]; split; omega; exact keepF_ge d af l p j
theorem keepF_le (d : Dfa) (af : List Bool) (l : List UInt8) (p : Nat) : ∀ j, keepF d af l p j ≤ max p j
  | 0 => by rw [keepF]; omega
  | j + 1 => by
    rw [keepF]; split
    · omega
    · have := keepF_le d af l p j; omega
theorem lfac_loop {d : Dfa} (h : rightD d = true) (af : List Bool) (l : List UInt8) (hl : l.length ≤ 281474976710656) (ha : af.length = l.length + 1) (p : Nat) : ∀ (m i : Nat), l.length - i = m → p ≤ i → i ≤ l.length →
    iter (fun q : Int × Int × Int => longestF_b1 l d af q.1 q.2.1 q.2.2) (((keepF d af l p i : Nat) : Int), runD d 0 ((l.take i).drop p), ((i : Nat) : Int)) = some ((keepF d af l p l.length : Nat) : Int)
  | 0, i, hm, hp, hi => by
    have e : i = l.length := by omega
    subst e
    refine iter_done ?_
    simp only [longestF_b1]
    rw [iteO_df (by omega)]; rfl
  | m + 1, i, hm, hp, hi => by
    have hq : okS d (runD d 0 ((l.take i).drop p)) := runD_ok h _ (ok0 h)
    have hs := dlt_ok h hq (nth l i (0 : UInt8))
    have hk : nth d.fin (dlt d (runD d 0 ((l.take i).drop p)) (nth l i 0)).toNat false = takD d l p (i + 1) := by
      unfold takD; rw [part_snoc l hp (by omega), runD_snoc]
    refine iter_next (s' := (((keepF d af l p (i + 1) : Nat) : Int), runD d 0 ((l.take (i + 1)).drop p), ((i + 1 : Nat) : Int))) ?_ (lfac_loop h af l hl ha p m (i + 1) (by omega) (by omega) (by omega))
    rw [part_snoc l hp (by omega), runD_snoc]
    simp only [longestF_b1]
    rw [iteO_dt (by omega), grd_mk (show 0 ≤ runD d 0 ((l.take i).drop p) ∧ runD d 0 ((l.take i).drop p) < (d.next.length : Int) from hq), grd_mk (by omega), Int.toNat_natCast, grd_mk hs.cl, grd_mk hs.c]
    rw [show (nth (nth d.next (runD d 0 ((l.take i).drop p)).toNat ([] : List Int)) ((nth d.cls (nth l i (0 : UInt8)).toNat (0 : Int)).toNat) (0 : Int)) = dlt d (runD d 0 ((l.take i).drop p)) (nth l i 0) from rfl, grd_mk hs.f, hk, keepF, wrap64_of (by omega) (by omega)]
    cases takD d l p (i + 1) with
    | true =>
      rw [iteO_true, scan_Factors_1, grd_mk (by omega), bnd_mk, show (((i : Nat) : Int) + 1).toNat = i + 1 by omega]
      cases nth af (i + 1) false with
      | true => rw [iteO_true, if_pos ⟨by omega, rfl, rfl⟩, longestF_j1, Int.toNat_natCast, wrap64_of (by omega) (by omega)]; rfl
      | false => rw [iteO_false, if_neg (by simp), longestF_j1, Int.toNat_natCast, wrap64_of (by omega) (by omega)]; rfl
    | false => rw [iteO_false, if_neg (by simp), longestF_j1, Int.toNat_natCast, wrap64_of (by omega) (by omega)]; rfl
theorem longestF_eq {d : Dfa} (h : rightD d = true) (af : List Bool) (l : List UInt8) (hl : l.length ≤ 281474976710656) (ha : af.length = l.length + 1) {p : Nat} (hp : p ≤ l.length) : longestF d l ((p : Nat) : Int) af = some ((keepF d af l p l.length : Nat) : Int) := by
  unfold longestF
  rw [grd_mk hl]
  have := lfac_loop h af l hl ha p _ p rfl (Nat.le_refl _) hp
  rw [keepF_low d af l p p (Nat.le_refl _), List.drop_of_length_le (by rw [List.length_take]; omega)] at this
  exact this
/-- The end of the factor that begins at a place; the place, if none does. -/
def facTo (d : Dfa) (be af : List Bool) (l : List UInt8) (p : Nat) : Nat := if nth be p false = true then keepF d af l p l.length else p
/-- The factors from a place on. -/
def facs (d : Dfa) (be af : List Bool) (l : List UInt8) : Nat → Nat → List Span
  | 0, _ => []
  | n + 1, p => if p < l.length then (if facTo d be af l p = p then facs d be af l n (p + 1) else ⟨((p : Nat) : Int), ((facTo d be af l p : Nat) : Int)⟩ :: facs d be af l n (facTo d be af l p)) else []
theorem facTo_le (d : Dfa) (be af : List Bool) (l : List UInt8) {p : Nat} (hp : p ≤ l.length) : facTo d be af l p ≤ l.length := by
  unfold facTo; split
  · have := keepF_le d af l p l.length; omega
  · exact hp
theorem facTo_ge (d : Dfa) (be af : List Bool) (l : List UInt8) (p : Nat) : p ≤ facTo d be af l p := by
  unfold facTo; split
  · exact keepF_ge d af l p _
  · exact Nat.le_refl _
theorem pfac_loop {d : Dfa} (h : rightD d = true) (be af : List Bool) (e1 e2 : Int) (l : List UInt8) (hl : l.length ≤ 4096) (hb : be.length = l.length + 1) (ha : af.length = l.length + 1) : ∀ (n p : Nat) (r : List Span), l.length ≤ p + n → p ≤ l.length → r.length ≤ p →
    iter (fun q : (List Span) × Int => scan_Factors_b1 l (be, e1) d (af, e2) q.1 q.2) (r, ((p : Nat) : Int)) = some (r ++ facs d be af l n p, 0)
  | 0, p, r, hn, hp, hr => by
    refine iter_done ?_
    simp only [scan_Factors_b1]
    rw [iteO_df (by omega), facs, List.append_nil]; rfl
  | n + 1, p, r, hn, hp, hr => by
    by_cases c : p < l.length
    · have ht := facTo_le d be af l hp
      have hg := facTo_ge d be af l p
      have key : scan_Factors_b1 l (be, e1) d (af, e2) r ((p : Nat) : Int) = scan_Factors_j1 ((p : Nat) : Int) r ((facTo d be af l p : Nat) : Int) := by
        simp only [scan_Factors_b1]
        rw [iteO_dt (by omega), grd_mk (by omega), Int.toNat_natCast]
        cases hbp : nth be p false with
        | true => rw [iteO_true, longestF_eq h af l (by omega) ha hp, bnd_mk, facTo, hbp, if_pos rfl]
        | false => rw [iteO_false, facTo, hbp, if_neg (by simp)]
      rw [facs, if_pos c]
      by_cases e : facTo d be af l p = p
      · rw [if_pos e]
        refine iter_next (s' := (r, ((p + 1 : Nat) : Int))) ?_ (pfac_loop h be af e1 e2 l hl hb ha n (p + 1) r (by omega) (by omega) (by omega))
        simp only []
        rw [key, scan_Factors_j1, iteO_dt (by omega), wrap64_of (by omega) (by omega)]; rfl
      · rw [if_neg e]
        refine iter_next (s' := (r ++ [⟨((p : Nat) : Int), ((facTo d be af l p : Nat) : Int)⟩], ((facTo d be af l p : Nat) : Int))) ?_ ?_
        · simp only []
          rw [key, scan_Factors_j1, iteO_df (by omega), grd_mk (by simp only [List.length_cons, List.length_nil]; omega)]; rfl
        · rw [pfac_loop h be af e1 e2 l hl hb ha n (facTo d be af l p) _ (by omega) ht (by rw [List.length_append]; simp only [List.length_cons, List.length_nil]; omega), List.append_assoc]; rfl
    · refine iter_done ?_
      simp only [scan_Factors_b1]
      rw [iteO_df (by omega), facs, if_neg c, List.append_nil]; rfl
/-- What Factors answers. -/
def wrongF (d x y : Dfa) (l : List UInt8) : Int := if rightD d = true ∧ rightD x = true ∧ rightD y = true then (if 4096 < l.length then 2 else 0) else 1
def facD (d x y : Dfa) (l : List UInt8) : List Span := facs d (beforeD x l) (afterD y l) l l.length 0
theorem beforeD_len (d : Dfa) (l : List UInt8) : (beforeD d l).length = l.length + 1 := by simp [beforeD]
theorem afterD_len (d : Dfa) (l : List UInt8) : (afterD d l).length = l.length + 1 := by simp [afterD]
theorem pfac_eq (d x y : Dfa) (l : List UInt8) (hl : l.length ≤ 281474976710656) : scan_Factors d x y l = some (if wrongF d x y l = 0 then (facD d x y l, 0) else ([], wrongF d x y l)) := by
  unfold scan_Factors
  rw [grd_mk hl, checkL_eq l hl]
  have e : (if [d, x, y].all rightD = true then (if 4096 < l.length then (2 : Int) else 0) else 1) = wrongF d x y l := by
    unfold wrongF; simp only [List.all_cons, List.all_nil, Bool.and_true, Bool.and_eq_true]
  rw [e, bnd_mk]
  by_cases hw : wrongF d x y l = 0
  · have hall : rightD d = true ∧ rightD x = true ∧ rightD y = true ∧ l.length ≤ 4096 := by
      unfold wrongF at hw
      by_cases c : rightD d = true ∧ rightD x = true ∧ rightD y = true
      · rw [if_pos c] at hw
        by_cases c2 : 4096 < l.length
        · rw [if_pos c2] at hw; cases hw
        · exact ⟨c.1, c.2.1, c.2.2, by omega⟩
      · rw [if_neg c] at hw; cases hw
    obtain ⟨h1, h2, h3, h4⟩ := hall
    have w1 : wrongD x l = 0 := by rw [wrongD, if_pos h2, if_neg (by omega)]
    have w2 : wrongD y l = 0 := by rw [wrongD, if_pos h3, if_neg (by omega)]
    rw [if_pos hw, iteO_df (by omega), bef_eq x l hl, if_pos w1, bnd_mk]
    simp only []
    rw [iteO_df (by omega), aft_eq y l hl, if_pos w2, bnd_mk]
    simp only []
    rw [iteO_df (by omega)]
    have := pfac_loop h1 (beforeD x l) (afterD y l) 0 0 l h4 (beforeD_len x l) (afterD_len y l) l.length 0 [] (by omega) (by omega) (by simp)
    exact this
  · rw [if_neg hw, iteO_dt hw]
end Go.Proofs.YtmfclggfajopkaaGreatDoor
end

/- RwP -/
section
/- A rule turns a text: what the program answers. Plain lemmas; of a text only that its length is at most 2^48. -/
set_option linter.unusedVariables false
set_option linter.unusedSimpArgs false
namespace Go.Proofs.YtmfclggfajopkaaGreatDoor
open Go Go.E
set_option maxRecDepth 100000

/-- n bytes from a place on, each at its own place. -/
def ownD (a n : Nat) : List Span := (List.range n).map fun k => ⟨((a + k : Nat) : Int), ((a + k + 1 : Nat) : Int)⟩
theorem ownD_len (a n : Nat) : (ownD a n).length = n := by simp [ownD]
theorem ownD_zero (a : Nat) : ownD a 0 = [] := rfl
theorem ownD_succ (a n : Nat) : ownD a (n + 1) = ownD a n ++ [⟨((a + n : Nat) : Int), ((a + n + 1 : Nat) : Int)⟩] := by
  unfold ownD; rw [List.range_succ, List.map_append]; rfl
theorem writeSU_eq (t : Turned) (m : List UInt8) (h : t.b.buf.length + m.length ≤ 140737488355328) : writeSU t m = some (((m.length : Nat) : Int), (), ⟨⟨t.b.buf ++ m⟩, t.at'⟩) := by
  unfold writeSU
  rw [grd_mk (by omega), show copyCheckU (⟨⟨t.b.buf⟩, t.at'⟩ : Turned) = some ⟨⟨t.b.buf⟩, t.at'⟩ from rfl, bnd_mk, grd_mk h]
theorem stay_eq (t : Turned) (l : List UInt8) (hl : l.length ≤ 1000000) {a b : Nat} (hab : a ≤ b) (hb : b ≤ l.length) (ht : t.b.buf.length ≤ 100000000000) (hat : t.at'.length ≤ 1000000000000) :
    rewrite_turned_stay t l ⟨((a : Nat) : Int), ((b : Nat) : Int)⟩ = some ⟨⟨t.b.buf ++ (l.take b).drop a⟩, t.at' ++ ownD a (b - a)⟩ := by
  unfold rewrite_turned_stay
  have hlen : ((l.take b).drop a).length ≤ 1000000 := by simp only [List.length_drop, List.length_take]; omega
  rw [grd_mk (by omega), grd_mk (by simp only [Int.toNat_natCast]; omega)]
  simp only [Int.toNat_natCast]
  rw [show (⟨⟨t.b.buf⟩, t.at'⟩ : Turned) = t from rfl, writeSU_eq t _ (by omega), bnd_mk]
  simp only []
  obtain ⟨r, h1, rfl⟩ := iter_up (step := fun q : (List Span) × Int => rewrite_turned_stay_b1 ⟨((a : Nat) : Int), ((b : Nat) : Int)⟩ ((((l.take b).drop a).length : Int), (), ⟨⟨t.b.buf ++ (l.take b).drop a⟩, t.at'⟩) q.1 q.2)
    (fun (s : List Span) k => (s, ((a + k : Nat) : Int))) (b - a) (fun k s => s = t.at' ++ ownD a k) (fun r => r = ⟨⟨t.b.buf ++ (l.take b).drop a⟩, t.at' ++ ownD a (b - a)⟩)
    (fun k s hk hI => by
      left
      refine ⟨s ++ [⟨((a + k : Nat) : Int), ((a + k + 1 : Nat) : Int)⟩], ?_, by rw [hI, ownD_succ, List.append_assoc]⟩
      have hs : s.length ≤ 1000001000000 := by rw [hI, List.length_append, ownD_len]; omega
      simp only [rewrite_turned_stay_b1]
      rw [iteO_dt (by omega), grd_mk (by simp only [List.length_cons, List.length_nil]; omega), wrap64_of (by omega) (by omega)]; rfl)
    (fun s hI => by
      simp only [rewrite_turned_stay_b1]
      rw [iteO_df (by omega)]; exact ⟨_, rfl, by rw [hI]⟩) (s0 := t.at') (by rw [ownD_zero, List.append_nil])
  exact h1
theorem put_eq (t : Turned) (o : List UInt8) (p : Span) (ho : o.length ≤ 100000000) (ht : t.b.buf.length ≤ 100000000000) (hat : t.at'.length ≤ 1000000000000) :
    rewrite_turned_put t o p = some (if 4096 < t.b.buf.length + o.length then (false, t) else (true, ⟨⟨t.b.buf ++ o⟩, t.at' ++ List.replicate o.length p⟩)) := by
  unfold rewrite_turned_put
  rw [grd_mk (by omega), show (⟨⟨t.b.buf⟩, t.at'⟩ : Turned) = t from rfl, show lenU t = some ((t.b.buf.length : Nat) : Int) from rfl, bnd_mk, wrap64_of (by omega) (by omega)]
  by_cases c : 4096 < t.b.buf.length + o.length
  · rw [iteO_dt (by omega), if_pos c]
  · rw [iteO_df (by omega), if_neg c, writeSU_eq t _ (by omega), bnd_mk]
    simp only []
    obtain ⟨r, h1, rfl⟩ := iter_up (step := fun q : (List Span) × Nat => rewrite_turned_put_b1 o p (((o.length : Nat) : Int), (), ⟨⟨t.b.buf ++ o⟩, t.at'⟩) q.1 q.2)
      (fun (s : List Span) k => (s, k)) o.length (fun k s => s = t.at' ++ List.replicate k p) (fun r => r = (true, ⟨⟨t.b.buf ++ o⟩, t.at' ++ List.replicate o.length p⟩))
      (fun k s hk hI => by
        left
        refine ⟨s ++ [p], ?_, by rw [hI, List.replicate_succ', List.append_assoc]⟩
        have hs : s.length ≤ 1000100000000 := by rw [hI, List.length_append, List.length_replicate]; omega
        simp only [rewrite_turned_put_b1]
        rw [iteO_dt (by omega), grd_mk (by simp only [List.length_cons, List.length_nil]; omega)]; rfl)
      (fun s hI => by
        simp only [rewrite_turned_put_b1]
        rw [iteO_df (by omega)]; exact ⟨_, rfl, by rw [hI]⟩) (s0 := t.at') (by simp)
    exact h1

/-- What becomes of a factor; none: it stays. -/
def factor (r : Rule) (w : List UInt8) : Option (List UInt8) :=
  if r.mapped = true then (if (applyQ r.by' w).2.2.1 = true ∧ (applyQ r.by' w).2.2.2 = 0 then some (applyQ r.by' w).1 else none) else some r.out
theorem factor_len (r : Rule) (hr : r.out.length ≤ 1000000) (w o : List UInt8) (h : factor r w = some o) : o.length ≤ 1000000 + 4096 * (w.length + 2) := by
  unfold factor at h
  split at h
  · split at h
    · cases h; have := applyQ_len r.by' w; omega
    · cases h
  · cases h; omega
/-- What stands so far (its bytes, their places, up to where), and a factor more. -/
def stepT (r : Rule) (l : List UInt8) (st : List UInt8 × List Span × Nat) (p : Span) : List UInt8 × List Span × Nat :=
  match factor r ((l.take p.to.toNat).drop p.frm.toNat) with
  | none => (st.1 ++ (l.take p.frm.toNat).drop st.2.2 ++ (l.take p.to.toNat).drop p.frm.toNat, st.2.1 ++ ownD st.2.2 (p.frm.toNat - st.2.2) ++ ownD p.frm.toNat (p.to.toNat - p.frm.toNat), p.to.toNat)
  | some o => (st.1 ++ (l.take p.frm.toNat).drop st.2.2 ++ o, st.2.1 ++ ownD st.2.2 (p.frm.toNat - st.2.2) ++ List.replicate o.length p, p.to.toNat)
def turnT (r : Rule) (l : List UInt8) (ps : List Span) (st : List UInt8 × List Span × Nat) : List UInt8 × List Span :=
  ((ps.foldl (stepT r l) st).1 ++ l.drop (ps.foldl (stepT r l) st).2.2, (ps.foldl (stepT r l) st).2.1 ++ ownD (ps.foldl (stepT r l) st).2.2 (l.length - (ps.foldl (stepT r l) st).2.2))
theorem stepT_len (r : Rule) (l : List UInt8) (st : List UInt8 × List Span × Nat) (p : Span) : st.1.length ≤ (stepT r l st p).1.length := by
  unfold stepT; split <;> simp only [List.length_append] <;> omega
theorem turnT_len (r : Rule) (l : List UInt8) : ∀ (ps : List Span) (st : List UInt8 × List Span × Nat), st.1.length ≤ (turnT r l ps st).1.length
  | [], st => by simp only [turnT, List.foldl_nil, List.length_append]; omega
  | p :: ps, st => Nat.le_trans (stepT_len r l st p) (turnT_len r l ps (stepT r l st p))
/-- Factors, one behind the other, from a place on, in a text of n bytes. -/
def FacOk (n : Nat) : Nat → List Span → Prop
  | _, [] => True
  | p, x :: xs => ∃ a b : Nat, x = ⟨((a : Nat) : Int), ((b : Nat) : Int)⟩ ∧ p ≤ a ∧ a < b ∧ b ≤ n ∧ FacOk n b xs
theorem facs_ok (d : Dfa) (be af : List Bool) (l : List UInt8) : ∀ (n p : Nat), p ≤ l.length → ∀ p', p' ≤ p → FacOk l.length p' (facs d be af l n p)
  | 0, p, _, p', _ => by rw [facs]; exact trivial
  | n + 1, p, hp, p', hp' => by
    rw [facs]
    split
    · rename_i c
      have h1 := facTo_le d be af l hp
      have h2 := facTo_ge d be af l p
      split
      · exact facs_ok d be af l n (p + 1) (by omega) p' (by omega)
      · exact ⟨p, facTo d be af l p, rfl, hp', by omega, h1, facs_ok d be af l n _ h1 _ (Nat.le_refl _)⟩
    · exact trivial
/-- A round over the factors, whatever becomes of them. -/
noncomputable def tb (bc : List UInt8 → Option (List UInt8 × Bool)) (v : (List Span) × Int) (x1 : List UInt8) (l135 : List UInt8) (l139 : List Span) (i142 : Int) (k143 : Nat) : Option (((List UInt8) × (List Span) × Int × Nat) ⊕ (Piece × Int)) :=
  iteO (decide (((k143 : Nat) : Int) < ((v.1.length : Nat) : Int))) (bnd (rewrite_turned_stay (⟨(⟨l135⟩ : SB), l139⟩ : Turned) x1 (⟨i142, (nth v.1 k143 Span.zero).frm⟩ : Span)) (fun v54 => grd (0 ≤ ((nth v.1 k143 Span.zero).frm) ∧ 0 ≤ ((nth v.1 k143 Span.zero).to) ∧ ((nth v.1 k143 Span.zero).frm).toNat ≤ ((nth v.1 k143 Span.zero).to).toNat ∧ ((nth v.1 k143 Span.zero).to).toNat ≤ x1.length) (bnd (bc ((x1.take (((nth v.1 k143 Span.zero).to).toNat)).drop (((nth v.1 k143 Span.zero).frm).toNat))) (fun v65 => iteO (!v65.2) (bnd (rewrite_turned_stay (⟨(⟨v54.b.buf⟩ : SB), v54.at'⟩ : Turned) x1 (nth v.1 k143 Span.zero)) (fun v75 => nxt (v75.b.buf, v75.at', ((nth v.1 k143 Span.zero).to), (k143 + 1)))) (bnd (rewrite_turned_put (⟨(⟨v54.b.buf⟩ : SB), v54.at'⟩ : Turned) v65.1 (nth v.1 k143 Span.zero)) (fun v78 => iteO (!v78.1) (fin (some ((⟨([] : List UInt8), ([] : List Span)⟩ : Piece), 2))) (nxt (v78.2.b.buf, v78.2.at', ((nth v.1 k143 Span.zero).to), (k143 + 1)))))))) ) (fin (bnd (rewrite_turned_stay (⟨(⟨l135⟩ : SB), l139⟩ : Turned) x1 (⟨i142, ((x1.length : Nat) : Int)⟩ : Span)) (fun v90 => bnd (lenU (⟨(⟨v90.b.buf⟩ : SB), v90.at'⟩ : Turned)) (fun v92 => iteO (decide (4096 < v92)) (some ((⟨([] : List UInt8), ([] : List Span)⟩ : Piece), 2)) (bnd (rewrite_turned_piece (⟨(⟨v90.b.buf⟩ : SB), v90.at'⟩ : Turned)) (fun v97 => some (v97, 0)))))))
/-- What the program's way to make something of a factor must tell. -/
def Tells (r : Rule) (bc : List UInt8 → Option (List UInt8 × Bool)) : Prop := ∀ w, w.length ≤ 4096 → match factor r w with
  | none => ∃ o, bc w = some (o, false)
  | some o => bc w = some (o, true)
def ansT (z : List UInt8 × List Span) : Piece × Int := if 4096 < z.1.length then (⟨[], []⟩, 2) else (⟨z.1, z.2⟩, 0)
theorem turn_loop (r : Rule) (hr : r.out.length ≤ 1000000) {bc : List UInt8 → Option (List UInt8 × Bool)} (hb : Tells r bc) (L : List Span) (e : Int) (l : List UInt8) (hl : l.length ≤ 4096) : ∀ (m k : Nat) (buf : List UInt8) (at' : List Span) (p : Nat), L.length - k = m → k ≤ L.length → p ≤ l.length → FacOk l.length p (L.drop k) → at'.length = buf.length → k ≤ p → buf.length ≤ 4096 + 8192 * k →
    iter (fun q : (List UInt8) × (List Span) × Int × Nat => tb bc (L, e) l q.1 q.2.1 q.2.2.1 q.2.2.2) (buf, at', ((p : Nat) : Int), k) = some (ansT (turnT r l (L.drop k) (buf, at', p)))
  | 0, k, buf, at', p, hm, hk, hp, hf, ha, hkp, hbl => by
    rw [show L.drop k = [] from List.drop_of_length_le (by omega)]
    refine iter_done ?_
    simp only [tb]
    rw [iteO_df (by omega), stay_eq ⟨⟨buf⟩, at'⟩ l (by omega) hp (Nat.le_refl _) (by simp only; omega) (by simp only; omega), bnd_mk]
    simp only [List.take_length]
    rw [show lenU (⟨⟨buf ++ l.drop p⟩, at' ++ ownD p (l.length - p)⟩ : Turned) = some (((buf ++ l.drop p).length : Nat) : Int) from rfl, bnd_mk]
    show _ = some (Sum.inr (ansT (buf ++ l.drop p, at' ++ ownD p (l.length - p))))
    unfold ansT
    by_cases c : 4096 < (buf ++ l.drop p).length
    · rw [iteO_dt (by omega), if_pos c]; rfl
    · rw [iteO_df (by omega), if_neg c]; rfl
  | m + 1, k, buf, at', p, hm, hk, hp, hf, ha, hkp, hbl => by
    rw [drop_nth' L (show k < L.length by omega) Span.zero] at hf ⊢
    obtain ⟨a, b, hx, h1, h2, h3, h4⟩ := hf
    have hw : ((l.take b).drop a).length = b - a := by simp only [List.length_drop, List.length_take]; omega
    have hw2 : ((l.take a).drop p).length = a - p := by simp only [List.length_drop, List.length_take]; omega
    have hT := hb ((l.take b).drop a) (by omega)
    have hst : turnT r l (nth L k Span.zero :: L.drop (k + 1)) (buf, at', p) = turnT r l (L.drop (k + 1)) (stepT r l (buf, at', p) (nth L k Span.zero)) := rfl
    rw [hst]
    have hpre : ∀ X, tb bc (L, e) l buf at' ((p : Nat) : Int) k = X ↔ bnd (bc ((l.take b).drop a)) (fun v65 => iteO (!v65.2) (bnd (rewrite_turned_stay ⟨⟨buf ++ (l.take a).drop p⟩, at' ++ ownD p (a - p)⟩ l (nth L k Span.zero)) (fun v75 => nxt (v75.b.buf, v75.at', ((nth L k Span.zero).to), (k + 1)))) (bnd (rewrite_turned_put ⟨⟨buf ++ (l.take a).drop p⟩, at' ++ ownD p (a - p)⟩ v65.1 (nth L k Span.zero)) (fun v78 => iteO (!v78.1) (fin (some ((⟨([] : List UInt8), ([] : List Span)⟩ : Piece), 2))) (nxt (v78.2.b.buf, v78.2.at', ((nth L k Span.zero).to), (k + 1)))))) = X := by
      intro X
      simp only [tb]
      rw [iteO_dt (by omega), hx]
      simp only []
      rw [stay_eq ⟨⟨buf⟩, at'⟩ l (by omega) h1 (by omega) (by simp only; omega) (by simp only; omega), bnd_mk, grd_mk (by simp only [Int.toNat_natCast]; omega)]
      simp only [Int.toNat_natCast]
    cases hfac : factor r ((l.take b).drop a) with
    | none =>
      rw [hfac] at hT
      obtain ⟨o, ho⟩ := hT
      have hs : stepT r l (buf, at', p) (nth L k Span.zero) = (buf ++ (l.take a).drop p ++ (l.take b).drop a, at' ++ ownD p (a - p) ++ ownD a (b - a), b) := by
        rw [hx]; unfold stepT; simp only [Int.toNat_natCast]; rw [hfac]
      rw [hs]
      refine iter_next (s' := (buf ++ (l.take a).drop p ++ (l.take b).drop a, at' ++ ownD p (a - p) ++ ownD a (b - a), ((b : Nat) : Int), k + 1)) ?_ (turn_loop r hr hb L e l hl m (k + 1) _ _ b (by omega) (by omega) h3 h4 (by simp only [List.length_append, ownD_len]; omega) (by omega) (by simp only [List.length_append]; omega))
      refine (hpre _).2 ?_
      rw [ho, bnd_mk]
      simp only []
      rw [iteO_nf, hx, stay_eq _ l (by omega) (by omega) h3 (by simp only [List.length_append]; omega) (by simp only [List.length_append, ownD_len]; omega), bnd_mk]; rfl
    | some o =>
      rw [hfac] at hT
      have hol := factor_len r hr _ _ hfac
      have hs : stepT r l (buf, at', p) (nth L k Span.zero) = (buf ++ (l.take a).drop p ++ o, at' ++ ownD p (a - p) ++ List.replicate o.length (nth L k Span.zero), b) := by
        rw [hx]; unfold stepT; simp only [Int.toNat_natCast]; rw [hfac]
      rw [hs]
      by_cases c : 4096 < (buf ++ (l.take a).drop p).length + o.length
      · refine iter_done ?_
        refine (hpre _).2 ?_
        rw [hT, bnd_mk]
        simp only []
        rw [iteO_nt, put_eq _ o _ (by omega) (by simp only [List.length_append]; omega) (by simp only [List.length_append, ownD_len]; omega), bnd_mk]
        simp only []
        rw [if_pos c, iteO_nf]
        have hlen := turnT_len r l (L.drop (k + 1)) (buf ++ (l.take a).drop p ++ o, at' ++ ownD p (a - p) ++ List.replicate o.length (nth L k Span.zero), b)
        unfold ansT
        rw [if_pos (by simp only [List.length_append] at hlen c ⊢; omega)]; rfl
      · refine iter_next (s' := (buf ++ (l.take a).drop p ++ o, at' ++ ownD p (a - p) ++ List.replicate o.length (nth L k Span.zero), ((b : Nat) : Int), k + 1)) ?_ (turn_loop r hr hb L e l hl m (k + 1) _ _ b (by omega) (by omega) h3 h4 (by simp only [List.length_append, ownD_len, List.length_replicate]; omega) (by omega) (by simp only [List.length_append] at c ⊢; omega))
        refine (hpre _).2 ?_
        rw [hT, bnd_mk]
        simp only []
        rw [iteO_nt, put_eq _ o _ (by omega) (by simp only [List.length_append]; omega) (by simp only [List.length_append, ownD_len]; omega), bnd_mk]
        simp only []
        rw [if_neg c, iteO_nt, hx]; rfl

theorem tells_out (r : Rule) (h : r.mapped = false) : Tells r (rewrite_how_out ⟨r⟩) := fun w hw => by
  unfold factor; rw [h]
  show rewrite_how_out ⟨r⟩ w = some (r.out, true)
  unfold rewrite_how_out
  rw [grd_mk (by omega)]
theorem tells_by (r : Rule) (h : r.mapped = true) : Tells r (rewrite_how_by ⟨r⟩) := fun w hw => by
  unfold factor; rw [if_pos h]
  unfold rewrite_how_by
  rw [grd_mk (by omega), apply_eq _ _ (by omega), bnd_mk]
  by_cases c1 : (applyQ r.by' w).2.2.1 = true
  · by_cases c2 : (applyQ r.by' w).2.2.2 = 0
    · rw [if_pos ⟨c1, c2⟩, c1, iteO_true, c2]; rfl
    · rw [if_neg (fun h => c2 h.2), c1, iteO_true, decide_eq_false c2]; exact ⟨_, rfl⟩
  · rw [if_neg (fun h => c1 h.1), Bool.eq_false_iff.2 c1]; exact ⟨_, rfl⟩
/-- Is a rule right? -/
def restR (r : Rule) : Bool := bif r.mapped then rightQ r.by' && decide (r.out = []) else decide (r.by'.front = []) && decide (r.by'.next.length = 0) && decide (r.by'.outs.length = 0) && decide (r.by'.fin.length = 0) && decide (r.by'.tail.length = 0) && decide (r.out.length ≤ 256)
def rightR (r : Rule) : Bool := rightD r.of && rightD r.left && rightD r.right && restR r
theorem rcheck_eq (r : Rule) : rewrite_Check r = some (if rightR r = true then 0 else 1) := by
  unfold rewrite_Check
  have h := iter_chk (step := fun q : Nat => rewrite_Check_b1 r q) (good := if restR r = true then 0 else 1) (bad := 1) 3 (fun k => rightD (nth [r.of, r.left, r.right] k Dfa.zero)) ?_ ?_ ?_
  · rw [h]
    have e : (List.range 3).all (fun k => rightD (nth [r.of, r.left, r.right] k Dfa.zero)) = (rightD r.of && rightD r.left && rightD r.right) := by
      simp [List.range_succ, nth, Bool.and_assoc]
    rw [e]
    unfold rightR
    cases rightD r.of && rightD r.left && rightD r.right with
    | false => simp
    | true => rw [if_pos rfl, Bool.true_and]
  · intro k hk hp
    simp only [rewrite_Check_b1]
    rw [iteO_dt (by simp only [List.length_cons, List.length_nil]; omega), check_eq, bnd_mk, hp]; rfl
  · intro k hk hp
    simp only [rewrite_Check_b1]
    rw [iteO_dt (by simp only [List.length_cons, List.length_nil]; omega), check_eq, bnd_mk, hp]; rfl
  · simp only [rewrite_Check_b1]
    rw [iteO_df (by simp only [List.length_cons, List.length_nil]; omega)]
    cases hm : r.mapped with
    | true =>
      rw [iteO_true, seq_Check_eq, bnd_mk]
      have hr : restR r = (rightQ r.by' && decide (r.out = [])) := by simp only [restR, hm, cond_true]
      rw [hr]
      cases rightQ r.by' with
      | false => rfl
      | true =>
        rw [if_pos rfl, iteO_df (by omega), Bool.true_and]
        by_cases c : r.out = []
        · rw [iteO_df (by simp [c]), if_pos (decide_eq_true c)]; rfl
        · rw [iteO_dt c, if_neg (by simp [c])]; rfl
    | false =>
      rw [iteO_false]
      by_cases c1 : r.by'.front = []
      rotate_left
      · rw [iteO_dt c1, if_neg (by simp only [restR, hm, cond_false, decide_eq_false c1, Bool.and_false, Bool.false_and]; exact Bool.false_ne_true)]; rfl
      rw [iteO_df (by simp [c1])]
      by_cases c2 : r.by'.next.length = 0
      rotate_left
      · rw [iteO_dt (by omega), if_neg (by simp only [restR, hm, cond_false, decide_eq_false c2, Bool.and_false, Bool.false_and]; exact Bool.false_ne_true)]; rfl
      rw [iteO_df (by omega)]
      by_cases c3 : r.by'.outs.length = 0
      rotate_left
      · rw [iteO_dt (by omega), if_neg (by simp only [restR, hm, cond_false, decide_eq_false c3, Bool.and_false, Bool.false_and]; exact Bool.false_ne_true)]; rfl
      rw [iteO_df (by omega)]
      by_cases c4 : r.by'.fin.length = 0
      rotate_left
      · rw [iteO_dt (by omega), if_neg (by simp only [restR, hm, cond_false, decide_eq_false c4, Bool.and_false, Bool.false_and]; exact Bool.false_ne_true)]; rfl
      rw [iteO_df (by omega)]
      by_cases c5 : r.by'.tail.length = 0
      rotate_left
      · rw [iteO_dt (by omega), if_neg (by simp only [restR, hm, cond_false, decide_eq_false c5, Bool.and_false, Bool.false_and]; exact Bool.false_ne_true)]; rfl
      rw [iteO_df (by omega)]
      by_cases c6 : r.out.length ≤ 256
      rotate_left
      · rw [iteO_dt (by omega), if_neg (by simp only [restR, hm, cond_false, decide_eq_false c6, Bool.and_false, Bool.false_and]; exact Bool.false_ne_true)]; rfl
      rw [iteO_df (by omega)]
      rw [if_pos (by simp only [restR, hm, cond_false, decide_eq_true c1, decide_eq_true c2, decide_eq_true c3, decide_eq_true c4, decide_eq_true c5, decide_eq_true c6, Bool.and_self])]; rfl
/-- What a rule makes of a text. -/
def turnD (r : Rule) (l : List UInt8) : Piece × Int :=
  if rightR r = true then (if 4096 < l.length then (⟨[], []⟩, 2) else ansT (turnT r l (facD r.of r.left r.right l) ([], [], 0))) else (⟨[], []⟩, 1)
theorem rightR_d {r : Rule} (h : rightR r = true) : rightD r.of = true ∧ rightD r.left = true ∧ rightD r.right = true := by
  simp only [rightR, Bool.and_eq_true] at h; exact ⟨h.1.1.1, h.1.1.2, h.1.2⟩
theorem rightR_out {r : Rule} (h : rightR r = true) : r.out.length ≤ 256 := by
  simp only [rightR, Bool.and_eq_true] at h
  have h2 := h.2
  unfold restR at h2
  cases hm : r.mapped with
  | true => rw [hm] at h2; simp only [cond_true, Bool.and_eq_true, decide_eq_true_eq] at h2; rw [h2.2]; simp
  | false => rw [hm] at h2; simp only [cond_false, Bool.and_eq_true, decide_eq_true_eq] at h2; exact h2.2
theorem wrongF_eq {r : Rule} (h : rightR r = true) (l : List UInt8) : wrongF r.of r.left r.right l = if 4096 < l.length then 2 else 0 := by
  unfold wrongF; rw [if_pos (rightR_d h)]
theorem facD_ok (d x y : Dfa) (l : List UInt8) : FacOk l.length 0 (facD d x y l) := facs_ok d _ _ l l.length 0 (Nat.zero_le _) 0 (Nat.le_refl _)
theorem turn_eq (r : Rule) (l : List UInt8) (hl : l.length ≤ 281474976710656) : rewrite_Turn r l = some (turnD r l) := by
  unfold rewrite_Turn turnD
  rw [grd_mk hl, rcheck_eq, bnd_mk]
  by_cases h : rightR r = true
  · rw [if_pos h, iteO_df (by omega), if_pos h, pfac_eq _ _ _ l hl, bnd_mk, wrongF_eq h]
    by_cases c : 4096 < l.length
    · rw [if_pos c, if_neg (by decide)]
      simp only []
      rw [iteO_dt (by omega), if_pos c]
    · rw [if_neg c, if_pos rfl]
      simp only []
      rw [iteO_df (by omega), if_neg c]
      have hok := facD_ok r.of r.left r.right l
      have ho := rightR_out h
      cases hm : r.mapped with
      | true =>
        rw [iteO_true]
        exact turn_loop r (by omega) (tells_by r hm) (facD r.of r.left r.right l) 0 l (by omega) _ 0 [] [] 0 rfl (Nat.zero_le _) (Nat.zero_le _) hok rfl (Nat.le_refl _) (by simp)
      | false =>
        rw [iteO_false]
        exact turn_loop r (by omega) (tells_out r hm) (facD r.of r.left r.right l) 0 l (by omega) _ 0 [] [] 0 rfl (Nat.zero_le _) (Nat.zero_le _) hok rfl (Nat.le_refl _) (by simp)
  · rw [if_neg h, iteO_dt (by omega), if_neg h]
/-- A text as it stands. -/
def plainD (l : List UInt8) : Piece × Int := if 4096 < l.length then (⟨[], []⟩, 2) else (⟨l, ownD 0 l.length⟩, 0)
theorem plain_eq (l : List UInt8) (hl : l.length ≤ 281474976710656) : rewrite_Plain l = some (plainD l) := by
  unfold rewrite_Plain plainD
  rw [grd_mk hl]
  by_cases c : 4096 < l.length
  · rw [iteO_dt (by omega), if_pos c]
  · rw [iteO_df (by omega), if_neg c]
    have := stay_eq ⟨⟨[]⟩, []⟩ l (by omega) (a := 0) (b := l.length) (Nat.zero_le _) (Nat.le_refl _) (by simp) (by simp)
    rw [show (((0 : Nat) : Int)) = 0 from rfl] at this
    rw [this, bnd_mk]
    simp only [List.take_length, List.drop_zero, List.nil_append, Nat.sub_zero]
    rfl
end Go.Proofs.YtmfclggfajopkaaGreatDoor
end
