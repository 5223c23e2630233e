/- Parts of a proof, one behind the other: what a machine reaches, functions decompiled, plain lemmas. Conditions stand with each lemma. -/
import Derived.Test.YtmfclggfajopkaaGreatDoorB7934b6a072
import Derived.Test.YtmfclggfajopkaaGreatDoorBbf87f2988f
import Derived.Test.YtmfclggfajopkaaGreatDoorB8366a78a2d
import Derived.Test.YtmfclggfajopkaaGreatDoorB1d1c4f1c10
import Derived.KernelRfl

/- R10 -/
section
/- Decompiled: the reference's rules. -/
set_option linter.unusedVariables false
set_option linter.unusedSimpArgs false
namespace Go.Proofs.YtmfclggfajopkaaGreatDoor
open Go Go.E Go.E.OpVal Go.E.OpOk Go.Proofs.Tryz
set_option maxRecDepth 100000
private theorem ag23 : Go.E.aggOf Tryz.prog 23 = some false := by kernel_rfl
private theorem ag24 : Go.E.aggOf Tryz.prog 24 = some false := by kernel_rfl
private theorem ag26 : Go.E.aggOf Tryz.prog 26 = some true := by kernel_rfl
private theorem ag27 : Go.E.aggOf Tryz.prog 27 = some false := by kernel_rfl
private theorem ag28 : Go.E.aggOf Tryz.prog 28 = some false := by kernel_rfl
private theorem ag30 : Go.E.aggOf Tryz.prog 30 = some true := by kernel_rfl
private theorem ag32 : Go.E.aggOf Tryz.prog 32 = some true := by kernel_rfl
private theorem ag34 : Go.E.aggOf Tryz.prog 34 = some false := by kernel_rfl
private theorem ag36 : Go.E.aggOf Tryz.prog 36 = some true := by kernel_rfl
private theorem ag56 : Go.E.aggOf Tryz.prog 56 = some true := by kernel_rfl
private theorem ag9 : Go.E.aggOf Tryz.prog 9 = some false := by kernel_rfl
private theorem by56 : Go.E.byOf Tryz.prog 56 = some 16 := by kernel_rfl
private theorem fo30_0 : Go.E.foOf Tryz.prog 30 0 = some 0 := by kernel_rfl
private theorem fo30_1 : Go.E.foOf Tryz.prog 30 1 = some 1 := by kernel_rfl
private theorem fo30_2 : Go.E.foOf Tryz.prog 30 2 = some 2 := by kernel_rfl
private theorem fo30_3 : Go.E.foOf Tryz.prog 30 3 = some 3 := by kernel_rfl
private theorem fo30_4 : Go.E.foOf Tryz.prog 30 4 = some 4 := by kernel_rfl
private theorem fo32_0 : Go.E.foOf Tryz.prog 32 0 = some 0 := by kernel_rfl
private theorem fo32_1 : Go.E.foOf Tryz.prog 32 1 = some 3 := by kernel_rfl
private theorem fo32_2 : Go.E.foOf Tryz.prog 32 2 = some 6 := by kernel_rfl
private theorem fo32_3 : Go.E.foOf Tryz.prog 32 3 = some 9 := by kernel_rfl
private theorem fo32_4 : Go.E.foOf Tryz.prog 32 4 = some 10 := by kernel_rfl
private theorem fo32_5 : Go.E.foOf Tryz.prog 32 5 = some 11 := by kernel_rfl
private theorem fo36_0 : Go.E.foOf Tryz.prog 36 0 = some 0 := by kernel_rfl
private theorem fo36_1 : Go.E.foOf Tryz.prog 36 1 = some 1 := by kernel_rfl
private theorem fo56_0 : Go.E.foOf Tryz.prog 56 0 = some 0 := by kernel_rfl
private theorem fo56_1 : Go.E.foOf Tryz.prog 56 1 = some 1 := by kernel_rfl
private theorem pf34 : Go.E.plainF Tryz.prog 34 = true := by kernel_rfl
private theorem pf35 : Go.E.plainF Tryz.prog 35 = true := by kernel_rfl
private theorem pf36 : Go.E.plainF Tryz.prog 36 = true := by kernel_rfl
private theorem pf37 : Go.E.plainF Tryz.prog 37 = true := by kernel_rfl
private theorem pf66 : Go.E.plainF Tryz.prog 66 = true := by kernel_rfl
private theorem pf67 : Go.E.plainF Tryz.prog 67 = true := by kernel_rfl
private theorem pf71 : Go.E.plainF Tryz.prog 71 = true := by kernel_rfl
private theorem pl36 : Go.E.plOf Tryz.prog 36 = some #[(0, 1), (1, 1)] := by kernel_rfl
private theorem pl56 : Go.E.plOf Tryz.prog 56 = some #[(0, 1), (1, 1)] := by kernel_rfl
private theorem sz22 : Go.E.szOf Tryz.prog 22 = some 1 := by kernel_rfl
private theorem sz26 : Go.E.szOf Tryz.prog 26 = some 3 := by kernel_rfl
private theorem sz28 : Go.E.szOf Tryz.prog 28 = some 1 := by kernel_rfl
private theorem sz30 : Go.E.szOf Tryz.prog 30 = some 5 := by kernel_rfl
private theorem sz32 : Go.E.szOf Tryz.prog 32 = some 16 := by kernel_rfl
private theorem sz34 : Go.E.szOf Tryz.prog 34 = some 1 := by kernel_rfl
private theorem sz36 : Go.E.szOf Tryz.prog 36 = some 2 := by kernel_rfl
private theorem sz56 : Go.E.szOf Tryz.prog 56 = some 2 := by kernel_rfl
private theorem sz9 : Go.E.szOf Tryz.prog 9 = some 1 := by kernel_rfl
private theorem ze30 : Go.E.zeroOf Tryz.prog 30 = some (.agg #[.string ByteArray.empty, .slice none 0 0, .slice none 0 0, .slice none 0 0, .slice none 0 0]) := by kernel_rfl
private theorem ze36 : Go.E.zeroOf Tryz.prog 36 = some (.agg #[.string ByteArray.empty, .slice none 0 0]) := by kernel_rfl
private theorem ze56 : Go.E.zeroOf Tryz.prog 56 = some (.agg #[.int .i64 0, .int .i64 0]) := by kernel_rfl

noncomputable def whittleref21_Right_j3 (k123 : Nat) : Option ((Nat) ⊕ ((Nat) ⊕ (Bool))) :=
 nxt (k123 + 1)
noncomputable def whittleref21_Right_b2 (x0 : Seq) (k112 : Nat) (k123 : Nat) : Option ((Nat) ⊕ ((Nat) ⊕ (Bool))) :=
 iteO (decide (((k123 : Nat) : Int) < 256)) (grd (k123 < (nth x0.next k112 ([] : List Int)).length) (grd (k112 < x0.outs.length) (grd (k123 < (nth x0.outs k112 ([] : List (List UInt8))).length) (iteO (decide ((nth (nth x0.next k112 ([] : List Int)) k123 (0 : Int)) < (-1))) (fin (fin (some false))) (iteO (decide (((x0.next.length : Nat) : Int) ≤ (nth (nth x0.next k112 ([] : List Int)) k123 (0 : Int)))) (fin (fin (some false))) (iteO (decide ((nth (nth x0.next k112 ([] : List Int)) k123 (0 : Int)) = (-1))) (iteO (decide ((nth (nth x0.outs k112 ([] : List (List UInt8))) k123 ([] : List UInt8)) ≠ ([] : List UInt8))) (fin (fin (some false))) (iteO (decide (4096 < (((nth (nth x0.outs k112 ([] : List (List UInt8))) k123 ([] : List UInt8)).length : Nat) : Int))) (fin (fin (some false))) (whittleref21_Right_j3 k123))) (iteO (decide (4096 < (((nth (nth x0.outs k112 ([] : List (List UInt8))) k123 ([] : List UInt8)).length : Nat) : Int))) (fin (fin (some false))) (whittleref21_Right_j3 k123)))))))) (fin (nxt (k112 + 1)))
noncomputable def whittleref21_Right_j2 (x0 : Seq) (k112 : Nat) : Option ((Nat) ⊕ (Bool)) :=
 iter (fun q : Nat => whittleref21_Right_b2 x0 k112 q) 0
noncomputable def whittleref21_Right_b1 (x0 : Seq) (k112 : Nat) : Option ((Nat) ⊕ (Bool)) :=
 iteO (decide (((k112 : Nat) : Int) < ((x0.next.length : Nat) : Int))) (iteO (decide ((((nth x0.next k112 ([] : List Int)).length : Nat) : Int) ≠ 256)) (fin (some false)) (grd (k112 < x0.outs.length) (iteO (decide ((((nth x0.outs k112 ([] : List (List UInt8))).length : Nat) : Int) ≠ 256)) (fin (some false)) (grd (k112 < x0.tail.length) (iteO (decide (4096 < (((nth x0.tail k112 ([] : List UInt8)).length : Nat) : Int))) (fin (some false)) (grd (k112 < x0.fin.length) (iteO (!(nth x0.fin k112 false)) (grd (k112 < x0.tail.length) (iteO (decide ((nth x0.tail k112 ([] : List UInt8)) ≠ ([] : List UInt8))) (fin (some false)) (whittleref21_Right_j2 x0 k112))) (whittleref21_Right_j2 x0 k112)))))))) (fin (some true))
noncomputable def whittleref21_Right_j1 (x0 : Seq) : Option (Bool) :=
 iter (fun q : Nat => whittleref21_Right_b1 x0 q) 0
noncomputable def whittleref21_Right (x0 : Seq) : Option (Bool) :=
 iteO (decide (1024 < ((x0.next.length : Nat) : Int))) (some false) (iteO (decide (((x0.outs.length : Nat) : Int) ≠ ((x0.next.length : Nat) : Int))) (some false) (iteO (decide (((x0.fin.length : Nat) : Int) ≠ ((x0.next.length : Nat) : Int))) (some false) (iteO (decide (((x0.tail.length : Nat) : Int) ≠ ((x0.next.length : Nat) : Int))) (some false) (iteO (decide (4096 < ((x0.front.length : Nat) : Int))) (some false) (iteO (decide (((x0.next.length : Nat) : Int) = 0)) (iteO (decide (x0.front ≠ ([] : List UInt8))) (some false) (whittleref21_Right_j1 x0)) (whittleref21_Right_j1 x0))))))
theorem whittleref21_Right_con {σ : Store} {x0 : Seq} {a0_0 : Option Addr} {c0_0 : Nat} {a0_1 : Option Addr} {c0_1 : Nat} {a0_2 : Option Addr} {c0_2 : Nat} {a0_3 : Option Addr} {c0_3 : Nat} (f0_0 : RZ σ (pkSl 1 Go.E.encI Go.E.encI_len) (.slice a0_0 x0.next.length c0_0) x0.next) (f0_1 : RZ σ (pkSl 1 Go.E.encS Go.E.encS_len) (.slice a0_1 x0.outs.length c0_1) x0.outs) (f0_2 : RS σ 1 encB (.slice a0_2 x0.fin.length c0_2) x0.fin) (f0_3 : RS σ 1 Go.E.encS (.slice a0_3 x0.tail.length c0_3) x0.tail) {r : Bool} (hh : whittleref21_Right x0 = some r) :
  Con Tryz.prog 67 #[.agg #[.string (bs x0.front), .slice a0_0 x0.next.length c0_0, .slice a0_1 x0.outs.length c0_1, .slice a0_2 x0.fin.length c0_2, .slice a0_3 x0.tail.length c0_3]] σ [] (PureP (.bool r) σ) := by
 dsimp only [whittleref21_Right] at hh
 have f0_0b := f0_0.big
 have f0_1b := f0_1.big
 have f0_2b := f0_2.rv.big
 have f0_3b := f0_3.rv.big
 refine Con.mk (n := 135) Tryz.func67 z z z (fun w0 => ?_)
 refine TC.a (TL.op z (boxA z z z z (fun b101 => ?_)))
 refine TL.j z z (TL.en (TC.a (TL.w z (fieldLoc z fo30_1 z) (TL.w z (loadLoc z ag23 z (i := 0) z z) (TL.w z (lenC z underlying23 z) (TL.i z z (TL.en (TC.cutG (α := (Unit) × (Unit)) (rgs [(2, 1), (11, 38)]) (fun g => []) (fun g => [Res.cells b101 #[.string (bs x0.front), .slice a0_0 x0.next.length c0_0, .slice a0_1 x0.outs.length c0_1, .slice a0_2 x0.fin.length c0_2, .slice a0_3 x0.tail.length c0_3] 30]) (fun g => σ) (fun g => whittleref21_Right_j1 x0 = some r) ?_ (fun g j hg => ?_)))))))))
 ·skip
  refine TC.a (TL.i z z (TL.w z (OpVal.gtr z z z) (TL.j z z (TL.split 13 z (fun h103 => ?_) (fun h103 => ?_)))))
  ·replace hh := iteO_t h103 hh
   replace h103 := of_decide_eq_true h103
   refine TL.f z (TL.f z (TL.f z (TL.f z (TL.f z (TL.w z (pickTB z z z) (TL.j z z (TL.f z (TL.f z (TL.f z (TL.f z (TL.f z (TL.w z (pickTB z z z) (TL.j z z (TL.f z (TL.f z ?_)))))))))))))))
   refine TL.f z (TL.f z (TL.f z (TL.w z (pickTB z z z) (TL.j z z (TL.f z (TL.f z (TL.f z (TL.f z (TL.w z (pickTB z z z) (TL.j z z (TL.f z (TL.f z (TL.f z (TL.f z (TL.f z ?_)))))))))))))))
   refine TL.f z (TL.f z (TL.w z (pickTB z z z) (TL.en (TC.t z (TC.a (TL.j z z (TL.en (TC.rt 0 (S.r ?_)))))))))
   obtain rfl := so hh
   exact rq [2] ⟨z, z, z⟩
  ·replace hh := iteO_f h103 hh
   replace h103 := of_decide_eq_false h103
   refine TL.g z (fieldLoc z fo30_2 z) (TL.g z (loadLoc z ag27 z (i := 0) z z) (TL.g z (lenC z underlying27 z) (TL.g z (moveI (.inl z) z) (TL.g z (OpVal.neq z z z) (TL.w z (pickFB z z z) (TL.j z z (TL.split 20 z (fun h104 => ?_) (fun h104 => ?_))))))))
   ·replace hh := iteO_t h104 hh
    replace h104 := of_decide_eq_true h104
    refine TL.f z (TL.f z (TL.f z (TL.f z (TL.f z (TL.w z (pickTB z z z) (TL.j z z (TL.f z (TL.f z (TL.f z (TL.f z (TL.f z (TL.w z (pickTB z z z) (TL.j z z (TL.f z (TL.f z ?_)))))))))))))))
    refine TL.f z (TL.f z (TL.w z (pickTB z z z) (TL.j z z (TL.f z (TL.f z (TL.f z (TL.f z (TL.f z (TL.f z (TL.f z (TL.w z (pickTB z z z) (TL.en (TC.t z (TC.a (TL.j z z ?_)))))))))))))))
    refine TL.en (TC.rt 0 (S.r ?_))
    obtain rfl := so hh
    exact rq [2] ⟨z, z, z⟩
   ·replace hh := iteO_f h104 hh
    replace h104 := of_decide_eq_false h104
    refine TL.g z (fieldLoc z fo30_3 z) (TL.g z (loadLoc z ag24 z (i := 0) z z) (TL.g z (lenC z underlying24 z) (TL.g z (moveI (.inl z) z) (TL.g z (OpVal.neq z z z) (TL.w z (pickFB z z z) (TL.j z z (TL.split 27 z (fun h105 => ?_) (fun h105 => ?_))))))))
    ·replace hh := iteO_t h105 hh
     replace h105 := of_decide_eq_true h105
     refine TL.f z (TL.f z (TL.f z (TL.f z (TL.f z (TL.w z (pickTB z z z) (TL.j z z (TL.f z (TL.f z (TL.f z (TL.f z (TL.w z (pickTB z z z) (TL.j z z (TL.f z (TL.f z (TL.f z ?_)))))))))))))))
     refine TL.f z (TL.f z (TL.f z (TL.f z (TL.w z (pickTB z z z) (TL.en (TC.t z (TC.a (TL.j z z (TL.en (TC.rt 0 (S.r ?_)))))))))))
     obtain rfl := so hh
     exact rq [2] ⟨z, z, z⟩
    ·replace hh := iteO_f h105 hh
     replace h105 := of_decide_eq_false h105
     refine TL.g z (fieldLoc z fo30_4 z) (TL.g z (loadLoc z ag28 z (i := 0) z z) (TL.g z (lenC z underlying28 z) (TL.g z (moveI (.inl z) z) (TL.g z (OpVal.neq z z z) (TL.w z (pickFB z z z) (TL.j z z (TL.split 34 z (fun h106 => ?_) (fun h106 => ?_))))))))
     ·replace hh := iteO_t h106 hh
      replace h106 := of_decide_eq_true h106
      refine TL.f z (TL.f z (TL.f z (TL.f z (TL.w z (pickTB z z z) (TL.j z z (TL.f z (TL.f z (TL.f z (TL.f z (TL.f z (TL.f z (TL.f z (TL.w z (pickTB z z z) (TL.en (TC.t z ?_)))))))))))))))
      refine TC.a (TL.j z z (TL.en (TC.rt 0 (S.r ?_))))
      obtain rfl := so hh
      exact rq [2] ⟨z, z, z⟩
     ·replace hh := iteO_f h106 hh
      replace h106 := of_decide_eq_false h106
      refine TL.g z (fieldLoc z fo30_0 z) (TL.g z (loadLoc z ag9 z (i := 0) z z) (TL.g z (lenBs z underlying9 z) (TL.g z (OpVal.gtr z z z) (TL.w z (pickFB z z z) (TL.j z z (TL.split 40 z (fun h107 => ?_) (fun h107 => ?_)))))))
      ·replace hh := iteO_t h107 hh
       replace h107 := of_decide_eq_true h107
       refine TL.f z (TL.f z (TL.f z (TL.f z (TL.f z (TL.f z (TL.f z (TL.w z (pickTB z z z) (TL.en (TC.t z (TC.a (TL.j z z (TL.en (TC.rt 0 (S.r ?_))))))))))))))
       obtain rfl := so hh
       exact rq [2] ⟨z, z, z⟩
      ·replace hh := iteO_f h107 hh
       replace h107 := of_decide_eq_false h107
       refine TL.g z (moveI (.inl z) z) (TL.g z (OpVal.eql z z z) (TL.g z (moveB (.inl z) z) (TL.split 43 z (fun h108 => ?_) (fun h108 => ?_))))
       ·replace hh := iteO_t h108 hh
        replace h108 := of_decide_eq_true h108
        refine TL.g z (fieldLoc z fo30_0 z) (TL.g z (loadLoc z ag9 z (i := 0) z z) (TL.g z (neqBs z z z) (TL.g z (pickTB z z z) (TL.w z (pickFB z z z) (TL.en (TC.cD z hh (fun h109 hh => ?_) (fun h109 hh => ?_)))))))
        ·refine TC.a (TL.j z z (TL.en (TC.rt 0 (S.r ?_))))
         obtain rfl := so hh
         exact rq [2] ⟨z, z, z⟩
        ·exact TC.skip (S.n (cf ((), ()) hh (Sub.pre 1 z)))
       ·replace hh := iteO_f h108 hh
        replace h108 := of_decide_eq_false h108
        exact TL.f z (TL.f z (TL.f z (TL.g z (pickFB z z z) (TL.w z (pickFB z z z) (TL.en (TC.f z (TC.skip (S.n (cf ((), ()) hh (Sub.pre 1 z))))))))))
 ·skip
  obtain ⟨_, _⟩ := g
  have hh := hg; clear hg
  try dsimp only
  dsimp only [whittleref21_Right_j1] at hh
  refine TC.seq (TC.a (TL.i z z (TL.en (TC.block (TC.loopG (α := (Nat) × (Unit)) (rgs [(2, 1), (4, 4), (49, 86)]) (fun g => [(4, .int .i64 ((g.1 : Nat) : Int))]) (fun g => [Res.cells b101 #[.string (bs x0.front), .slice a0_0 x0.next.length c0_0, .slice a0_1 x0.outs.length c0_1, .slice a0_2 x0.fin.length c0_2, .slice a0_3 x0.tail.length c0_3] 30]) (fun g => σ) (fun g => iter (fun q : Nat => whittleref21_Right_b1 x0 q) g.1 = some r) (fun g => rounds (fun q : Nat => whittleref21_Right_b1 x0 q) g.1) (0, ()) (Sub.pre 1 z) z (by repeat (first | exact trivial | refine ⟨z, ?_⟩)) hh (fun g1 j1 hg1 => ?_))))))
  obtain ⟨k112, _⟩ := g1
  have hh := hg1; clear hg1
  try dsimp only
  obtain ⟨z1, hh, hR1⟩ := iter_e hh
  dsimp only [whittleref21_Right_b1] at hh
  refine TC.seq (TC.a (TL.i z z (TL.i z z (TL.w z (OpVal.lss z z z) (TL.en (TC.cD z hh (fun h113 hh => ?_) (fun h113 hh => ?_)))))))
  ·refine TC.skip (S.n (TC.seq (TC.block (TC.cutG (α := (Unit) × (Unit)) (rgs [(2, 1), (54, 41)]) (fun g => []) (fun g => [Res.cells b101 #[.string (bs x0.front), .slice a0_0 x0.next.length c0_0, .slice a0_1 x0.outs.length c0_1, .slice a0_2 x0.fin.length c0_2, .slice a0_3 x0.tail.length c0_3] 30]) (fun g => σ) (fun g => whittleref21_Right_j2 x0 k112 = some z1) ?_ (fun g j hg => ?_)))))
   ·skip
    refine TC.a (TL.w z (fieldLoc z fo30_1 z) (TL.w z (loadLoc z ag23 z (i := 0) z z) (TL.i z z (TL.w z (indexN z underlying23 sz22 z z f0_0.isSl (by omega)) ?_))))
    obtain ⟨p114, hk114, hg114⟩ := RZ.seg f0_0 k112 (by omega)
    replace hk114 : RS _ 1 Go.E.encI (.slice p114.1 (nth x0.next k112 ([] : List Int)).length p114.2) (nth x0.next k112 ([] : List Int)) := hk114
    have hk114b := hk114.rv.big
    refine TL.w z (OpVal.of (loadSeg0 z ag22 z hg114 z) (v' := .slice p114.1 ((nth x0.next k112 ([] : List Int)).length) p114.2) z) (TL.w z (lenC z underlying22 z) (TL.w z (OpVal.neq z z z) (TL.j z z (TL.split 61 z (fun h115 => ?_) (fun h115 => ?_)))))
    ·replace hh := iteO_t h115 hh
     replace h115 := of_decide_eq_true h115
     refine TL.f z (TL.f z (TL.f z (TL.f z (TL.f z (TL.f z (TL.f z (TL.w z (pickTB z z z) (TL.j z z (TL.f z (TL.f z (TL.f z (TL.f z (TL.f z (TL.f z (TL.f z ?_)))))))))))))))
     refine TL.w z (pickTB z z z) (TL.j z z (TL.f z (TL.f z (TL.f z (TL.f z (TL.f z (TL.f z (TL.f z (TL.f z (TL.f z (TL.f z (TL.f z (TL.f z (TL.f z (TL.f z ?_)))))))))))))))
     refine TL.w z (pickTB z z z) (TL.en (TC.t z (TC.a (TL.j z z (TL.en (TC.rt 0 (S.r (B.r (S.r (S.r ?_))))))))))
     replace hh := fin_x hR1 hh
     refine B.r (S.r ?_)
     obtain rfl := so hh
     exact rq [2] ⟨z, z, z⟩
    ·replace hh := iteO_f h115 hh
     replace h115 := of_decide_eq_false h115
     refine TL.g z (fieldLoc z fo30_2 z) (TL.g z (loadLoc z ag27 z (i := 0) z z) (TL.g z (moveI (.inl z) z) ?_))
     have u61 := grd_c hh
     replace hh := grd_t hh
     refine TL.g z (indexN z underlying27 sz28 z z f0_1.isSl (by omega)) ?_
     obtain ⟨p116, hk116, hg116⟩ := RZ.seg f0_1 k112 (by omega)
     replace hk116 : RS _ 1 Go.E.encS (.slice p116.1 (nth x0.outs k112 ([] : List (List UInt8))).length p116.2) (nth x0.outs k112 ([] : List (List UInt8))) := hk116
     have hk116b := hk116.rv.big
     refine TL.g z (OpVal.of (loadSeg0 z ag28 z hg116 z) (v' := .slice p116.1 ((nth x0.outs k112 ([] : List (List UInt8))).length) p116.2) z) (TL.g z (lenC z underlying28 z) (TL.g z (OpVal.neq z z z) (TL.w z (pickFB z z z) (TL.j z z (TL.split 70 z (fun h117 => ?_) (fun h117 => ?_))))))
     ·replace hh := iteO_t h117 hh
      replace h117 := of_decide_eq_true h117
      refine TL.f z (TL.f z (TL.f z (TL.f z (TL.f z (TL.f z (TL.f z (TL.w z (pickTB z z z) (TL.j z z (TL.f z (TL.f z (TL.f z (TL.f z (TL.f z (TL.f z (TL.f z ?_)))))))))))))))
      refine TL.f z (TL.f z (TL.f z (TL.f z (TL.f z (TL.f z (TL.f z (TL.w z (pickTB z z z) (TL.en (TC.t z (TC.a (TL.j z z (TL.en (TC.rt 0 (S.r (B.r ?_)))))))))))))))
      refine S.r (S.r ?_)
      replace hh := fin_x hR1 hh
      refine B.r (S.r ?_)
      obtain rfl := so hh
      exact rq [2] ⟨z, z, z⟩
     ·replace hh := iteO_f h117 hh
      replace h117 := of_decide_eq_false h117
      refine TL.g z (fieldLoc z fo30_4 z) (TL.g z (loadLoc z ag28 z (i := 0) z z) (TL.g z (moveI (.inl z) z) ?_))
      have u70 := grd_c hh
      replace hh := grd_t hh
      refine TL.g z (indexN z underlying28 sz9 z z f0_3.rv.sl (by omega)) (TL.g z (loadS1 ([] : List UInt8) z ag9 z f0_3 (by omega) z) (TL.g z (lenBs z underlying9 z) (TL.g z (OpVal.gtr z z z) (TL.w z (pickFB z z z) (TL.j z z (TL.split 79 z (fun h118 => ?_) (fun h118 => ?_)))))))
      ·replace hh := iteO_t h118 hh
       replace h118 := of_decide_eq_true h118
       refine TL.f z (TL.f z (TL.f z (TL.f z (TL.f z (TL.f z (TL.f z (TL.f z (TL.f z (TL.f z (TL.f z (TL.f z (TL.f z (TL.f z (TL.w z (pickTB z z z) (TL.en ?_)))))))))))))))
       refine TC.t z (TC.a (TL.j z z (TL.en (TC.rt 0 (S.r (B.r (S.r (S.r ?_))))))))
       replace hh := fin_x hR1 hh
       refine B.r (S.r ?_)
       obtain rfl := so hh
       exact rq [2] ⟨z, z, z⟩
      ·replace hh := iteO_f h118 hh
       replace h118 := of_decide_eq_false h118
       refine TL.g z (fieldLoc z fo30_3 z) (TL.g z (loadLoc z ag24 z (i := 0) z z) (TL.g z (moveI (.inl z) z) ?_))
       have u79 := grd_c hh
       replace hh := grd_t hh
       refine TL.g z (indexN z underlying24 sz4 z z f0_2.rv.sl (by omega)) (TL.g z (loadS1 false z ag4 z f0_2 (by omega) z) (TL.g z (OpVal.not z z) (TL.g z (moveB (.inl z) z) (TL.split 86 z (fun h119 => ?_) (fun h119 => ?_)))))
       ·replace hh := iteO_t h119 hh
        refine TL.g z (fieldLoc z fo30_4 z) (TL.g z (loadLoc z ag28 z (i := 0) z z) (TL.g z (moveI (.inl z) z) ?_))
        have u86 := grd_c hh
        replace hh := grd_t hh
        refine TL.g z (indexN z underlying28 sz9 z z f0_3.rv.sl (by omega)) (TL.g z (loadS1 ([] : List UInt8) z ag9 z f0_3 (by omega) z) (TL.g z (neqBs z z z) (TL.g z (pickTB z z z) (TL.w z (pickFB z z z) (TL.en (TC.cD z hh (fun h120 hh => ?_) (fun h120 hh => ?_)))))))
        ·refine TC.a (TL.j z z (TL.en (TC.rt 0 (S.r (B.r (S.r (S.r ?_)))))))
         replace hh := fin_x hR1 hh
         refine B.r (S.r ?_)
         obtain rfl := so hh
         exact rq [2] ⟨z, z, z⟩
        ·exact TC.skip (S.n (cf ((), ()) hh (Sub.pre 1 z)))
       ·replace hh := iteO_f h119 hh
        exact TL.f z (TL.f z (TL.f z (TL.f z (TL.f z (TL.f z (TL.g z (pickFB z z z) (TL.w z (pickFB z z z) (TL.en (TC.f z (TC.skip (S.n (cf ((), ()) hh (Sub.pre 1 z)))))))))))))
   ·skip
    obtain ⟨_, _⟩ := g
    have hh := hg; clear hg
    try dsimp only
    dsimp only [whittleref21_Right_j2] at hh
    refine TC.a (TL.i z z (TL.en (TC.block (TC.loopG (α := (Nat) × (Unit)) (rgs [(2, 1), (5, 3), (95, 40)]) (fun g => [(5, .int .i64 ((g.1 : Nat) : Int))]) (fun g => [Res.cells b101 #[.string (bs x0.front), .slice a0_0 x0.next.length c0_0, .slice a0_1 x0.outs.length c0_1, .slice a0_2 x0.fin.length c0_2, .slice a0_3 x0.tail.length c0_3] 30]) (fun g => σ) (fun g => iter (fun q : Nat => whittleref21_Right_b2 x0 k112 q) g.1 = some z1) (fun g => rounds (fun q : Nat => whittleref21_Right_b2 x0 k112 q) g.1) (0, ()) (Sub.pre 1 z) z (by repeat (first | exact trivial | refine ⟨z, ?_⟩)) hh (fun g2 j2 hg2 => ?_)))))
    obtain ⟨k123, _⟩ := g2
    have hh := hg2; clear hg2
    try dsimp only
    obtain ⟨z2, hh, hR2⟩ := iter_e hh
    dsimp only [whittleref21_Right_b2] at hh
    refine TC.seq (TC.a (TL.i z z (TL.w z (OpVal.lss z z z) (TL.en (TC.cD z hh (fun h124 hh => ?_) (fun h124 hh => ?_))))))
    ·refine TC.skip (S.n (TC.cutG (α := (Unit) × (Unit)) (rgs [(2, 1), (6, 2), (99, 36)]) (fun g => []) (fun g => [Res.cells b101 #[.string (bs x0.front), .slice a0_0 x0.next.length c0_0, .slice a0_1 x0.outs.length c0_1, .slice a0_2 x0.fin.length c0_2, .slice a0_3 x0.tail.length c0_3] 30]) (fun g => σ) (fun g => whittleref21_Right_j3 k123 = some z2) ?_ (fun g j hg => ?_)))
     ·skip
      refine TC.block (TC.a (TL.w z (fieldLoc z fo30_1 z) (TL.w z (loadLoc z ag23 z (i := 0) z z) (TL.i z z (TL.w z (indexN z underlying23 sz22 z z f0_0.isSl (by omega)) ?_)))))
      obtain ⟨p125, hk125, hg125⟩ := RZ.seg f0_0 k112 (by omega)
      replace hk125 : RS _ 1 Go.E.encI (.slice p125.1 (nth x0.next k112 ([] : List Int)).length p125.2) (nth x0.next k112 ([] : List Int)) := hk125
      have hk125b := hk125.rv.big
      refine TL.w z (OpVal.of (loadSeg0 z ag22 z hg125 z) (v' := .slice p125.1 ((nth x0.next k112 ([] : List Int)).length) p125.2) z) (TL.i z z ?_)
      have u101 := grd_c hh
      replace hh := grd_t hh
      refine TL.w z (indexN z underlying22 sz3 z z hk125.rv.sl (by omega)) (TL.w z (loadS1 (0 : Int) z ag3 z hk125 (by omega) z) (TL.i z z (TL.en (TC.a (TL.w z (fieldLoc z fo30_2 z) (TL.w z (loadLoc z ag27 z (i := 0) z z) (TL.i z z ?_)))))))
      have u107 := grd_c hh
      replace hh := grd_t hh
      refine TL.w z (indexN z underlying27 sz28 z z f0_1.isSl (by omega)) ?_
      obtain ⟨p126, hk126, hg126⟩ := RZ.seg f0_1 k112 (by omega)
      replace hk126 : RS _ 1 Go.E.encS (.slice p126.1 (nth x0.outs k112 ([] : List (List UInt8))).length p126.2) (nth x0.outs k112 ([] : List (List UInt8))) := hk126
      have hk126b := hk126.rv.big
      refine TL.w z (OpVal.of (loadSeg0 z ag28 z hg126 z) (v' := .slice p126.1 ((nth x0.outs k112 ([] : List (List UInt8))).length) p126.2) z) (TL.i z z ?_)
      have u110 := grd_c hh
      replace hh := grd_t hh
      refine TL.w z (indexN z underlying28 sz9 z z hk126.rv.sl (by omega)) (TL.w z (loadS1 ([] : List UInt8) z ag9 z hk126 (by omega) z) (TL.w z (moveStr (.inr z) z) (TL.en (TC.a (TL.i z z (TL.w z (OpVal.lss z z z) (TL.j z z (TL.split 117 z (fun h127 => ?_) (fun h127 => ?_)))))))))
      ·replace hh := iteO_t h127 hh
       replace h127 := of_decide_eq_true h127
       refine TL.f z (TL.f z (TL.f z (TL.w z (pickTB z z z) (TL.j z z (TL.f z (TL.f z (TL.f z (TL.f z (TL.f z (TL.f z (TL.w z (pickTB z z z) (TL.j z z (TL.f z (TL.f z (TL.f z ?_)))))))))))))))
       refine TL.w z (pickTB z z z) (TL.en (TC.t z (TC.a (TL.j z z (TL.en (TC.rt 0 (B.r (S.r (S.r ?_)))))))))
       replace hh := fin_x hR2 hh
       refine B.r (B.r (S.r (S.r ?_)))
       replace hh := fin_x hR1 hh
       refine B.r (S.r ?_)
       obtain rfl := so hh
       exact rq [2] ⟨z, z, z⟩
      ·replace hh := iteO_f h127 hh
       replace h127 := of_decide_eq_false h127
       refine TL.g z (moveI (.inl z) z) (TL.g z (moveI (.inl z) z) (TL.g z (OpVal.geq z z z) (TL.w z (pickFB z z z) (TL.j z z (TL.split 122 z (fun h128 => ?_) (fun h128 => ?_))))))
       ·replace hh := iteO_t h128 hh
        replace h128 := of_decide_eq_true h128
        refine TL.f z (TL.f z (TL.f z (TL.f z (TL.f z (TL.f z (TL.w z (pickTB z z z) (TL.j z z (TL.f z (TL.f z (TL.f z (TL.w z (pickTB z z z) (TL.en (TC.t z (TC.a (TL.j z z ?_)))))))))))))))
        refine TL.en (TC.rt 0 (B.r (S.r (S.r ?_))))
        replace hh := fin_x hR2 hh
        refine B.r (B.r (S.r (S.r ?_)))
        replace hh := fin_x hR1 hh
        refine B.r (S.r ?_)
        obtain rfl := so hh
        exact rq [2] ⟨z, z, z⟩
       ·replace hh := iteO_f h128 hh
        replace h128 := of_decide_eq_false h128
        refine TL.g z (moveI (.inl z) z) (TL.g z (OpVal.eql z z z) (TL.g z (moveB (.inl z) z) (TL.split 125 z (fun h129 => ?_) (fun h129 => ?_))))
        ·replace hh := iteO_t h129 hh
         replace h129 := of_decide_eq_true h129
         refine TL.g z (moveStr (.inl z) z) (TL.g z (neqBs z z z) (TL.g z (pickTB z z z) (TL.w z (pickFB z z z) (TL.j z z (TL.split 130 z (fun h130 => ?_) (fun h130 => ?_))))))
         ·replace hh := iteO_t h130 hh
          replace h130 := of_decide_eq_true h130
          refine TL.f z (TL.f z (TL.f z (TL.w z (pickTB z z z) (TL.en (TC.t z (TC.a (TL.j z z (TL.en (TC.rt 0 (B.r (S.r (S.r ?_))))))))))))
          replace hh := fin_x hR2 hh
          refine B.r (B.r (S.r (S.r ?_)))
          replace hh := fin_x hR1 hh
          refine B.r (S.r ?_)
          obtain rfl := so hh
          exact rq [2] ⟨z, z, z⟩
         ·replace hh := iteO_f h130 hh
          replace h130 := of_decide_eq_false h130
          refine TL.g z (moveStr (.inl z) z) (TL.g z (lenBs z underlying9 z) (TL.g z (OpVal.gtr z z z) (TL.w z (pickFB z z z) (TL.en (TC.cD z hh (fun h131 hh => ?_) (fun h131 hh => ?_))))))
          ·refine TC.a (TL.j z z (TL.en (TC.rt 0 (B.r (S.r (S.r ?_))))))
           replace hh := fin_x hR2 hh
           refine B.r (B.r (S.r (S.r ?_)))
           replace hh := fin_x hR1 hh
           refine B.r (S.r ?_)
           obtain rfl := so hh
           exact rq [2] ⟨z, z, z⟩
          ·exact TC.skip (B.n (S.n (cf ((), ()) hh (Sub.pre 1 z))))
        ·replace hh := iteO_f h129 hh
         replace h129 := of_decide_eq_false h129
         refine TL.f z (TL.f z (TL.g z (pickFB z z z) (TL.w z (pickFB z z z) (TL.j z z (TL.g z (moveStr (.inl z) z) (TL.g z (lenBs z underlying9 z) (TL.g z (OpVal.gtr z z z) (TL.w z (pickFB z z z) (TL.en (TC.cD z hh (fun h132 hh => ?_) (fun h132 hh => ?_)))))))))))
         ·refine TC.a (TL.j z z (TL.en (TC.rt 0 (B.r (S.r (S.r ?_))))))
          replace hh := fin_x hR2 hh
          refine B.r (B.r (S.r (S.r ?_)))
          replace hh := fin_x hR1 hh
          refine B.r (S.r ?_)
          obtain rfl := so hh
          exact rq [2] ⟨z, z, z⟩
         ·exact TC.skip (B.n (S.n (cf ((), ()) hh (Sub.pre 1 z))))
     ·skip
      obtain ⟨_, _⟩ := g
      have hh := hg; clear hg
      try dsimp only
      dsimp only [whittleref21_Right_j3] at hh
      refine TC.region (TL.i z z (TL.w z (OpVal.succ z z z (by omega)) (TL.i z z (TL.en ?_))))
      obtain ⟨hh, hlt133⟩ := nxt_x hR2 hh
      exact lf ((k123 + 1), ()) hlt133 hh (Sub.pre 1 z)
    ·refine TC.exit (S.x (S.x ?_))
     replace hh := fin_x hR2 hh
     refine TC.exitHere (B.n (S.n (TC.region (TL.i z z (TL.w z (OpVal.succ z z z (by omega)) (TL.i z z (TL.en ?_)))))))
     obtain ⟨hh, hlt134⟩ := nxt_x hR1 hh
     exact lf ((k112 + 1), ()) hlt134 hh (Sub.pre 1 z)
  ·refine TC.exit (S.x (S.x ?_))
   replace hh := fin_x hR1 hh
   refine TC.exitHere (S.n (TC.a (TL.j z z (TL.en (TC.rt 0 ?_)))))
   obtain rfl := so hh
   exact rq [2] ⟨z, z, z⟩

noncomputable def whittleref21_Apply_b1 (x1 : List UInt8) (x0 : Seq) (s111 : List UInt8) (i112 : Int) (k113 : Nat) : Option (((List UInt8) × Int × Nat) ⊕ ((List UInt8) × Int × Bool × Int)) :=
 iteO (decide (((k113 : Nat) : Int) < ((x1.length : Nat) : Int))) (grd (0 ≤ i112 ∧ i112 < (x0.next.length : Int)) (grd ((nth x1 k113 (0 : UInt8)).toNat < (nth x0.next i112.toNat ([] : List Int)).length) (iteO (decide ((nth (nth x0.next i112.toNat ([] : List Int)) ((nth x1 k113 (0 : UInt8)).toNat) (0 : Int)) < 0)) (fin (some (([] : List UInt8), ((k113 : Nat) : Int), false, 0))) (grd (0 ≤ i112 ∧ i112 < (x0.outs.length : Int)) (grd ((nth x1 k113 (0 : UInt8)).toNat < (nth x0.outs i112.toNat ([] : List (List UInt8))).length) (grd (s111.length + (nth (nth x0.outs i112.toNat ([] : List (List UInt8))) ((nth x1 k113 (0 : UInt8)).toNat) ([] : List UInt8)).length ≤ 9223372036854775807) (grd (0 ≤ i112 ∧ i112 < (x0.next.length : Int)) (grd ((nth x1 k113 (0 : UInt8)).toNat < (nth x0.next i112.toNat ([] : List Int)).length) (nxt ((s111 ++ (nth (nth x0.outs i112.toNat ([] : List (List UInt8))) ((nth x1 k113 (0 : UInt8)).toNat) ([] : List UInt8))), (nth (nth x0.next i112.toNat ([] : List Int)) ((nth x1 k113 (0 : UInt8)).toNat) (0 : Int)), (k113 + 1))))))))))) (fin (grd (0 ≤ i112 ∧ i112 < (x0.fin.length : Int)) (iteO (!(nth x0.fin i112.toNat false)) (some (([] : List UInt8), ((x1.length : Nat) : Int), false, 0)) (grd (0 ≤ i112 ∧ i112 < (x0.tail.length : Int)) (grd (s111.length + (nth x0.tail i112.toNat ([] : List UInt8)).length ≤ 9223372036854775807) (some ((s111 ++ (nth x0.tail i112.toNat ([] : List UInt8))), ((x1.length : Nat) : Int), true, 0)))))))
noncomputable def whittleref21_Apply (x0 : Seq) (x1 : List UInt8) : Option ((List UInt8) × Int × Bool × Int) :=
 grd (x1.length ≤ 281474976710656) (bnd (whittleref21_Right x0) (fun v7 => iteO (!v7) (some (([] : List UInt8), 0, false, 1)) (iteO (decide (((x0.next.length : Nat) : Int) = 0)) (some (([] : List UInt8), 0, false, 0)) (iter (fun q : (List UInt8) × Int × Nat => whittleref21_Apply_b1 x1 x0 q.1 q.2.1 q.2.2) (x0.front, 0, 0)))))
theorem whittleref21_Apply_con {σ : Store} {x0 : Seq} {a0_0 : Option Addr} {c0_0 : Nat} {a0_1 : Option Addr} {c0_1 : Nat} {a0_2 : Option Addr} {c0_2 : Nat} {a0_3 : Option Addr} {c0_3 : Nat} {x1 : List UInt8} (f0_0 : RZ σ (pkSl 1 Go.E.encI Go.E.encI_len) (.slice a0_0 x0.next.length c0_0) x0.next) (f0_1 : RZ σ (pkSl 1 Go.E.encS Go.E.encS_len) (.slice a0_1 x0.outs.length c0_1) x0.outs) (f0_2 : RS σ 1 encB (.slice a0_2 x0.fin.length c0_2) x0.fin) (f0_3 : RS σ 1 Go.E.encS (.slice a0_3 x0.tail.length c0_3) x0.tail) {r : (List UInt8) × Int × Bool × Int} (hh : whittleref21_Apply x0 x1 = some r) :
  Con Tryz.prog 71 #[.agg #[.string (bs x0.front), .slice a0_0 x0.next.length c0_0, .slice a0_1 x0.outs.length c0_1, .slice a0_2 x0.fin.length c0_2, .slice a0_3 x0.tail.length c0_3], .string (bs x1)] σ [] (PureP (.tuple #[.string (bs r.1), .int .i64 r.2.1, .bool r.2.2.1, .int .i64 r.2.2.2]) σ) := by
 dsimp only [whittleref21_Apply] at hh
 have f0_0b := f0_0.big
 have f0_1b := f0_1.big
 have f0_2b := f0_2.rv.big
 have f0_3b := f0_3.rv.big
 refine Con.mk (n := 76) Tryz.func71 z z z (fun w0 => ?_)
 have x1b := grd_c hh
 replace hh := grd_t hh
 refine TC.a (TL.op z (boxA z z z z (fun b101 => ?_)))
 refine TL.w z (moveStr (.inr z) z) (TL.i z z (TL.j z z (TL.i z z (TL.en (TC.seq (TC.a (TL.w z (loadAll z ag30 sz30 z (i := 0) z z) ?_)))))))
 obtain ⟨v7, u7, hh⟩ := bnd_e hh
 refine TL.op z (callP (whittleref21_Right_con (x0 := x0) f0_0 f0_1 f0_2 f0_3 u7) z z pf67 z z z ?_)
 refine TL.w z (OpVal.not z z) (TL.en (TC.cB z hh (fun h103 hh => ?_) (fun h103 hh => ?_)))
 ·refine TC.a (TL.w z (moveStr (.inr z) z) (TL.i z z (TL.j z z (TL.i z z (TL.en (TC.rt 0 (S.r ?_)))))))
  obtain rfl := so hh
  exact rq [4, 5, 6, 7] ⟨z, z, z⟩
 ·refine TC.skip (S.n (TC.seq (TC.a (TL.w z (fieldLoc z fo30_1 z) (TL.w z (loadLoc z ag23 z (i := 0) z z) (TL.w z (lenC z underlying23 z) (TL.w z (OpVal.eql z z z) (TL.en (TC.cD z hh (fun h104 hh => ?_) (fun h104 hh => ?_))))))))))
  ·refine TC.a (TL.w z (moveStr (.inr z) z) (TL.i z z (TL.j z z (TL.i z z (TL.en (TC.rt 0 (S.r ?_)))))))
   obtain rfl := so hh
   exact rq [4, 5, 6, 7] ⟨z, z, z⟩
  ·refine TC.skip (S.n (TC.a (TL.w z (fieldLoc z fo30_0 z) (TL.w z (loadLoc z ag9 z (i := 0) z z) (TL.w z (moveStr (.inr z) z) (TL.en (TC.a (TL.i z z (TL.en (TC.seq (TC.a (TL.i z z (TL.en (TC.block (TC.loopG (α := ((List UInt8) × Int × Nat) × (Unit)) (rgs [(4, 8), (21, 38)]) (fun g => [(8, .string (bs g.1.1)), (9, .int .i64 g.1.2.1), (10, .int .i64 ((g.1.2.2 : Nat) : Int))]) (fun g => [Res.cells b101 #[.string (bs x0.front), .slice a0_0 x0.next.length c0_0, .slice a0_1 x0.outs.length c0_1, .slice a0_2 x0.fin.length c0_2, .slice a0_3 x0.tail.length c0_3] 30]) (fun g => σ) (fun g => iter (fun q : (List UInt8) × Int × Nat => whittleref21_Apply_b1 x1 x0 q.1 q.2.1 q.2.2) g.1 = some r) (fun g => rounds (fun q : (List UInt8) × Int × Nat => whittleref21_Apply_b1 x1 x0 q.1 q.2.1 q.2.2) g.1) ((x0.front, 0, 0), ()) (Sub.pre 1 z) z (by repeat (first | exact trivial | refine ⟨z, ?_⟩)) hh (fun g1 j1 hg1 => ?_))))))))))))))))
   obtain ⟨⟨s111, i112, k113⟩, _⟩ := g1
   have hh := hg1; clear hg1
   try dsimp only
   obtain ⟨z1, hh, hR1⟩ := iter_e hh
   dsimp only [whittleref21_Apply_b1] at hh
   refine TC.seq (TC.a (TL.i z z (TL.w z (moveStr (.inl z) z) (TL.w z (lenBs z underlying9 z) (TL.w z (OpVal.lss z z z) (TL.en (TC.cD z hh (fun h114 hh => ?_) (fun h114 hh => ?_))))))))
   ·refine TC.skip (S.n (TC.seq (TC.block (TC.a (TL.w z (moveStr (.inl z) z) (TL.i z z (TL.w z (indexBs z underlying9 z z (by omega)) (TL.w z (convN z underlying5 underlying3 z (by have := UInt8.toNat_lt (nth x1 k113 (0 : UInt8)); simp only [kmax]; omega)) (TL.i z z (TL.en (TC.seq (TC.a (TL.w z (fieldLoc z fo30_1 z) (TL.w z (loadLoc z ag23 z (i := 0) z z) (TL.i z z ?_)))))))))))))))
    have u38 := grd_c hh
    replace hh := grd_t hh
    refine TL.w z (OpVal.index z underlying23 sz22 z z f0_0.isSl u38.1 u38.2) ?_
    obtain ⟨p115, hk115, hg115⟩ := RZ.seg f0_0 i112.toNat (by omega)
    replace hk115 : RS _ 1 Go.E.encI (.slice p115.1 (nth x0.next i112.toNat ([] : List Int)).length p115.2) (nth x0.next i112.toNat ([] : List Int)) := hk115
    have hk115b := hk115.rv.big
    refine TL.w z (OpVal.of (loadSeg0 z ag22 z hg115 z) (v' := .slice p115.1 ((nth x0.next i112.toNat ([] : List Int)).length) p115.2) z) (TL.i z z ?_)
    have u41 := grd_c hh
    replace hh := grd_t hh
    refine TL.w z (indexN z underlying22 sz3 z z hk115.rv.sl (by omega)) (TL.w z (loadS1 (0 : Int) z ag3 z hk115 (by omega) z) (TL.w z (OpVal.lss z z z) (TL.en (TC.cD z hh (fun h116 hh => ?_) (fun h116 hh => ?_)))))
    ·refine TC.a (TL.i z z (TL.w z (moveStr (.inr z) z) (TL.i z z (TL.j z z (TL.i z z (TL.en (TC.rt 0 (S.r (B.r (S.r (S.r ?_)))))))))))
     replace hh := fin_x hR1 hh
     refine B.r (S.r ?_)
     obtain rfl := so hh
     exact rq [4, 5, 6, 7] ⟨z, z, z⟩
    ·refine TC.skip (S.n (TC.a (TL.w z (moveStr (.inl z) z) (TL.w z (fieldLoc z fo30_2 z) (TL.w z (loadLoc z ag27 z (i := 0) z z) (TL.i z z ?_))))))
     have u53 := grd_c hh
     replace hh := grd_t hh
     refine TL.w z (OpVal.index z underlying27 sz28 z z f0_1.isSl u53.1 u53.2) ?_
     obtain ⟨p117, hk117, hg117⟩ := RZ.seg f0_1 i112.toNat (by omega)
     replace hk117 : RS _ 1 Go.E.encS (.slice p117.1 (nth x0.outs i112.toNat ([] : List (List UInt8))).length p117.2) (nth x0.outs i112.toNat ([] : List (List UInt8))) := hk117
     have hk117b := hk117.rv.big
     refine TL.w z (OpVal.of (loadSeg0 z ag28 z hg117 z) (v' := .slice p117.1 ((nth x0.outs i112.toNat ([] : List (List UInt8))).length) p117.2) z) (TL.i z z ?_)
     have u56 := grd_c hh
     replace hh := grd_t hh
     refine TL.w z (indexN z underlying28 sz9 z z hk117.rv.sl (by omega)) (TL.w z (loadS1 ([] : List UInt8) z ag9 z hk117 (by omega) z) ?_)
     have u58 := grd_c hh
     replace hh := grd_t hh
     refine TL.w z (catBs z z z u58) (TL.w z (moveStr (.inr z) z) (TL.en (TC.region (TL.w z (fieldLoc z fo30_1 z) (TL.w z (loadLoc z ag23 z (i := 0) z z) (TL.i z z ?_))))))
     have u63 := grd_c hh
     replace hh := grd_t hh
     refine TL.w z (OpVal.index z underlying23 sz22 z z f0_0.isSl u63.1 u63.2) ?_
     obtain ⟨p118, hk118, hg118⟩ := RZ.seg f0_0 i112.toNat (by omega)
     replace hk118 : RS _ 1 Go.E.encI (.slice p118.1 (nth x0.next i112.toNat ([] : List Int)).length p118.2) (nth x0.next i112.toNat ([] : List Int)) := hk118
     have hk118b := hk118.rv.big
     refine TL.w z (OpVal.of (loadSeg0 z ag22 z hg118 z) (v' := .slice p118.1 ((nth x0.next i112.toNat ([] : List Int)).length) p118.2) z) (TL.i z z ?_)
     have u66 := grd_c hh
     replace hh := grd_t hh
     refine TL.w z (indexN z underlying22 sz3 z z hk118.rv.sl (by omega)) (TL.w z (loadS1 (0 : Int) z ag3 z hk118 (by omega) z) (TL.i z z (TL.nil (B.n (S.n (TC.region (TL.i z z (TL.w z (OpVal.succ z z z (by omega)) (TL.i z z (TL.en ?_))))))))))
     obtain ⟨hh, hlt119⟩ := nxt_x hR1 hh
     exact lf (((s111 ++ (nth (nth x0.outs i112.toNat ([] : List (List UInt8))) ((nth x1 k113 (0 : UInt8)).toNat) ([] : List UInt8))), (nth (nth x0.next i112.toNat ([] : List Int)) ((nth x1 k113 (0 : UInt8)).toNat) (0 : Int)), (k113 + 1)), ()) hlt119 hh (Sub.pre 1 z)
   ·refine TC.exit (S.x (S.x ?_))
    replace hh := fin_x hR1 hh
    refine TC.exitHere (S.n (TC.seq (TC.a (TL.w z (fieldLoc z fo30_3 z) (TL.w z (loadLoc z ag24 z (i := 0) z z) (TL.i z z ?_))))))
    have u75 := grd_c hh
    replace hh := grd_t hh
    refine TL.w z (OpVal.index z underlying24 sz4 z z f0_2.rv.sl u75.1 u75.2) (TL.w z (loadS1 false z ag4 z f0_2 (by omega) z) (TL.w z (OpVal.not z z) (TL.en (TC.cB z hh (fun h120 hh => ?_) (fun h120 hh => ?_)))))
    ·refine TC.a (TL.w z (moveStr (.inl z) z) (TL.w z (lenBs z underlying9 z) (TL.w z (moveStr (.inr z) z) (TL.i z z (TL.j z z (TL.i z z (TL.en (TC.rt 0 (S.r ?_)))))))))
     obtain rfl := so hh
     exact rq [4, 5, 6, 7] ⟨z, z, z⟩
    ·refine TC.skip (S.n (TC.a (TL.w z (moveStr (.inl z) z) (TL.w z (fieldLoc z fo30_4 z) (TL.w z (loadLoc z ag28 z (i := 0) z z) (TL.i z z ?_))))))
     have u88 := grd_c hh
     replace hh := grd_t hh
     refine TL.w z (OpVal.index z underlying28 sz9 z z f0_3.rv.sl u88.1 u88.2) (TL.w z (loadS1 ([] : List UInt8) z ag9 z f0_3 (by omega) z) ?_)
     have u90 := grd_c hh
     replace hh := grd_t hh
     refine TL.w z (catBs z z z u90) (TL.w z (moveStr (.inl z) z) (TL.w z (lenBs z underlying9 z) (TL.w z (moveStr (.inr z) z) (TL.i z z (TL.j z z (TL.i z z (TL.en (TC.rt 0 ?_))))))))
     obtain rfl := so hh
     exact rq [4, 5, 6, 7] ⟨z, z, z⟩

noncomputable def whittleref24_own_b1 (x0 : List UInt8) (x1 : Int) (l112 : List Span) (k115 : Nat) : Option (((List Span) × Nat) ⊕ ((List Span))) :=
 iteO (decide (((k115 : Nat) : Int) < ((x0.length : Nat) : Int))) (grd ((l112.length + [(⟨IntKind.i64.wrap (x1 + ((k115 : Nat) : Int)), IntKind.i64.wrap ((IntKind.i64.wrap (x1 + ((k115 : Nat) : Int))) + 1)⟩ : Span)].length) * 16 ≤ 140737488355328) (nxt ((l112 ++ [(⟨IntKind.i64.wrap (x1 + ((k115 : Nat) : Int)), IntKind.i64.wrap ((IntKind.i64.wrap (x1 + ((k115 : Nat) : Int))) + 1)⟩ : Span)]), (k115 + 1)))) (fin (some l112))
noncomputable def whittleref24_own (x0 : List UInt8) (x1 : Int) : Option ((List Span)) :=
 grd (x0.length ≤ 281474976710656) (iter (fun q : (List Span) × Nat => whittleref24_own_b1 x0 x1 q.1 q.2) (([] : List Span), 0))
def whittleref24_own_P (σ : Store) (r : (List Span)) : Value → Store → List Res → Prop := fun v σ' H' =>
 ∃ (a1 : Option Addr), ∃ (c1 : Nat),  v = .slice a1 r.length c1 ∧ σ = σ' ∧ H' = [Res.rowS 56 2 encSpan (.slice a1 r.length c1) r]
theorem whittleref24_own_con {σ : Store} {x0 : List UInt8} {x1 : Int}  {r : (List Span)} (hh : whittleref24_own x0 x1 = some r) :
  Con Tryz.prog 36 #[.string (bs x0), .int .i64 x1] σ [] (whittleref24_own_P σ r) := by
 dsimp only [whittleref24_own] at hh
 refine Con.mk (n := 25) Tryz.func36 z z z (fun w0 => ?_)
 have x0b := grd_c hh
 replace hh := grd_t hh
 refine TC.a (TL.s z z (TL.en (TC.a (TL.s z z (TL.en (TC.seq (TC.a (TL.i z z (TL.en (TC.block (TC.nilS 56 2 encSpan (TC.loopG (α := ((List Span) × Nat) × ((Option Addr) × Nat)) (rgs [(5, 19)]) (fun g => [(5, .slice g.2.1 g.1.1.length g.2.2), (6, .int .i64 ((g.1.2 : Nat) : Int))]) (fun g => [Res.rowS 56 2 encSpan (.slice g.2.1 g.1.1.length g.2.2) g.1.1]) (fun g => σ) (fun g => iter (fun q : (List Span) × Nat => whittleref24_own_b1 x0 x1 q.1 q.2) g.1 = some r) (fun g => rounds (fun q : (List Span) × Nat => whittleref24_own_b1 x0 x1 q.1 q.2) g.1) ((([] : List Span), 0), (none, 0)) (Sub.pre 1 z) z (by repeat (first | exact trivial | refine ⟨z, ?_⟩)) hh (fun g1 j1 hg1 => ?_)))))))))))))
 obtain ⟨⟨l112, k115⟩, ⟨a113, c114⟩⟩ := g1
 have hh := hg1; clear hg1
 try dsimp only
 obtain ⟨z1, hh, hR1⟩ := iter_e hh
 dsimp only [whittleref24_own_b1] at hh
 refine TC.isSl (i := 0) z (fun _ hb117 _ => ?_)
 refine TC.seq (TC.a (TL.i z z (TL.w z (moveStr (.inl z) z) (TL.w z (lenBs z underlying9 z) (TL.w z (OpVal.lss z z z) (TL.en (TC.cD z hh (fun h118 hh => ?_) (fun h118 hh => ?_))))))))
 ·refine TC.skip (S.n (TC.seq (TC.block (TC.region (TL.s z z (TL.i z z (TL.i z z (TL.w z (addW z z z) (TL.i z z (TL.i z z (TL.w z (addW z z z) (TL.w z (addW z z z) (TL.w z (buildL z pl56 ze56 z) (TL.op z (OpOk.lit (enc := encSpan) [(⟨IntKind.i64.wrap (x1 + ((k115 : Nat) : Int)), IntKind.i64.wrap ((IntKind.i64.wrap (x1 + ((k115 : Nat) : Int))) + 1)⟩ : Span)] z underlying34 sz56 ze56 z z z encSpan_len (by decide) (by decide) Span.zero z (by decide) z (by decide) encSpan_one (fun a119 c120 => ?_))))))))))))))))
  refine TL.front 1 z z ?_
  have u18 := grd_c hh
  replace hh := grd_t hh
  refine TL.op z (appendS z z underlying34 sz56 by56 ze56 z z (by decide) z z z (.inr ⟨_, 0, z⟩) (by simpa using u18) (by decide) (fun a122 c123 => ?_))
  refine TL.s z z (TL.nil (B.n (S.n (TC.region (TL.i z z (TL.w z (OpVal.succ z z z (by omega)) (TL.i z z (TL.en ?_))))))))
  obtain ⟨hh, hlt124⟩ := nxt_x hR1 hh
  exact lf (((l112 ++ [(⟨IntKind.i64.wrap (x1 + ((k115 : Nat) : Int)), IntKind.i64.wrap ((IntKind.i64.wrap (x1 + ((k115 : Nat) : Int))) + 1)⟩ : Span)]), (k115 + 1)), (a122, c123)) hlt124 hh (Sub.pre 1 z)
 ·refine TC.exit (S.x (S.x ?_))
  replace hh := fin_x hR1 hh
  refine TC.exitHere (S.n (TC.a (TL.s z z (TL.s z z (TL.en (TC.ret ?_))))))
  obtain rfl := so hh
  exact ro [Res.rowS 56 2 encSpan (.slice a113 l112.length c114) l112] z (RVs.tmp z RVs.nil) ⟨a113, c114, z, z, z⟩

noncomputable def whittleref24_Right (x0 : Rule) : Option (Bool) :=
 bnd (whittleref11_Right x0.of) (fun v5 => iteO (!v5) (some false) (bnd (whittleref11_Right x0.left) (fun v10 => iteO (!v10) (some false) (bnd (whittleref11_Right x0.right) (fun v16 => iteO (!v16) (some false) (iteO x0.mapped (bnd (whittleref21_Right x0.by') (fun v24 => iteO v24 (some (decide (x0.out = ([] : List UInt8)))) (some false))) (iteO (decide (((x0.out.length : Nat) : Int) ≤ 256)) (iteO (decide (x0.by'.front = ([] : List UInt8))) (some (decide ((IntKind.i64.wrap ((IntKind.i64.wrap ((IntKind.i64.wrap (((x0.by'.next.length : Nat) : Int) + ((x0.by'.outs.length : Nat) : Int))) + ((x0.by'.fin.length : Nat) : Int))) + ((x0.by'.tail.length : Nat) : Int))) = 0))) (some false)) (some false))))))))
theorem whittleref24_Right_con {σ : Store} {x0 : Rule} {a0_0 : Option Addr} {c0_0 : Nat} {a0_1 : Option Addr} {c0_1 : Nat} {a0_2 : Option Addr} {c0_2 : Nat} {a0_3 : Option Addr} {c0_3 : Nat} {a0_4 : Option Addr} {c0_4 : Nat} {a0_5 : Option Addr} {c0_5 : Nat} {a0_6 : Option Addr} {c0_6 : Nat} {a0_7 : Option Addr} {c0_7 : Nat} {a0_8 : Option Addr} {c0_8 : Nat} {a0_9 : Option Addr} {c0_9 : Nat} {a0_10 : Option Addr} {c0_10 : Nat} {a0_11 : Option Addr} {c0_11 : Nat} {a0_12 : Option Addr} {c0_12 : Nat} (f0_0 : RS σ 1 Go.E.encI (.slice a0_0 x0.of.cls.length c0_0) x0.of.cls) (f0_1 : RZ σ (pkSl 1 Go.E.encI Go.E.encI_len) (.slice a0_1 x0.of.next.length c0_1) x0.of.next) (f0_2 : RS σ 1 encB (.slice a0_2 x0.of.fin.length c0_2) x0.of.fin) (f0_3 : RS σ 1 Go.E.encI (.slice a0_3 x0.left.cls.length c0_3) x0.left.cls) (f0_4 : RZ σ (pkSl 1 Go.E.encI Go.E.encI_len) (.slice a0_4 x0.left.next.length c0_4) x0.left.next) (f0_5 : RS σ 1 encB (.slice a0_5 x0.left.fin.length c0_5) x0.left.fin) (f0_6 : RS σ 1 Go.E.encI (.slice a0_6 x0.right.cls.length c0_6) x0.right.cls) (f0_7 : RZ σ (pkSl 1 Go.E.encI Go.E.encI_len) (.slice a0_7 x0.right.next.length c0_7) x0.right.next) (f0_8 : RS σ 1 encB (.slice a0_8 x0.right.fin.length c0_8) x0.right.fin) (f0_9 : RZ σ (pkSl 1 Go.E.encI Go.E.encI_len) (.slice a0_9 x0.by'.next.length c0_9) x0.by'.next) (f0_10 : RZ σ (pkSl 1 Go.E.encS Go.E.encS_len) (.slice a0_10 x0.by'.outs.length c0_10) x0.by'.outs) (f0_11 : RS σ 1 encB (.slice a0_11 x0.by'.fin.length c0_11) x0.by'.fin) (f0_12 : RS σ 1 Go.E.encS (.slice a0_12 x0.by'.tail.length c0_12) x0.by'.tail) {r : Bool} (hh : whittleref24_Right x0 = some r) :
  Con Tryz.prog 34 #[.agg #[.slice a0_0 x0.of.cls.length c0_0, .slice a0_1 x0.of.next.length c0_1, .slice a0_2 x0.of.fin.length c0_2, .slice a0_3 x0.left.cls.length c0_3, .slice a0_4 x0.left.next.length c0_4, .slice a0_5 x0.left.fin.length c0_5, .slice a0_6 x0.right.cls.length c0_6, .slice a0_7 x0.right.next.length c0_7, .slice a0_8 x0.right.fin.length c0_8, .string (bs x0.out), .bool x0.mapped, .string (bs x0.by'.front), .slice a0_9 x0.by'.next.length c0_9, .slice a0_10 x0.by'.outs.length c0_10, .slice a0_11 x0.by'.fin.length c0_11, .slice a0_12 x0.by'.tail.length c0_12]] σ [] (PureP (.bool r) σ) := by
 dsimp only [whittleref24_Right] at hh
 have f0_0b := f0_0.rv.big
 have f0_1b := f0_1.big
 have f0_2b := f0_2.rv.big
 have f0_3b := f0_3.rv.big
 have f0_4b := f0_4.big
 have f0_5b := f0_5.rv.big
 have f0_6b := f0_6.rv.big
 have f0_7b := f0_7.big
 have f0_8b := f0_8.rv.big
 have f0_9b := f0_9.big
 have f0_10b := f0_10.big
 have f0_11b := f0_11.rv.big
 have f0_12b := f0_12.rv.big
 refine Con.mk (n := 59) Tryz.func34 z z z (fun w0 => ?_)
 refine TC.a (TL.op z (boxA z z z z (fun b101 => ?_)))
 refine TL.j z z (TL.en (TC.seq (TC.a (TL.w z (fieldLoc z fo32_0 z) (TL.w z (loadLocA z ag26 sz26 z (i := 0) z z z) ?_)))))
 obtain ⟨v5, u5, hh⟩ := bnd_e hh
 refine TL.op z (callP (whittleref11_Right_con (x0 := x0.of) f0_0 f0_1 f0_2 u5) z z pf66 z z z ?_)
 refine TL.w z (OpVal.not z z) (TL.j z z (TL.split 8 z (fun h103 => ?_) (fun h103 => ?_)))
 ·replace hh := iteO_t h103 hh
  refine TL.f z (TL.f z (TL.f z (TL.f z (TL.w z (pickTB z z z) (TL.j z z (TL.f z (TL.f z (TL.f z (TL.f z (TL.w z (pickTB z z z) (TL.en (TC.t z (TC.a (TL.j z z (TL.en ?_)))))))))))))))
  refine TC.rt 0 (S.r ?_)
  obtain rfl := so hh
  exact rq [2] ⟨z, z, z⟩
 ·replace hh := iteO_f h103 hh
  refine TL.g z (fieldLoc z fo32_1 z) (TL.g z (loadLocA z ag26 sz26 z (i := 0) z z z) ?_)
  obtain ⟨v10, u10, hh⟩ := bnd_e hh
  refine TL.gon z z z z z (callP (whittleref11_Right_con (x0 := x0.left) f0_3 f0_4 f0_5 u10) z z pf66 z z z ?_)
  refine TL.g z (OpVal.not z z) (TL.w z (pickFB z z z) (TL.j z z (TL.split 14 z (fun h104 => ?_) (fun h104 => ?_))))
  ·replace hh := iteO_t h104 hh
   refine TL.f z (TL.f z (TL.f z (TL.f z (TL.w z (pickTB z z z) (TL.en (TC.t z (TC.a (TL.j z z (TL.en (TC.rt 0 (S.r ?_)))))))))))
   obtain rfl := so hh
   exact rq [2] ⟨z, z, z⟩
  ·replace hh := iteO_f h104 hh
   refine TL.g z (fieldLoc z fo32_2 z) (TL.g z (loadLocA z ag26 sz26 z (i := 0) z z z) ?_)
   obtain ⟨v16, u16, hh⟩ := bnd_e hh
   refine TL.gon z z z z z (callP (whittleref11_Right_con (x0 := x0.right) f0_6 f0_7 f0_8 u16) z z pf66 z z z ?_)
   refine TL.g z (OpVal.not z z) (TL.w z (pickFB z z z) (TL.en (TC.cB z hh (fun h105 hh => ?_) (fun h105 hh => ?_))))
   ·refine TC.a (TL.j z z (TL.en (TC.rt 0 (S.r ?_))))
    obtain rfl := so hh
    exact rq [2] ⟨z, z, z⟩
   ·refine TC.skip (S.n (TC.seq (TC.a (TL.w z (fieldLoc z fo32_4 z) (TL.w z (loadLoc z ag4 z (i := 0) z z) (TL.en (TC.cB z hh (fun h106 hh => ?_) (fun h106 hh => ?_))))))))
    ·refine TC.a (TL.w z (fieldLoc z fo32_5 z) (TL.w z (loadLocA z ag30 sz30 z (i := 0) z z z) ?_))
     obtain ⟨v24, u24, hh⟩ := bnd_e hh
     refine TL.op z (callP (whittleref21_Right_con (x0 := x0.by') f0_9 f0_10 f0_11 f0_12 u24) z z pf67 z z z ?_)
     refine TL.j z z (TL.split 25 z (fun h107 => ?_) (fun h107 => ?_))
     ·replace hh := iteO_t h107 hh
      refine TL.g z (fieldLoc z fo32_3 z) (TL.g z (loadLoc z ag9 z (i := 0) z z) (TL.g z (eqlBs z z z) (TL.w z (pickTB z z z) (TL.j z z (TL.en (TC.rt 0 (S.r ?_)))))))
      obtain rfl := so hh
      exact rq [2] ⟨z, z, z⟩
     ·replace hh := iteO_f h107 hh
      refine TL.f z (TL.f z (TL.f z (TL.w z (pickFB z z z) (TL.j z z (TL.en (TC.rt 0 (S.r ?_)))))))
      obtain rfl := so hh
      exact rq [2] ⟨z, z, z⟩
    ·refine TC.skip (S.n (TC.a (TL.w z (fieldLoc z fo32_5 z) (TL.w z (loadLocA z ag30 sz30 z (i := 0) z z z) (TL.op z (OpOk.alloc z ze30 z z (fun b108 => ?_)))))))
     refine TL.op z (storeAll z sz30 z z z z z z ?_)
     refine TL.en (TC.a (TL.w z (fieldLoc z fo32_3 z) (TL.w z (loadLoc z ag9 z (i := 1) z z) (TL.w z (lenBs z underlying9 z) (TL.w z (OpVal.leq z z z) (TL.j z z (TL.split 36 z (fun h110 => ?_) (fun h110 => ?_))))))))
     ·replace hh := iteO_t h110 hh
      replace h110 := of_decide_eq_true h110
      refine TL.g z (fieldLoc z fo30_0 z) (TL.g z (loadLoc z ag9 z (i := 0) z z) (TL.g z (eqlBs z z z) (TL.w z (pickTB z z z) (TL.j z z (TL.split 41 z (fun h111 => ?_) (fun h111 => ?_))))))
      ·replace hh := iteO_t h111 hh
       replace h111 := of_decide_eq_true h111
       refine TL.g z (fieldLoc z fo30_1 z) (TL.g z (loadLoc z ag23 z (i := 0) z z) (TL.g z (lenC z underlying23 z) (TL.g z (fieldLoc z fo30_2 z) (TL.g z (loadLoc z ag27 z (i := 0) z z) (TL.g z (lenC z underlying27 z) (TL.g z (addW z z z) (TL.g z (fieldLoc z fo30_3 z) (TL.g z (loadLoc z ag24 z (i := 0) z z) (TL.g z (lenC z underlying24 z) (TL.g z (addW z z z) (TL.g z (fieldLoc z fo30_4 z) (TL.g z (loadLoc z ag28 z (i := 0) z z) (TL.g z (lenC z underlying28 z) (TL.g z (addW z z z) (TL.g z (OpVal.eql z z z) ?_)))))))))))))))
       refine TL.w z (pickTB z z z) (TL.j z z (TL.en (TC.rt 0 ?_)))
       obtain rfl := so hh
       exact rq [2] ⟨z, z, z⟩
      ·replace hh := iteO_f h111 hh
       replace h111 := of_decide_eq_false h111
       refine TL.f z (TL.f z (TL.f z (TL.f z (TL.f z (TL.f z (TL.f z (TL.f z (TL.f z (TL.f z (TL.f z (TL.f z (TL.f z (TL.f z (TL.f z (TL.f z ?_)))))))))))))))
       refine TL.w z (pickFB z z z) (TL.j z z (TL.en (TC.rt 0 ?_)))
       obtain rfl := so hh
       exact rq [2] ⟨z, z, z⟩
     ·replace hh := iteO_f h110 hh
      replace h110 := of_decide_eq_false h110
      refine TL.f z (TL.f z (TL.f z (TL.w z (pickFB z z z) (TL.j z z (TL.f z (TL.f z (TL.f z (TL.f z (TL.f z (TL.f z (TL.f z (TL.f z (TL.f z (TL.f z (TL.f z ?_)))))))))))))))
      refine TL.f z (TL.f z (TL.f z (TL.f z (TL.f z (TL.w z (pickFB z z z) (TL.j z z (TL.en (TC.rt 0 ?_))))))))
      obtain rfl := so hh
      exact rq [2] ⟨z, z, z⟩

noncomputable def whittleref24_Plain (x0 : List UInt8) : Option (Piece × Int) :=
 grd (x0.length ≤ 281474976710656) (iteO (decide (4096 < ((x0.length : Nat) : Int))) (some ((⟨([] : List UInt8), ([] : List Span)⟩ : Piece), 2)) (bnd (whittleref24_own x0 0) (fun v11 => some ((⟨x0, v11⟩ : Piece), 0))))
def whittleref24_Plain_P (σ : Store) (r : Piece × Int) : Value → Store → List Res → Prop := fun v σ' H' =>
 ∃ (a1 : Option Addr), ∃ (c1 : Nat),  v = .tuple #[.agg #[.string (bs r.1.text), .slice a1 r.1.at'.length c1], .int .i64 r.2] ∧ RS σ' 2 encSpan (.slice a1 r.1.at'.length c1) r.1.at' ∧ H' = []
theorem whittleref24_Plain_con {σ : Store} {x0 : List UInt8}  {r : Piece × Int} (hh : whittleref24_Plain x0 = some r) :
  Con Tryz.prog 11 #[.string (bs x0)] σ [] (whittleref24_Plain_P σ r) := by
 dsimp only [whittleref24_Plain] at hh
 refine Con.mk (n := 12) Tryz.func11 z z z (fun w0 => ?_)
 have x0b := grd_c hh
 replace hh := grd_t hh
 refine TC.a (TL.op z (OpOk.alloc z ze36 z z (fun b101 => ?_)))
 refine TL.i z z (TL.en (TC.seq (TC.a (TL.w z (moveStr (.inl z) z) (TL.w z (lenBs z underlying9 z) (TL.w z (OpVal.gtr z z z) (TL.en (TC.cD z hh (fun h103 hh => ?_) (fun h103 hh => ?_)))))))))
 ·refine TC.a (TL.w z (buildL z pl36 ze36 z) (TL.op z (storeAll z sz36 z z z z z z ?_)))
  refine TL.i z z (TL.en (TC.ret (S.r ?_)))
  obtain rfl := so hh
  exact ro [] z (RVs.agg ag36 sz36 z (i := 0) z z (RVs.tmp z RVs.nil)) ⟨none, 0, z, (RS.nilF _ encSpan encSpan_len), z⟩
 ·refine TC.skip (S.n (TC.a (TL.w z (moveStr (.inl z) z) (TL.w z (moveStr (.inl z) z) ?_))))
  obtain ⟨v11, u11, hh⟩ := bnd_e hh
  refine TL.op z (OpOk.call (whittleref24_own_con u11) z z pf36 z z z z ?_)
  rintro _ _ _ hle104 ⟨a104_1, c104_1, rfl, rfl, rfl⟩
  refine TL.w z (buildL z pl36 ze36 z) (TL.front 1 z z (TL.op z (storeAll z sz36 z z z z z z ?_)))
  refine TL.i z z (TL.en (TC.front 1 z z (TC.sealS encSpan_len (fun τ108 hle107 hr106 => ?_))))
  have hr106b := hr106.rv.big
  refine TC.ret ?_
  obtain rfl := so hh
  exact ro [] z (RVs.agg ag36 sz36 z (i := 0) z z (RVs.tmp z RVs.nil)) ⟨a104_1, c104_1, z, hr106, z⟩

noncomputable def whittleref24_becomes (x0 : Rule) (x1 : List UInt8) : Option ((List UInt8) × Bool) :=
 grd (x1.length ≤ 281474976710656) (iteO (!x0.mapped) (some (x0.out, false)) (bnd (whittleref21_Apply x0.by' x1) (fun v14 => iteO (!v14.2.2.1) (some (x1, true)) (some (v14.1, false)))))
theorem whittleref24_becomes_con {σ : Store} {x0 : Rule} {a0_0 : Option Addr} {c0_0 : Nat} {a0_1 : Option Addr} {c0_1 : Nat} {a0_2 : Option Addr} {c0_2 : Nat} {a0_3 : Option Addr} {c0_3 : Nat} {a0_4 : Option Addr} {c0_4 : Nat} {a0_5 : Option Addr} {c0_5 : Nat} {a0_6 : Option Addr} {c0_6 : Nat} {a0_7 : Option Addr} {c0_7 : Nat} {a0_8 : Option Addr} {c0_8 : Nat} {a0_9 : Option Addr} {c0_9 : Nat} {a0_10 : Option Addr} {c0_10 : Nat} {a0_11 : Option Addr} {c0_11 : Nat} {a0_12 : Option Addr} {c0_12 : Nat} {x1 : List UInt8} (f0_0 : RS σ 1 Go.E.encI (.slice a0_0 x0.of.cls.length c0_0) x0.of.cls) (f0_1 : RZ σ (pkSl 1 Go.E.encI Go.E.encI_len) (.slice a0_1 x0.of.next.length c0_1) x0.of.next) (f0_2 : RS σ 1 encB (.slice a0_2 x0.of.fin.length c0_2) x0.of.fin) (f0_3 : RS σ 1 Go.E.encI (.slice a0_3 x0.left.cls.length c0_3) x0.left.cls) (f0_4 : RZ σ (pkSl 1 Go.E.encI Go.E.encI_len) (.slice a0_4 x0.left.next.length c0_4) x0.left.next) (f0_5 : RS σ 1 encB (.slice a0_5 x0.left.fin.length c0_5) x0.left.fin) (f0_6 : RS σ 1 Go.E.encI (.slice a0_6 x0.right.cls.length c0_6) x0.right.cls) (f0_7 : RZ σ (pkSl 1 Go.E.encI Go.E.encI_len) (.slice a0_7 x0.right.next.length c0_7) x0.right.next) (f0_8 : RS σ 1 encB (.slice a0_8 x0.right.fin.length c0_8) x0.right.fin) (f0_9 : RZ σ (pkSl 1 Go.E.encI Go.E.encI_len) (.slice a0_9 x0.by'.next.length c0_9) x0.by'.next) (f0_10 : RZ σ (pkSl 1 Go.E.encS Go.E.encS_len) (.slice a0_10 x0.by'.outs.length c0_10) x0.by'.outs) (f0_11 : RS σ 1 encB (.slice a0_11 x0.by'.fin.length c0_11) x0.by'.fin) (f0_12 : RS σ 1 Go.E.encS (.slice a0_12 x0.by'.tail.length c0_12) x0.by'.tail) {r : (List UInt8) × Bool} (hh : whittleref24_becomes x0 x1 = some r) :
  Con Tryz.prog 37 #[.agg #[.slice a0_0 x0.of.cls.length c0_0, .slice a0_1 x0.of.next.length c0_1, .slice a0_2 x0.of.fin.length c0_2, .slice a0_3 x0.left.cls.length c0_3, .slice a0_4 x0.left.next.length c0_4, .slice a0_5 x0.left.fin.length c0_5, .slice a0_6 x0.right.cls.length c0_6, .slice a0_7 x0.right.next.length c0_7, .slice a0_8 x0.right.fin.length c0_8, .string (bs x0.out), .bool x0.mapped, .string (bs x0.by'.front), .slice a0_9 x0.by'.next.length c0_9, .slice a0_10 x0.by'.outs.length c0_10, .slice a0_11 x0.by'.fin.length c0_11, .slice a0_12 x0.by'.tail.length c0_12], .string (bs x1)] σ [] (PureP (.tuple #[.string (bs r.1), .bool r.2]) σ) := by
 dsimp only [whittleref24_becomes] at hh
 have f0_0b := f0_0.rv.big
 have f0_1b := f0_1.big
 have f0_2b := f0_2.rv.big
 have f0_3b := f0_3.rv.big
 have f0_4b := f0_4.big
 have f0_5b := f0_5.rv.big
 have f0_6b := f0_6.rv.big
 have f0_7b := f0_7.big
 have f0_8b := f0_8.rv.big
 have f0_9b := f0_9.big
 have f0_10b := f0_10.big
 have f0_11b := f0_11.rv.big
 have f0_12b := f0_12.rv.big
 refine Con.mk (n := 28) Tryz.func37 z z z (fun w0 => ?_)
 have x1b := grd_c hh
 replace hh := grd_t hh
 refine TC.a (TL.op z (boxA z z z z (fun b101 => ?_)))
 refine TL.w z (moveStr (.inr z) z) (TL.j z z (TL.en (TC.seq (TC.a (TL.w z (fieldLoc z fo32_4 z) (TL.w z (loadLoc z ag4 z (i := 0) z z) (TL.w z (OpVal.not z z) (TL.en (TC.cB z hh (fun h103 hh => ?_) (fun h103 hh => ?_))))))))))
 ·refine TC.a (TL.w z (fieldLoc z fo32_3 z) (TL.w z (loadLoc z ag9 z (i := 0) z z) (TL.w z (moveStr (.inr z) z) (TL.j z z (TL.en (TC.rt 0 (S.r ?_)))))))
  obtain rfl := so hh
  exact rq [4, 5] ⟨z, z, z⟩
 ·refine TC.skip (S.n (TC.a (TL.w z (fieldLoc z fo32_5 z) (TL.w z (loadLocA z ag30 sz30 z (i := 0) z z z) (TL.w z (moveStr (.inl z) z) ?_)))))
  obtain ⟨v14, u14, hh⟩ := bnd_e hh
  refine TL.op z (callP (whittleref21_Apply_con (x0 := x0.by') f0_9 f0_10 f0_11 f0_12 u14) z z pf71 z z z ?_)
  refine TL.w z (moveT (.inl z) z) (TL.w z (OpVal.extract z z z) (TL.w z (OpVal.extract z z z) (TL.w z (OpVal.extract z z z) (TL.w z (OpVal.extract z z z) (TL.w z (moveStr (.inr z) z) (TL.i z z (TL.j z z (TL.i z z (TL.en (TC.seq (TC.a (TL.j z z (TL.w z (OpVal.not z z) (TL.en (TC.cB z hh (fun h104 hh => ?_) (fun h104 hh => ?_))))))))))))))))
  ·refine TC.a (TL.w z (moveStr (.inl z) z) (TL.w z (moveStr (.inr z) z) (TL.j z z (TL.en (TC.rt 0 (S.r ?_))))))
   obtain rfl := so hh
   exact rq [4, 5] ⟨z, z, z⟩
  ·refine TC.skip (S.n (TC.a (TL.w z (moveStr (.inl z) z) (TL.w z (moveStr (.inr z) z) (TL.j z z (TL.en (TC.rt 0 ?_)))))))
   obtain rfl := so hh
   exact rq [4, 5] ⟨z, z, z⟩

noncomputable def whittleref24_Turn_j1 (k155 : Nat) (l158 : List Span) : Option (((List Span) × Nat) ⊕ (((List UInt8) × (List Span) × Int × Nat) ⊕ (Piece × Int))) :=
 nxt (l158, (k155 + 1))
noncomputable def whittleref24_Turn_b2 (v73 : (List UInt8) × Bool) (v17 : (List Span) × Int) (k130 : Nat) (s124 : List UInt8) (x1 : List UInt8) (i129 : Int) (l152 : List Span) (k155 : Nat) : Option (((List Span) × Nat) ⊕ (((List UInt8) × (List Span) × Int × Nat) ⊕ (Piece × Int))) :=
 iteO (decide (((k155 : Nat) : Int) < ((v73.1.length : Nat) : Int))) (iteO v73.2 (grd ((l152.length + [(⟨IntKind.i64.wrap (((nth v17.1 k130 Span.zero).frm) + ((k155 : Nat) : Int)), IntKind.i64.wrap ((IntKind.i64.wrap (((nth v17.1 k130 Span.zero).frm) + ((k155 : Nat) : Int))) + 1)⟩ : Span)].length) * 16 ≤ 140737488355328) (whittleref24_Turn_j1 k155 (l152 ++ [(⟨IntKind.i64.wrap (((nth v17.1 k130 Span.zero).frm) + ((k155 : Nat) : Int)), IntKind.i64.wrap ((IntKind.i64.wrap (((nth v17.1 k130 Span.zero).frm) + ((k155 : Nat) : Int))) + 1)⟩ : Span)]))) (grd ((l152.length + [(nth v17.1 k130 Span.zero)].length) * 16 ≤ 140737488355328) (whittleref24_Turn_j1 k155 (l152 ++ [(nth v17.1 k130 Span.zero)])))) (fin (nxt (((s124 ++ ((x1.take (((nth v17.1 k130 Span.zero).frm).toNat)).drop i129.toNat)) ++ v73.1), l152, ((nth v17.1 k130 Span.zero).to), (k130 + 1))))
noncomputable def whittleref24_Turn_b1 (v17 : (List Span) × Int) (x1 : List UInt8) (x0 : Rule) (s124 : List UInt8) (l126 : List Span) (i129 : Int) (k130 : Nat) : Option (((List UInt8) × (List Span) × Int × Nat) ⊕ (Piece × Int)) :=
 iteO (decide (((k130 : Nat) : Int) < ((v17.1.length : Nat) : Int))) (grd (0 ≤ i129 ∧ 0 ≤ ((nth v17.1 k130 Span.zero).frm) ∧ i129.toNat ≤ ((nth v17.1 k130 Span.zero).frm).toNat ∧ ((nth v17.1 k130 Span.zero).frm).toNat ≤ x1.length) (grd (s124.length + ((x1.take (((nth v17.1 k130 Span.zero).frm).toNat)).drop i129.toNat).length ≤ 9223372036854775807) (grd (0 ≤ i129 ∧ 0 ≤ ((nth v17.1 k130 Span.zero).frm) ∧ i129.toNat ≤ ((nth v17.1 k130 Span.zero).frm).toNat ∧ ((nth v17.1 k130 Span.zero).frm).toNat ≤ x1.length) (bnd (whittleref24_own ((x1.take (((nth v17.1 k130 Span.zero).frm).toNat)).drop i129.toNat) i129) (fun v62 => grd ((l126.length + v62.length) * 16 ≤ 140737488355328) (grd (0 ≤ ((nth v17.1 k130 Span.zero).frm) ∧ 0 ≤ ((nth v17.1 k130 Span.zero).to) ∧ ((nth v17.1 k130 Span.zero).frm).toNat ≤ ((nth v17.1 k130 Span.zero).to).toNat ∧ ((nth v17.1 k130 Span.zero).to).toNat ≤ x1.length) (bnd (whittleref24_becomes x0 ((x1.take (((nth v17.1 k130 Span.zero).to).toNat)).drop (((nth v17.1 k130 Span.zero).frm).toNat))) (fun v73 => grd ((s124 ++ ((x1.take (((nth v17.1 k130 Span.zero).frm).toNat)).drop i129.toNat)).length + v73.1.length ≤ 9223372036854775807) (iter (fun q : (List Span) × Nat => whittleref24_Turn_b2 v73 v17 k130 s124 x1 i129 q.1 q.2) ((l126 ++ v62), 0)))))))))) (fin (grd (0 ≤ i129 ∧ i129.toNat ≤ x1.length ∧ x1.length ≤ x1.length) (grd (s124.length + (x1.drop i129.toNat).length ≤ 9223372036854775807) (grd (0 ≤ i129 ∧ i129.toNat ≤ x1.length ∧ x1.length ≤ x1.length) (bnd (whittleref24_own (x1.drop i129.toNat) i129) (fun v137 => grd ((l126.length + v137.length) * 16 ≤ 140737488355328) (iteO (decide (4096 < (((s124 ++ (x1.drop i129.toNat)).length : Nat) : Int))) (some ((⟨([] : List UInt8), ([] : List Span)⟩ : Piece), 2)) (some ((⟨(s124 ++ (x1.drop i129.toNat)), (l126 ++ v137)⟩ : Piece), 0)))))))))
noncomputable def whittleref24_Turn (x0 : Rule) (x1 : List UInt8) : Option (Piece × Int) :=
 grd (x1.length ≤ 281474976710656) (bnd (whittleref24_Right x0) (fun v5 => iteO (!v5) (some ((⟨([] : List UInt8), ([] : List Span)⟩ : Piece), 1)) (bnd (whittleref23_Factors x0.of x0.left x0.right x1) (fun v17 => iteO (decide (v17.2 ≠ 0)) (some ((⟨([] : List UInt8), ([] : List Span)⟩ : Piece), v17.2)) (iter (fun q : (List UInt8) × (List Span) × Int × Nat => whittleref24_Turn_b1 v17 x1 x0 q.1 q.2.1 q.2.2.1 q.2.2.2) (([] : List UInt8), ([] : List Span), 0, 0))))))
def whittleref24_Turn_P (σ : Store) (r : Piece × Int) : Value → Store → List Res → Prop := fun v σ' H' =>
 ∃ (a1 : Option Addr), ∃ (c1 : Nat),  v = .tuple #[.agg #[.string (bs r.1.text), .slice a1 r.1.at'.length c1], .int .i64 r.2] ∧ RS σ' 2 encSpan (.slice a1 r.1.at'.length c1) r.1.at' ∧ H' = []
theorem whittleref24_Turn_con {σ : Store} {x0 : Rule} {a0_0 : Option Addr} {c0_0 : Nat} {a0_1 : Option Addr} {c0_1 : Nat} {a0_2 : Option Addr} {c0_2 : Nat} {a0_3 : Option Addr} {c0_3 : Nat} {a0_4 : Option Addr} {c0_4 : Nat} {a0_5 : Option Addr} {c0_5 : Nat} {a0_6 : Option Addr} {c0_6 : Nat} {a0_7 : Option Addr} {c0_7 : Nat} {a0_8 : Option Addr} {c0_8 : Nat} {a0_9 : Option Addr} {c0_9 : Nat} {a0_10 : Option Addr} {c0_10 : Nat} {a0_11 : Option Addr} {c0_11 : Nat} {a0_12 : Option Addr} {c0_12 : Nat} {x1 : List UInt8} (f0_0 : RS σ 1 Go.E.encI (.slice a0_0 x0.of.cls.length c0_0) x0.of.cls) (f0_1 : RZ σ (pkSl 1 Go.E.encI Go.E.encI_len) (.slice a0_1 x0.of.next.length c0_1) x0.of.next) (f0_2 : RS σ 1 encB (.slice a0_2 x0.of.fin.length c0_2) x0.of.fin) (f0_3 : RS σ 1 Go.E.encI (.slice a0_3 x0.left.cls.length c0_3) x0.left.cls) (f0_4 : RZ σ (pkSl 1 Go.E.encI Go.E.encI_len) (.slice a0_4 x0.left.next.length c0_4) x0.left.next) (f0_5 : RS σ 1 encB (.slice a0_5 x0.left.fin.length c0_5) x0.left.fin) (f0_6 : RS σ 1 Go.E.encI (.slice a0_6 x0.right.cls.length c0_6) x0.right.cls) (f0_7 : RZ σ (pkSl 1 Go.E.encI Go.E.encI_len) (.slice a0_7 x0.right.next.length c0_7) x0.right.next) (f0_8 : RS σ 1 encB (.slice a0_8 x0.right.fin.length c0_8) x0.right.fin) (f0_9 : RZ σ (pkSl 1 Go.E.encI Go.E.encI_len) (.slice a0_9 x0.by'.next.length c0_9) x0.by'.next) (f0_10 : RZ σ (pkSl 1 Go.E.encS Go.E.encS_len) (.slice a0_10 x0.by'.outs.length c0_10) x0.by'.outs) (f0_11 : RS σ 1 encB (.slice a0_11 x0.by'.fin.length c0_11) x0.by'.fin) (f0_12 : RS σ 1 Go.E.encS (.slice a0_12 x0.by'.tail.length c0_12) x0.by'.tail) {r : Piece × Int} (hh : whittleref24_Turn x0 x1 = some r) :
  Con Tryz.prog 9 #[.agg #[.slice a0_0 x0.of.cls.length c0_0, .slice a0_1 x0.of.next.length c0_1, .slice a0_2 x0.of.fin.length c0_2, .slice a0_3 x0.left.cls.length c0_3, .slice a0_4 x0.left.next.length c0_4, .slice a0_5 x0.left.fin.length c0_5, .slice a0_6 x0.right.cls.length c0_6, .slice a0_7 x0.right.next.length c0_7, .slice a0_8 x0.right.fin.length c0_8, .string (bs x0.out), .bool x0.mapped, .string (bs x0.by'.front), .slice a0_9 x0.by'.next.length c0_9, .slice a0_10 x0.by'.outs.length c0_10, .slice a0_11 x0.by'.fin.length c0_11, .slice a0_12 x0.by'.tail.length c0_12], .string (bs x1)] σ [] (whittleref24_Turn_P σ r) := by
 dsimp only [whittleref24_Turn] at hh
 have f0_0b := f0_0.rv.big
 have f0_1b := f0_1.big
 have f0_2b := f0_2.rv.big
 have f0_3b := f0_3.rv.big
 have f0_4b := f0_4.big
 have f0_5b := f0_5.rv.big
 have f0_6b := f0_6.rv.big
 have f0_7b := f0_7.big
 have f0_8b := f0_8.rv.big
 have f0_9b := f0_9.big
 have f0_10b := f0_10.big
 have f0_11b := f0_11.rv.big
 have f0_12b := f0_12.rv.big
 refine Con.mk (n := 133) Tryz.func9 z z z (fun w0 => ?_)
 have x1b := grd_c hh
 replace hh := grd_t hh
 refine TC.a (TL.op z (boxA z z z z (fun b101 => ?_)))
 refine TL.op z (OpOk.alloc z ze36 z z (fun b103 => ?_))
 refine TL.i z z (TL.en (TC.seq (TC.a (TL.w z (loadAll z ag32 sz32 z (i := 1) z z) ?_))))
 obtain ⟨v5, u5, hh⟩ := bnd_e hh
 refine TL.op z (callP (whittleref24_Right_con (x0 := x0) f0_0 f0_1 f0_2 f0_3 f0_4 f0_5 f0_6 f0_7 f0_8 f0_9 f0_10 f0_11 f0_12 u5) z z pf34 z z z ?_)
 refine TL.w z (OpVal.not z z) (TL.en (TC.cB z hh (fun h105 hh => ?_) (fun h105 hh => ?_)))
 ·refine TC.a (TL.w z (buildL z pl36 ze36 z) (TL.op z (storeAll z sz36 z z z z z z ?_)))
  refine TL.i z z (TL.en (TC.rt 1 (S.r ?_)))
  obtain rfl := so hh
  exact ro [] z (RVs.agg ag36 sz36 z (i := 0) z z (RVs.tmp z RVs.nil)) ⟨none, 0, z, (RS.nilF _ encSpan encSpan_len), z⟩
 ·refine TC.skip (S.n (TC.a (TL.w z (fieldLoc z fo32_0 z) (TL.w z (loadLocA z ag26 sz26 z (i := 1) z z z) (TL.w z (fieldLoc z fo32_1 z) (TL.w z (loadLocA z ag26 sz26 z (i := 1) z z z) (TL.w z (fieldLoc z fo32_2 z) (TL.w z (loadLocA z ag26 sz26 z (i := 1) z z z) (TL.w z (moveStr (.inl z) z) ?_)))))))))
  obtain ⟨v17, u17, hh⟩ := bnd_e hh
  refine TL.op z (OpOk.call (whittleref23_Factors_con (x0 := x0.of) (x1 := x0.left) (x2 := x0.right) f0_0 f0_1 f0_2 f0_3 f0_4 f0_5 f0_6 f0_7 f0_8 u17) z z pf35 z z z z ?_)
  rintro _ τ106 _ hle106 ⟨a106_1, c106_1, rfl, hr106_0, rfl⟩
  replace f0_0 := f0_0.mono hle106
  replace f0_1 := f0_1.mono hle106
  replace f0_2 := f0_2.mono hle106
  replace f0_3 := f0_3.mono hle106
  replace f0_4 := f0_4.mono hle106
  replace f0_5 := f0_5.mono hle106
  replace f0_6 := f0_6.mono hle106
  replace f0_7 := f0_7.mono hle106
  replace f0_8 := f0_8.mono hle106
  replace f0_9 := f0_9.mono hle106
  replace f0_10 := f0_10.mono hle106
  replace f0_11 := f0_11.mono hle106
  replace f0_12 := f0_12.mono hle106
  have hr106_0b := hr106_0.rv.big
  refine TL.w z (moveT (.inl z) z) (TL.w z (OpVal.extract z z z) (TL.w z (OpVal.extract z z z) (TL.s z z (TL.i z z (TL.en (TC.seq (TC.a (TL.i z z (TL.w z (OpVal.neq z z z) (TL.en (TC.cD z hh (fun h107 hh => ?_) (fun h107 hh => ?_))))))))))))
  ·refine TC.a (TL.w z (buildL z pl36 ze36 z) (TL.i z z (TL.op z (storeAll z sz36 z z z z z z ?_))))
   refine TL.i z z (TL.en (TC.rt 1 (S.r ?_)))
   obtain rfl := so hh
   exact ro [] z (RVs.agg ag36 sz36 z (i := 0) z z (RVs.tmp z RVs.nil)) ⟨none, 0, z, (RS.nilF _ encSpan encSpan_len), z⟩
  ·refine TC.skip (S.n (TC.a (TL.w z (buildL z pl36 ze36 z) (TL.op z (OpOk.alloc z ze36 z z (fun b108 => ?_))))))
   refine TL.op z (storeAll z sz36 z z z z z z ?_)
   refine TL.en (TC.a (TL.i z z (TL.en (TC.seq (TC.a (TL.i z z (TL.en (TC.block (TC.nilS 56 2 encSpan (TC.loopG (α := ((List UInt8) × (List Span) × Int × Nat) × ((Option Addr) × Nat)) (rgs [(9, 6), (35, 76)]) (fun g => [(9, .int .i64 g.1.2.2.1), (10, .int .i64 ((g.1.2.2.2 : Nat) : Int))]) (fun g => [Res.cells b101 #[.slice a0_0 x0.of.cls.length c0_0, .slice a0_1 x0.of.next.length c0_1, .slice a0_2 x0.of.fin.length c0_2, .slice a0_3 x0.left.cls.length c0_3, .slice a0_4 x0.left.next.length c0_4, .slice a0_5 x0.left.fin.length c0_5, .slice a0_6 x0.right.cls.length c0_6, .slice a0_7 x0.right.next.length c0_7, .slice a0_8 x0.right.fin.length c0_8, .string (bs x0.out), .bool x0.mapped, .string (bs x0.by'.front), .slice a0_9 x0.by'.next.length c0_9, .slice a0_10 x0.by'.outs.length c0_10, .slice a0_11 x0.by'.fin.length c0_11, .slice a0_12 x0.by'.tail.length c0_12] 32, Res.cells b103 #[.string (bs ([] : List UInt8)), .slice none 0 0] 36, Res.cells b108 #[.string (bs g.1.1), .slice g.2.1 g.1.2.1.length g.2.2] 36, Res.rowS 56 2 encSpan (.slice g.2.1 g.1.2.1.length g.2.2) g.1.2.1]) (fun g => τ106) (fun g => iter (fun q : (List UInt8) × (List Span) × Int × Nat => whittleref24_Turn_b1 v17 x1 x0 q.1 q.2.1 q.2.2.1 q.2.2.2) g.1 = some r) (fun g => rounds (fun q : (List UInt8) × (List Span) × Int × Nat => whittleref24_Turn_b1 v17 x1 x0 q.1 q.2.1 q.2.2.1 q.2.2.2) g.1) ((([] : List UInt8), ([] : List Span), 0, 0), (none, 0)) (Sub.f [1, 2, 3] 4) z (by repeat (first | exact trivial | refine ⟨z, ?_⟩)) hh (fun g1 j1 hg1 => ?_)))))))))))
   obtain ⟨⟨s124, l126, i129, k130⟩, ⟨a127, c128⟩⟩ := g1
   have hh := hg1; clear hg1
   try dsimp only
   obtain ⟨z1, hh, hR1⟩ := iter_e hh
   dsimp only [whittleref24_Turn_b1] at hh
   refine TC.isSl (i := 3) z (fun _ hb132 _ => ?_)
   refine TC.seq (TC.a (TL.i z z (TL.s z z (TL.w z (lenC z underlying34 z) (TL.w z (OpVal.lss z z z) (TL.en (TC.cD z hh (fun h133 hh => ?_) (fun h133 hh => ?_))))))))
   ·refine TC.skip (S.n (TC.seq (TC.block (TC.a (TL.s z z (TL.i z z (TL.w z (indexN z underlying34 sz56 z z hr106_0.rv.sl (by omega)) (TL.w z (loadSA Span.zero z ag56 sz56 z hr106_0 (by omega) (by omega)) (TL.op z (OpOk.alloc z ze56 z z (fun b134 => ?_)))))))))))
    refine TL.op z (storeAll z sz56 z z z z z z ?_)
    refine TL.en (TC.seq ?_)
    have u50 := grd_c hh
    replace hh := grd_t hh
    have u51 := grd_c hh
    replace hh := grd_t hh
    refine TC.draw [9] (by kernel_rfl) (TA.a 0 z (fieldLoc z fo36_0 z) z (TA.b 1 z (loadLoc z ag9 z (i := 3) z z) z (TA.a 2 z (moveStr (.inl z) z) z (TA.a 3 z (moveI (.inl z) z) z (TA.a 4 z (fieldLoc z fo56_0 z) z (TA.b 5 z (loadLoc z ag3 z (i := 0) z z) z (TA.b 6 rfl (sliceBs (l := x1) (i := i129.toNat) (j := ((nth v17.1 k130 Span.zero).frm).toNat) rfl underlying9 rfl (by show Value.int _ _ = _; rw [Int.toNat_of_nonneg (by omega)]) (by show Value.int _ _ = _; rw [Int.toNat_of_nonneg (by omega)]) (by omega) (by omega)) rfl (TA.a 7 z (catBs z z z u51) z (TA.a 8 z (fieldLoc z fo36_0 z) z (TA.front 3 z z (TA.last 9 (by kernel_rfl) z z z (storeStr z sz9 z z z z z ?_))))))))))))
    refine TZ.done (by kernel_rfl) (S.n (TC.seq ?_))
    have u60 := grd_c hh
    replace hh := grd_t hh
    obtain ⟨v62, u62, hh⟩ := bnd_e hh
    have u63 := grd_c hh
    replace hh := grd_t hh
    refine TC.draw [9, 10, 11] (by kernel_rfl) (TA.a 0 z (fieldLoc z fo36_1 z) z (TA.b 1 z (loadLoc z ag34 z (i := 0) z z) z (TA.a 2 z (moveStr (.inl z) z) z (TA.a 3 z (moveI (.inl z) z) z (TA.a 4 z (fieldLoc z fo56_0 z) z (TA.b 5 z (loadLoc z ag3 z (i := 1) z z) z (TA.b 6 rfl (sliceBs (l := x1) (i := i129.toNat) (j := ((nth v17.1 k130 Span.zero).frm).toNat) rfl underlying9 rfl (by show Value.int _ _ = _; rw [Int.toNat_of_nonneg (by omega)]) (by show Value.int _ _ = _; rw [Int.toNat_of_nonneg (by omega)]) (by omega) (by omega)) rfl (TA.a 7 z (moveI (.inl z) z) z (TA.ac 8 z (OpOk.call (whittleref24_own_con u62) z z pf36 z z z z ?_))))))))))
    rintro _ _ _ hle140 ⟨a140_1, c140_1, rfl, rfl, rfl⟩
    refine k1 (TA.front 5 z z (TA.last 9 (by kernel_rfl) z z z (appendS z z underlying34 sz56 by56 ze56 z z (by decide) z z z (.inr ⟨_, 0, z⟩) (by simpa using u63) (by decide) (fun a142 c143 => ?_))))
    refine TZ.v 10 (by kernel_rfl) z z z (fieldLoc z fo36_1 z) z z (TZ.front 2 z z (TZ.last 11 (by kernel_rfl) z z z (storeSl z sz34 z z z z z ?_)))
    refine TZ.done (by kernel_rfl) (S.n (TC.seq ?_))
    have u72 := grd_c hh
    replace hh := grd_t hh
    obtain ⟨v73, u73, hh⟩ := bnd_e hh
    refine TC.draw [] (by kernel_rfl) (TA.b 0 z (loadAll z ag32 sz32 z (i := 4) z z) z (TA.a 1 z (moveStr (.inl z) z) z (TA.a 2 z (fieldLoc z fo56_0 z) z (TA.b 3 z (loadLoc z ag3 z (i := 3) z z) z (TA.a 4 z (fieldLoc z fo56_1 z) z (TA.b 5 z (loadLoc z ag3 z (i := 3) z z) z (TA.b 6 rfl (sliceBs (l := x1) (i := ((nth v17.1 k130 Span.zero).frm).toNat) (j := ((nth v17.1 k130 Span.zero).to).toNat) rfl underlying9 rfl (by show Value.int _ _ = _; rw [Int.toNat_of_nonneg (by omega)]) (by show Value.int _ _ = _; rw [Int.toNat_of_nonneg (by omega)]) (by omega) (by omega)) rfl (TA.ac 7 z (callP (whittleref24_becomes_con (x0 := x0) f0_0 f0_1 f0_2 f0_3 f0_4 f0_5 f0_6 f0_7 f0_8 f0_9 f0_10 f0_11 f0_12 u73) z z pf37 z z z (k0 ?_))))))))))
    refine TA.a 8 z (moveT (.inl z) z) z (TA.a 9 z (OpVal.extract z z z) z (TA.a 10 z (OpVal.extract z z z) z (TA.a 11 z (moveStr (.inr z) z) z (TA.a 12 z (moveB (.inr z) z) z (TA.dn (S.n (TC.a (TL.w z (fieldLoc z fo36_0 z) (TL.w z (loadLoc z ag9 z (i := 0) z z) (TL.w z (moveStr (.inl z) z) ?_))))))))))
    have u82 := grd_c hh
    replace hh := grd_t hh
    refine TL.w z (catBs z z z u82) (TL.w z (fieldLoc z fo36_0 z) (TL.op z (storeStr z sz9 z z z z z ?_)))
    refine TL.en (TC.seq (TC.a (TL.i z z (TL.en (TC.block (TC.loopG (α := ((List Span) × Nat) × ((Option Addr) × Nat)) (rgs [(14, 1), (81, 28)]) (fun g => [(14, .int .i64 ((g.1.2 : Nat) : Int))]) (fun g => [Res.cells b101 #[.slice a0_0 x0.of.cls.length c0_0, .slice a0_1 x0.of.next.length c0_1, .slice a0_2 x0.of.fin.length c0_2, .slice a0_3 x0.left.cls.length c0_3, .slice a0_4 x0.left.next.length c0_4, .slice a0_5 x0.left.fin.length c0_5, .slice a0_6 x0.right.cls.length c0_6, .slice a0_7 x0.right.next.length c0_7, .slice a0_8 x0.right.fin.length c0_8, .string (bs x0.out), .bool x0.mapped, .string (bs x0.by'.front), .slice a0_9 x0.by'.next.length c0_9, .slice a0_10 x0.by'.outs.length c0_10, .slice a0_11 x0.by'.fin.length c0_11, .slice a0_12 x0.by'.tail.length c0_12] 32, Res.cells b103 #[.string (bs ([] : List UInt8)), .slice none 0 0] 36, Res.cells b108 #[.string (bs ((s124 ++ ((x1.take (((nth v17.1 k130 Span.zero).frm).toNat)).drop i129.toNat)) ++ v73.1)), .slice g.2.1 g.1.1.length g.2.2] 36, Res.rowS 56 2 encSpan (.slice g.2.1 g.1.1.length g.2.2) g.1.1, Res.cells b134 #[.int .i64 ((nth v17.1 k130 Span.zero).frm), .int .i64 ((nth v17.1 k130 Span.zero).to)] 56]) (fun g => τ106) (fun g => iter (fun q : (List Span) × Nat => whittleref24_Turn_b2 v73 v17 k130 s124 x1 i129 q.1 q.2) g.1 = some z1) (fun g => rounds (fun q : (List Span) × Nat => whittleref24_Turn_b2 v73 v17 k130 s124 x1 i129 q.1 q.2) g.1) (((l126 ++ v62), 0), (a142, c143)) (Sub.f [3, 2, 2, 5, 5] 5) z (by repeat (first | exact trivial | refine ⟨z, ?_⟩)) hh (fun g2 j2 hg2 => ?_)))))))
    obtain ⟨⟨l152, k155⟩, ⟨a153, c154⟩⟩ := g2
    have hh := hg2; clear hg2
    try dsimp only
    obtain ⟨z2, hh, hR2⟩ := iter_e hh
    dsimp only [whittleref24_Turn_b2] at hh
    refine TC.isSl (i := 3) z (fun _ hb156 _ => ?_)
    refine TC.seq (TC.a (TL.i z z (TL.w z (moveStr (.inl z) z) (TL.w z (lenBs z underlying9 z) (TL.w z (OpVal.lss z z z) (TL.en (TC.cD z hh (fun h157 hh => ?_) (fun h157 hh => ?_))))))))
    ·refine TC.skip (S.n (TC.cutG (α := ((List Span)) × ((Option Addr) × Nat)) (rgs [(87, 22)]) (fun g => []) (fun g => [Res.cells b101 #[.slice a0_0 x0.of.cls.length c0_0, .slice a0_1 x0.of.next.length c0_1, .slice a0_2 x0.of.fin.length c0_2, .slice a0_3 x0.left.cls.length c0_3, .slice a0_4 x0.left.next.length c0_4, .slice a0_5 x0.left.fin.length c0_5, .slice a0_6 x0.right.cls.length c0_6, .slice a0_7 x0.right.next.length c0_7, .slice a0_8 x0.right.fin.length c0_8, .string (bs x0.out), .bool x0.mapped, .string (bs x0.by'.front), .slice a0_9 x0.by'.next.length c0_9, .slice a0_10 x0.by'.outs.length c0_10, .slice a0_11 x0.by'.fin.length c0_11, .slice a0_12 x0.by'.tail.length c0_12] 32, Res.cells b103 #[.string (bs ([] : List UInt8)), .slice none 0 0] 36, Res.cells b108 #[.string (bs ((s124 ++ ((x1.take (((nth v17.1 k130 Span.zero).frm).toNat)).drop i129.toNat)) ++ v73.1)), .slice g.2.1 g.1.length g.2.2] 36, Res.rowS 56 2 encSpan (.slice g.2.1 g.1.length g.2.2) g.1, Res.cells b134 #[.int .i64 ((nth v17.1 k130 Span.zero).frm), .int .i64 ((nth v17.1 k130 Span.zero).to)] 56]) (fun g => τ106) (fun g => whittleref24_Turn_j1 k155 g.1 = some z2) ?_ (fun g j hg => ?_)))
     ·skip
      refine TC.block (TC.a (TL.j z z (TL.en (TC.cB z hh (fun h161 hh => ?_) (fun h161 hh => ?_)))))
      ·refine TC.region (TL.w z (fieldLoc z fo36_1 z) (TL.w z (loadLoc z ag34 z (i := 2) z z) (TL.w z (fieldLoc z fo56_0 z) (TL.w z (loadLoc z ag3 z (i := 4) z z) (TL.i z z (TL.w z (addW z z z) (TL.w z (fieldLoc z fo56_0 z) (TL.w z (loadLoc z ag3 z (i := 4) z z) (TL.i z z (TL.w z (addW z z z) (TL.w z (addW z z z) (TL.w z (buildL z pl56 ze56 z) (TL.op z (OpOk.lit (enc := encSpan) [(⟨IntKind.i64.wrap (((nth v17.1 k130 Span.zero).frm) + ((k155 : Nat) : Int)), IntKind.i64.wrap ((IntKind.i64.wrap (((nth v17.1 k130 Span.zero).frm) + ((k155 : Nat) : Int))) + 1)⟩ : Span)] z underlying34 sz56 ze56 z z z encSpan_len (by decide) (by decide) Span.zero z (by decide) z (by decide) encSpan_one (fun a162 c163 => ?_)))))))))))))))
       refine TL.front 4 z z ?_
       have u104 := grd_c hh
       replace hh := grd_t hh
       refine TL.op z (appendS z z underlying34 sz56 by56 ze56 z z (by decide) z z z (.inr ⟨_, 0, z⟩) (by simpa using u104) (by decide) (fun a165 c166 => ?_))
       refine TL.w z (fieldLoc z fo36_1 z) (TL.front 4 z z (TL.op z (storeSl z sz34 z z z z z ?_)))
       exact TL.nil (B.n (S.n (cf ((l152 ++ [(⟨IntKind.i64.wrap (((nth v17.1 k130 Span.zero).frm) + ((k155 : Nat) : Int)), IntKind.i64.wrap ((IntKind.i64.wrap (((nth v17.1 k130 Span.zero).frm) + ((k155 : Nat) : Int))) + 1)⟩ : Span)]), (a165, c166)) hh (Sub.f [5, 2, 2, 5, 5] 5))))
      ·refine TC.region (TL.w z (fieldLoc z fo36_1 z) (TL.w z (loadLoc z ag34 z (i := 2) z z) (TL.w z (loadAll z ag56 sz56 z (i := 4) z z) (TL.op z (OpOk.lit (enc := encSpan) [(nth v17.1 k130 Span.zero)] z underlying34 sz56 ze56 z z z encSpan_len (by decide) (by decide) Span.zero z (by decide) z (by decide) encSpan_one (fun a167 c168 => ?_))))))
       refine TL.front 4 z z ?_
       have u111 := grd_c hh
       replace hh := grd_t hh
       refine TL.op z (appendS z z underlying34 sz56 by56 ze56 z z (by decide) z z z (.inr ⟨_, 0, z⟩) (by simpa using u111) (by decide) (fun a170 c171 => ?_))
       refine TL.w z (fieldLoc z fo36_1 z) (TL.front 4 z z (TL.op z (storeSl z sz34 z z z z z ?_)))
       exact TL.nil (B.n (S.n (cf ((l152 ++ [(nth v17.1 k130 Span.zero)]), (a170, c171)) hh (Sub.f [5, 2, 2, 5, 5] 5))))
     ·skip
      obtain ⟨l158, ⟨a159, c160⟩⟩ := g
      have hh := hg; clear hg
      try dsimp only
      dsimp only [whittleref24_Turn_j1] at hh
      refine TC.isSl (i := 3) z (fun _ hb172 _ => ?_)
      refine TC.region (TL.i z z (TL.w z (OpVal.succ z z z (by omega)) (TL.i z z (TL.en ?_))))
      obtain ⟨hh, hlt173⟩ := nxt_x hR2 hh
      exact lf ((l158, (k155 + 1)), (a159, c160)) hlt173 hh (Sub.f [4, 4, 4, 4, 4] 5)
    ·refine TC.exit (S.x (S.x ?_))
     replace hh := fin_x hR2 hh
     refine TC.exitHere (S.n (TC.region (TL.w z (fieldLoc z fo56_1 z) (TL.w z (loadLoc z ag3 z (i := 4) z z) (TL.i z z (TL.nil (B.n (S.n (TC.region (TL.i z z (TL.w z (OpVal.succ z z z (by omega)) (TL.i z z (TL.en ?_)))))))))))))
     obtain ⟨hh, hlt174⟩ := nxt_x hR1 hh
     exact lf ((((s124 ++ ((x1.take (((nth v17.1 k130 Span.zero).frm).toNat)).drop i129.toNat)) ++ v73.1), l152, ((nth v17.1 k130 Span.zero).to), (k130 + 1)), (a153, c154)) hlt174 hh (Sub.f [3, 3, 3, 3] 4)
   ·refine TC.exit (S.x (S.x ?_))
    replace hh := fin_x hR1 hh
    refine TC.exitHere (S.n (TC.seq ?_))
    have u127 := grd_c hh
    replace hh := grd_t hh
    have u128 := grd_c hh
    replace hh := grd_t hh
    refine TC.draw [7] (by kernel_rfl) (TA.a 0 z (fieldLoc z fo36_0 z) z (TA.b 1 z (loadLoc z ag9 z (i := 2) z z) z (TA.a 2 z (moveStr (.inl z) z) z (TA.a 3 z (moveI (.inl z) z) z (TA.b 4 rfl (sliceBsL (l := x1) (i := i129.toNat) rfl underlying9 rfl (by show Value.int _ _ = _; rw [Int.toNat_of_nonneg (by omega)]) (by omega) (by omega)) rfl (TA.a 5 z (catBs z z z u128) z (TA.a 6 z (fieldLoc z fo36_0 z) z (TA.front 2 z z (TA.last 7 (by kernel_rfl) z z z (storeStr z sz9 z z z z z ?_))))))))))
    refine TZ.done (by kernel_rfl) (S.n (TC.seq ?_))
    have u135 := grd_c hh
    replace hh := grd_t hh
    obtain ⟨v137, u137, hh⟩ := bnd_e hh
    have u138 := grd_c hh
    replace hh := grd_t hh
    refine TC.draw [7, 8, 9] (by kernel_rfl) (TA.a 0 z (fieldLoc z fo36_1 z) z (TA.b 1 z (loadLoc z ag34 z (i := 0) z z) z (TA.a 2 z (moveStr (.inl z) z) z (TA.a 3 z (moveI (.inl z) z) z (TA.b 4 rfl (sliceBsL (l := x1) (i := i129.toNat) rfl underlying9 rfl (by show Value.int _ _ = _; rw [Int.toNat_of_nonneg (by omega)]) (by omega) (by omega)) rfl (TA.a 5 z (moveI (.inl z) z) z (TA.ac 6 z (OpOk.call (whittleref24_own_con u137) z z pf36 z z z z ?_))))))))
    rintro _ _ _ hle179 ⟨a179_1, c179_1, rfl, rfl, rfl⟩
    refine k1 (TA.front 4 z z (TA.last 7 (by kernel_rfl) z z z (appendS z z underlying34 sz56 by56 ze56 z z (by decide) z z z (.inr ⟨_, 0, z⟩) (by simpa using u138) (by decide) (fun a181 c182 => ?_))))
    refine TZ.v 8 (by kernel_rfl) z z z (fieldLoc z fo36_1 z) z z (TZ.front 2 z z (TZ.last 9 (by kernel_rfl) z z z (storeSl z sz34 z z z z z ?_)))
    refine TZ.done (by kernel_rfl) (S.n (TC.seq (TC.a (TL.w z (fieldLoc z fo36_0 z) (TL.w z (loadLoc z ag9 z (i := 0) z z) (TL.w z (lenBs z underlying9 z) (TL.w z (OpVal.gtr z z z) (TL.en (TC.cD z hh (fun h183 hh => ?_) (fun h183 hh => ?_))))))))))
    ·refine TC.a (TL.w z (buildL z pl36 ze36 z) (TL.front 4 z z (TL.op z (storeAll z sz36 z z z z z z ?_))))
     refine TL.i z z (TL.en (TC.rt 1 (S.r ?_)))
     obtain rfl := so hh
     exact ro [] z (RVs.agg ag36 sz36 z (i := 0) z z (RVs.tmp z RVs.nil)) ⟨none, 0, z, (RS.nilF _ encSpan encSpan_len), z⟩
    ·refine TC.skip (S.n (TC.a (TL.w z (loadAll z ag36 sz36 z (i := 0) z z) (TL.front 4 z z (TL.op z (storeAll z sz36 z z z z z z ?_))))))
     refine TL.i z z (TL.en (TC.front 2 z z (TC.sealS encSpan_len (fun τ186 hle185 hr184 => ?_))))
     have hr184b := hr184.rv.big
     refine TC.rt 1 ?_
     obtain rfl := so hh
     exact ro [] z (RVs.agg ag36 sz36 z (i := 0) z z (RVs.tmp z RVs.nil)) ⟨a181, c182, z, hr184, z⟩

end Go.Proofs.YtmfclggfajopkaaGreatDoor
end

/- C4 -/
section
/- Decompiled: rules, one behind the other: steps; the reference. -/
set_option linter.unusedVariables false
set_option linter.unusedSimpArgs false
namespace Go.Proofs.YtmfclggfajopkaaGreatDoor
open Go Go.E Go.E.OpVal Go.E.OpOk Go.Proofs.Tryz
set_option maxRecDepth 100000
private theorem by36 : Go.E.byOf Tryz.prog 36 = some 40 := by kernel_rfl
private theorem pf11 : Go.E.plainF Tryz.prog 11 = true := by kernel_rfl
private theorem pf112 : Go.E.plainF Tryz.prog 112 = true := by kernel_rfl
private theorem pf113 : Go.E.plainF Tryz.prog 113 = true := by kernel_rfl
private theorem pf121 : Go.E.plainF Tryz.prog 121 = true := by kernel_rfl
private theorem pf22 : Go.E.plainF Tryz.prog 22 = true := by kernel_rfl
private theorem pf46 : Go.E.plainF Tryz.prog 46 = true := by kernel_rfl
private theorem pf49 : Go.E.plainF Tryz.prog 49 = true := by kernel_rfl
private theorem pf53 : Go.E.plainF Tryz.prog 53 = true := by kernel_rfl
private theorem pf54 : Go.E.plainF Tryz.prog 54 = true := by kernel_rfl
private theorem pf55 : Go.E.plainF Tryz.prog 55 = true := by kernel_rfl
private theorem pf9 : Go.E.plainF Tryz.prog 9 = true := by kernel_rfl
private theorem pf92 : Go.E.plainF Tryz.prog 92 = true := by kernel_rfl
private theorem pf93 : Go.E.plainF Tryz.prog 93 = true := by kernel_rfl
private theorem ze32 : Go.E.zeroOf Tryz.prog 32 = some (.agg #[.slice none 0 0, .slice none 0 0, .slice none 0 0, .slice none 0 0, .slice none 0 0, .slice none 0 0, .slice none 0 0, .slice none 0 0, .slice none 0 0, .string ByteArray.empty, .bool false, .string ByteArray.empty, .slice none 0 0, .slice none 0 0, .slice none 0 0, .slice none 0 0]) := by kernel_rfl

noncomputable def cascade_Steps_1_j1 (x0 : List Piece) (s108 : List UInt8) (l109 : List Span) (i113 : Int) : Option ((List Piece) × Int) :=
 grd ((x0.length + [(⟨s108, l109⟩ : Piece)].length) * 40 ≤ 140737488355328) (some ((x0 ++ [(⟨s108, l109⟩ : Piece)]), i113))
noncomputable def cascade_Steps_1 (x0 : List Piece) (x1 : Rule) (x2 : List UInt8) : Option ((List Piece) × Int) :=
 grd (0 ≤ (IntKind.i64.wrap (((x0.length : Nat) : Int) - 1)) ∧ (IntKind.i64.wrap (((x0.length : Nat) : Int) - 1)) < (x0.length : Int)) (bnd (cascade_turn (nth x0 ((IntKind.i64.wrap (((x0.length : Nat) : Int) - 1)).toNat) Piece.zero) x1 ((x2.length : Nat) : Int)) (fun v13 => cascade_Steps_1_j1 x0 v13.1.text v13.1.at' v13.2))
theorem cascade_Steps_1_con {σ : Store} {x0 : List Piece} {a0_1 : Option Addr} {c0_2 : Nat} {z0_3 : List (Piece × pkPiece.P)} {x1 : Rule} {a1_0 : Option Addr} {c1_0 : Nat} {a1_1 : Option Addr} {c1_1 : Nat} {a1_2 : Option Addr} {c1_2 : Nat} {a1_3 : Option Addr} {c1_3 : Nat} {a1_4 : Option Addr} {c1_4 : Nat} {a1_5 : Option Addr} {c1_5 : Nat} {a1_6 : Option Addr} {c1_6 : Nat} {a1_7 : Option Addr} {c1_7 : Nat} {a1_8 : Option Addr} {c1_8 : Nat} {a1_9 : Option Addr} {c1_9 : Nat} {a1_10 : Option Addr} {c1_10 : Nat} {a1_11 : Option Addr} {c1_11 : Nat} {a1_12 : Option Addr} {c1_12 : Nat} {x2 : List UInt8} {b2_0 : Nat} {Eb2 : Nat} (zf0_4 : ZOk σ pkPiece z0_3 x0) (f1_0 : RS σ 1 Go.E.encI (.slice a1_0 x1.of.cls.length c1_0) x1.of.cls) (f1_1 : RZ σ (pkSl 1 Go.E.encI Go.E.encI_len) (.slice a1_1 x1.of.next.length c1_1) x1.of.next) (f1_2 : RS σ 1 encB (.slice a1_2 x1.of.fin.length c1_2) x1.of.fin) (f1_3 : RS σ 1 Go.E.encI (.slice a1_3 x1.left.cls.length c1_3) x1.left.cls) (f1_4 : RZ σ (pkSl 1 Go.E.encI Go.E.encI_len) (.slice a1_4 x1.left.next.length c1_4) x1.left.next) (f1_5 : RS σ 1 encB (.slice a1_5 x1.left.fin.length c1_5) x1.left.fin) (f1_6 : RS σ 1 Go.E.encI (.slice a1_6 x1.right.cls.length c1_6) x1.right.cls) (f1_7 : RZ σ (pkSl 1 Go.E.encI Go.E.encI_len) (.slice a1_7 x1.right.next.length c1_7) x1.right.next) (f1_8 : RS σ 1 encB (.slice a1_8 x1.right.fin.length c1_8) x1.right.fin) (f1_9 : RZ σ (pkSl 1 Go.E.encI Go.E.encI_len) (.slice a1_9 x1.by'.next.length c1_9) x1.by'.next) (f1_10 : RZ σ (pkSl 1 Go.E.encS Go.E.encS_len) (.slice a1_10 x1.by'.outs.length c1_10) x1.by'.outs) (f1_11 : RS σ 1 encB (.slice a1_11 x1.by'.fin.length c1_11) x1.by'.fin) (f1_12 : RS σ 1 Go.E.encS (.slice a1_12 x1.by'.tail.length c1_12) x1.by'.tail) {r : (List Piece) × Int} (hh : cascade_Steps_1 x0 x1 x2 = some r) :
  Con Tryz.prog 54 #[.slice a0_1 x0.length c0_2, .agg #[.slice a1_0 x1.of.cls.length c1_0, .slice a1_1 x1.of.next.length c1_1, .slice a1_2 x1.of.fin.length c1_2, .slice a1_3 x1.left.cls.length c1_3, .slice a1_4 x1.left.next.length c1_4, .slice a1_5 x1.left.fin.length c1_5, .slice a1_6 x1.right.cls.length c1_6, .slice a1_7 x1.right.next.length c1_7, .slice a1_8 x1.right.fin.length c1_8, .string (bs x1.out), .bool x1.mapped, .string (bs x1.by'.front), .slice a1_9 x1.by'.next.length c1_9, .slice a1_10 x1.by'.outs.length c1_10, .slice a1_11 x1.by'.fin.length c1_11, .slice a1_12 x1.by'.tail.length c1_12], loc b2_0 0] σ [Res.rowS 36 2 pkPiece.en (.slice a0_1 x0.length c0_2) z0_3, Res.cells b2_0 #[.string (bs x2)] Eb2] (fun v σ' H' => ∃ (a1 : Option Addr), ∃ (c1 : Nat), ∃ (zr1 : List (Piece × pkPiece.P)), v = .tuple #[.slice a1 r.1.length c1, .int .i64 r.2] ∧ ZOk σ' pkPiece zr1 r.1 ∧ H' = [Res.rowS 36 2 pkPiece.en (.slice a1 r.1.length c1) zr1, Res.cells b2_0 #[.string (bs x2)] Eb2]) := by
 dsimp only [cascade_Steps_1] at hh
 have zf0_4b := zf0_4.length
 have f1_0b := f1_0.rv.big
 have f1_1b := f1_1.big
 have f1_2b := f1_2.rv.big
 have f1_3b := f1_3.rv.big
 have f1_4b := f1_4.big
 have f1_5b := f1_5.rv.big
 have f1_6b := f1_6.rv.big
 have f1_7b := f1_7.big
 have f1_8b := f1_8.rv.big
 have f1_9b := f1_9.big
 have f1_10b := f1_10.big
 have f1_11b := f1_11.rv.big
 have f1_12b := f1_12.rv.big
 refine Con.mk (n := 27) Tryz.func54 z z z (fun w0 => ?_)
 refine TC.a (TL.op z (boxA z z z z (fun b103 => ?_)))
 refine TL.s z z (TL.i z z (TL.en (TC.cutG (α := ((List UInt8) × (List Span) × Int) × (Nat × (Option Addr) × Nat × Store)) (rgs [(7, 15)]) (fun g => [(7, loc g.2.1 0), (8, .int .i64 g.1.2.2)]) (fun g => [Res.rowS 36 2 pkPiece.en (.slice a0_1 x0.length c0_2) z0_3, Res.cells g.2.1 #[.string (bs g.1.1), .slice g.2.2.1 g.1.2.1.length g.2.2.2.1] 36, Res.cells b2_0 #[.string (bs x2)] Eb2]) (fun g => g.2.2.2.2) (fun g => cascade_Steps_1_j1 x0 g.1.1 g.1.2.1 g.1.2.2 = some r ∧ ZOk g.2.2.2.2 pkPiece z0_3 x0 ∧ RS g.2.2.2.2 2 encSpan (.slice g.2.2.1 g.1.2.1.length g.2.2.2.1) g.1.2.1 ∧ Store.le σ g.2.2.2.2) ?_ (fun g j hg => ?_))))
 ·skip
  have u8 := grd_c hh
  replace hh := grd_t hh
  obtain ⟨v13, u13, hh⟩ := bnd_e hh
  refine TC.draw [12, 14, 15] (by kernel_rfl) (TA.a 0 z (moveSl (.inl z) z) z (TA.a 1 z (moveSl (.inl z) z) z (TA.b 2 z (lenC z underlying50 z) z (TA.a 3 z (subW z z z) z (TA.isSl (i := 1) z (fun hs119 _ _ => ?_))))))
  refine TA.b 4 z (OpVal.index z underlying50 sz36 z z (zf0_4.isSl hs119) u8.1 u8.2) z ?_
  obtain ⟨p120, hp120⟩ : ∃ p, p = (nth z0_3 ((IntKind.i64.wrap (((x0.length : Nat) : Int) - 1)).toNat) (pkPiece.d, pkPiece.dp)).2 := ⟨_, rfl⟩
  have hk120 : RS σ 2 encSpan (.slice p120.1 (nth x0 ((IntKind.i64.wrap (((x0.length : Nat) : Int) - 1)).toNat) Piece.zero).at'.length p120.2) (nth x0 ((IntKind.i64.wrap (((x0.length : Nat) : Int) - 1)).toNat) Piece.zero).at' := by rw [hp120]; exact (zf0_4.at (by omega)).2
  refine TA.b 5 z ((hp120 ▸ loadOZA zf0_4 z ag36 sz36 z (by decide) z (q := 1) z (by omega))) z (TA.b 6 z (loadAll z ag32 sz32 z (i := 0) z z) z (TA.b 7 z (loadLoc z ag9 z (i := 2) z z) z (TA.b 8 z (lenBs z underlying9 z) z (TA.actN [9, 13] (by kernel_rfl) (an z z (OpOk.call (cascade_turn_con (x0 := (nth x0 ((IntKind.i64.wrap (((x0.length : Nat) : Int) - 1)).toNat) Piece.zero)) (x1 := x1) hk120 f1_0 f1_1 f1_2 f1_3 f1_4 f1_5 f1_6 f1_7 f1_8 f1_9 f1_10 f1_11 f1_12 u13) z z pf49 z z z z ?_) (an z z (OpOk.alloc z ze36 z z (fun b122 => (k1 ?_))) (True.intro)))))))
  ·skip
   rintro _ τ121 _ hle121 ⟨a121_1, c121_1, rfl, hr121_0, rfl⟩
   replace zf0_4 := zf0_4.mono hle121
   replace f1_0 := f1_0.mono hle121
   replace f1_1 := f1_1.mono hle121
   replace f1_2 := f1_2.mono hle121
   replace f1_3 := f1_3.mono hle121
   replace f1_4 := f1_4.mono hle121
   replace f1_5 := f1_5.mono hle121
   replace f1_6 := f1_6.mono hle121
   replace f1_7 := f1_7.mono hle121
   replace f1_8 := f1_8.mono hle121
   replace f1_9 := f1_9.mono hle121
   replace f1_10 := f1_10.mono hle121
   replace f1_11 := f1_11.mono hle121
   replace f1_12 := f1_12.mono hle121
   replace hk120 := hk120.mono hle121
   have hr121_0b := hr121_0.rv.big
   refine kl 0 hle121 (TA.a 10 z (moveT (.inl z) z) z (TA.a 11 z (OpVal.extract z z z) z (TA.a 12 z (OpVal.extract z z z) z (TA.ac 13 z (OpOk.alloc z ze36 z z (fun b124 => (kl 1 hle121 ?_)))))))
   refine TA.last 14 (by kernel_rfl) z z z (storeAll z sz36 z z z z z z ?_)
   exact TZ.v 15 (by kernel_rfl) z z z (moveI (.inr z) z) z z (TZ.done (by kernel_rfl) (S.n (cf ((v13.1.text, v13.1.at', v13.2), (b124, a121_1, c121_1, τ121)) ⟨hh, zf0_4, hr121_0, hle121⟩ (Sub.f [3, 1, 3] 3))))
  ·skip
   refine TA.ac 9 z (OpOk.call (cascade_turn_con (x0 := (nth x0 ((IntKind.i64.wrap (((x0.length : Nat) : Int) - 1)).toNat) Piece.zero)) (x1 := x1) hk120 f1_0 f1_1 f1_2 f1_3 f1_4 f1_5 f1_6 f1_7 f1_8 f1_9 f1_10 f1_11 f1_12 u13) z z pf49 z z z z ?_)
   rintro _ τ126 _ hle126 ⟨a126_1, c126_1, rfl, hr126_0, rfl⟩
   replace zf0_4 := zf0_4.mono hle126
   have hr126_0b := hr126_0.rv.big
   refine kl 1 hle126 (TA.a 10 z (moveT (.inl z) z) z (TA.a 11 z (OpVal.extract z z z) z (TA.a 12 z (OpVal.extract z z z) z (TA.last 14 (by kernel_rfl) z z z (storeAll z sz36 z z z z z z ?_)))))
   exact TZ.v 15 (by kernel_rfl) z z z (moveI (.inr z) z) z z (TZ.done (by kernel_rfl) (S.n (cf ((v13.1.text, v13.1.at', v13.2), (b122, a126_1, c126_1, τ126)) ⟨hh, zf0_4, hr126_0, hle126⟩ (Sub.f [3, 1, 3] 3))))
 ·skip
  obtain ⟨⟨s108, l109, i113⟩, ⟨b107, a110, c111, τ127⟩⟩ := g
  obtain ⟨hh, zf105, hr112, hle128⟩ := hg
  try dsimp only at zf105 hr112 hle128 ⊢
  dsimp only [cascade_Steps_1_j1] at hh
  have zf105b := zf105.length
  have hr112b := hr112.rv.big
  refine TC.isSl (i := 0) z (fun _ hb129 _ => ?_)
  refine TC.a (TL.s z z (TL.w z (loadAll z ag36 sz36 z (i := 1) z z) ?_))
  have zf132 : ZOk _ pkPiece ([((⟨s108, l109⟩ : Piece), (a110, c111))] : List (Piece × pkPiece.P)) [(⟨s108, l109⟩ : Piece)] := ZOk.cons (hr112) (ZOk.nil _ _)
  refine TL.op z (litZ zf132 z underlying50 sz36 z ze36 z z z (by decide) (by decide) z (by decide) z (by decide) (fun a130 c131 => ?_))
  refine TL.front 1 z z ?_
  have u23 := grd_c hh
  replace hh := grd_t hh
  refine TL.op z (appendZ (k := pkPiece) zf105 zf132 z z underlying50 sz36 by36 ze36 z z (by decide) z z z (.inr ⟨_, 0, z⟩) (by simpa using u23) (by decide) (fun a134 c135 zf136 => ?_))
  refine TL.i z z (TL.s z z (TL.i z z (TL.en (TC.ofSub (Sub.f [3, 1] 2) (TC.ret ?_)))))
  obtain rfl := so hh
  exact ro [Res.rowS 36 2 pkPiece.en (.slice a134 (x0 ++ [(⟨s108, l109⟩ : Piece)]).length c135) (z0_3 ++ ([((⟨s108, l109⟩ : Piece), (a110, c111))] : List (Piece × pkPiece.P))), Res.cells b2_0 #[.string (bs x2)] Eb2] z (RVs.tmp z (RVs.tmp z RVs.nil)) ⟨a134, c135, (z0_3 ++ ([((⟨s108, l109⟩ : Piece), (a110, c111))] : List (Piece × pkPiece.P))), z, zf136, z⟩

noncomputable def foldL_b1 (x0 : List Rule) (x2_0 : List UInt8) (l119 : List Piece) (k124 : Nat) : Option (((List Piece) × Nat) ⊕ ((List Piece) × Int)) :=
 iteO (decide (((k124 : Nat) : Int) < ((x0.length : Nat) : Int))) (bnd (cascade_Steps_1 l119 (nth x0 k124 Rule.zero) x2_0) (fun v14 => iteO (decide (v14.2 ≠ 0)) (fin (some (([] : List Piece), v14.2))) (nxt (v14.1, (k124 + 1))))) (fin (some (l119, 0)))
noncomputable def foldL (x0 : List Rule) (x1 : List Piece) (x2_0 : List UInt8) : Option ((List Piece) × Int) :=
 iter (fun q : (List Piece) × Nat => foldL_b1 x0 x2_0 q.1 q.2) (x1, 0)
theorem foldL_con {σ : Store} {x0 : List Rule} {a0_0 : Option Addr} {c0_0 : Nat} {x1 : List Piece} {a1_1 : Option Addr} {c1_2 : Nat} {z1_3 : List (Piece × pkPiece.P)} {x2_0 : List UInt8} {b2_0_0 : Nat} {Eb2_0 : Nat} (f0_0 : RZ σ pkRule (.slice a0_0 x0.length c0_0) x0) (zf1_4 : ZOk σ pkPiece z1_3 x1) {r : (List Piece) × Int} (hh : foldL x0 x1 x2_0 = some r) :
  Con Tryz.prog 53 #[.slice a0_0 x0.length c0_0, .slice a1_1 x1.length c1_2, .func (.func 54) #[] #[loc b2_0_0 0]] σ [Res.rowS 36 2 pkPiece.en (.slice a1_1 x1.length c1_2) z1_3, Res.cells b2_0_0 #[.string (bs x2_0)] Eb2_0] (fun v σ' H' => ∃ (a1 : Option Addr), ∃ (c1 : Nat), ∃ (zr1 : List (Piece × pkPiece.P)), v = .tuple #[.slice a1 r.1.length c1, .int .i64 r.2] ∧ ZOk σ' pkPiece zr1 r.1 ∧ H' = [Res.rowS 36 2 pkPiece.en (.slice a1 r.1.length c1) zr1, Res.cells b2_0_0 #[.string (bs x2_0)] Eb2_0]) := by
 dsimp only [foldL] at hh
 have f0_0b := f0_0.big
 have zf1_4b := zf1_4.length
 refine Con.mk (n := 33) Tryz.func53 z z z (fun w0 => ?_)
 refine TC.a (TL.s z z (TL.i z z (TL.en (TC.seq (TC.a (TL.s z z (TL.w z (lenC z underlying45 z) (TL.i z z (TL.en (TC.block (TC.loopG (α := ((List Piece) × Nat) × ((Option Addr) × Nat × (List (Piece × pkPiece.P)) × Store)) (rgs [(1, 1), (6, 2), (9, 4), (15, 17)]) (fun g => [(1, .slice g.2.1 g.1.1.length g.2.2.1), (15, .int .i64 ((g.1.2 : Nat) : Int))]) (fun g => [Res.rowS 36 2 pkPiece.en (.slice g.2.1 g.1.1.length g.2.2.1) g.2.2.2.1, Res.cells b2_0_0 #[.string (bs x2_0)] Eb2_0]) (fun g => g.2.2.2.2) (fun g => iter (fun q : (List Piece) × Nat => foldL_b1 x0 x2_0 q.1 q.2) g.1 = some r ∧ ZOk g.2.2.2.2 pkPiece g.2.2.2.1 g.1.1 ∧ Store.le σ g.2.2.2.2) (fun g => rounds (fun q : (List Piece) × Nat => foldL_b1 x0 x2_0 q.1 q.2) g.1) ((x1, 0), (a1_1, c1_2, z1_3, σ)) (Sub.f [1, 1] 2) z (by repeat (first | exact trivial | refine ⟨z, ?_⟩)) ⟨hh, zf1_4, (Store.le.refl _)⟩ (fun g1 j1 hg1 => ?_))))))))))))
 obtain ⟨⟨l119, k124⟩, ⟨a120, c121, z122, τ125⟩⟩ := g1
 obtain ⟨hh, zf123, hle126⟩ := hg1
 try dsimp only at zf123
 dsimp only at hle126
 replace f0_0 := f0_0.mono hle126
 try dsimp only
 obtain ⟨z1, hh, hR1⟩ := iter_e hh
 dsimp only [foldL_b1] at hh
 have zf123b := zf123.length
 refine TC.isSl (i := 0) z (fun _ hb127 _ => ?_)
 refine TC.a (TL.w z (OpVal.lss z z z) (TL.en (TC.seq (TC.cD z hh (fun h128 hh => ?_) (fun h128 hh => ?_)))))
 ·refine TC.skip (S.n (TC.seq (TC.block (TC.a (TL.w z (indexN z underlying45 sz32 z z f0_0.isSl (by omega)) ?_)))))
  obtain ⟨p129, hk129, hg129⟩ := RZ.seg f0_0 k124 (by omega)
  replace hk129 : RRule _ (nth x0 k124 Rule.zero) p129 := hk129
  have hk129b := hk129.o.c.rv.big
  refine TL.w z (loadSegA z ag32 sz32 z hg129 z) (TL.op z (OpOk.alloc z ze32 z z (fun b130 => ?_)))
  refine TL.op z (storeAll z sz32 z z z z z z ?_)
  refine TL.en (TC.a (TL.w z (moveFn (.inl z) z) (TL.s z z (TL.w z (loadAll z ag32 sz32 z (i := 0) z z) (TL.front 2 z z (TL.front 2 z z ?_))))))
  obtain ⟨v14, u14, hh⟩ := bnd_e hh
  refine TL.op z (OpOk.call (cascade_Steps_1_con zf123 hk129.o.c hk129.o.n hk129.o.e hk129.l.c hk129.l.n hk129.l.e hk129.r.c hk129.r.n hk129.r.e hk129.b.n hk129.b.o hk129.b.e hk129.b.t u14) z z pf54 z z z z ?_)
  rintro _ τ132 _ hle132 ⟨a132_1, c132_2, zz132_3, rfl, hr132_4, rfl⟩
  replace zf123 := zf123.mono hle132
  have hr132_4b := hr132_4.length
  refine TL.w z (moveT (.inl z) z) (TL.w z (OpVal.extract z z z) (TL.w z (OpVal.extract z z z) (TL.s z z (TL.i z z (TL.en (TC.seq (TC.a (TL.i z z (TL.w z (OpVal.neq z z z) (TL.en (TC.cD z hh (fun h134 hh => ?_) (fun h134 hh => ?_))))))))))))
  ·refine TC.a (TL.s z z (TL.en (TC.a (TL.s z z (TL.i z z (TL.s z z (TL.i z z (TL.en (TC.nilS 36 2 pkPiece.en ?_)))))))))
   have zf135 := ZOk.nil τ132 pkPiece
   refine TC.ofSub (Sub.f [2, 1] 2) (TC.ret (S.r (B.r (S.r (S.r ?_)))))
   replace hh := fin_x hR1 hh
   refine B.r (S.r ?_)
   obtain rfl := so hh
   exact ro [Res.rowS 36 2 pkPiece.en (.slice none ([] : List Piece).length 0) [], Res.cells b2_0_0 #[.string (bs x2_0)] Eb2_0] z (RVs.tmp z (RVs.tmp z RVs.nil)) ⟨none, 0, [], z, zf135, z⟩
  ·refine TC.skip (S.n (TC.region (TL.s z z (TL.s z z (TL.nil (B.n (S.n (TC.region (TL.w z (OpVal.succ z z z (by omega)) (TL.i z z (TL.en ?_)))))))))))
   obtain ⟨hh, hlt137⟩ := nxt_x hR1 hh
   exact lf ((v14.1, (k124 + 1)), (a132_1, c132_2, zz132_3, τ132)) hlt137 ⟨hh, hr132_4, (hle126.trans hle132)⟩ (Sub.f [1, 1] 2)
 ·refine TC.exit (S.x (S.x ?_))
  replace hh := fin_x hR1 hh
  refine TC.exitHere (S.n (TC.a (TL.s z z (TL.s z z (TL.i z z (TL.en (TC.ret ?_)))))))
  obtain rfl := so hh
  exact ro [Res.rowS 36 2 pkPiece.en (.slice a120 l119.length c121) z122, Res.cells b2_0_0 #[.string (bs x2_0)] Eb2_0] z (RVs.tmp z (RVs.tmp z RVs.nil)) ⟨a120, c121, z122, z, zf123, z⟩

noncomputable def cascade_Steps (x0 : List Rule) (x1 : List UInt8) : Option ((List Piece) × Int) :=
 grd (x1.length ≤ 281474976710656) (bnd (cascade_plain x0 x1) (fun v6 => iteO (decide (v6.2 ≠ 0)) (some (([] : List Piece), v6.2)) (bnd (foldL x0 [v6.1] x1) (fun v22 => some (v22.1, v22.2)))))
def cascade_Steps_P (σ : Store) (r : (List Piece) × Int) : Value → Store → List Res → Prop := fun v σ' H' =>
 ∃ (a1 : Option Addr), ∃ (c1 : Nat),  v = .tuple #[.slice a1 r.1.length c1, .int .i64 r.2] ∧ RZ σ' pkPiece (.slice a1 r.1.length c1) r.1 ∧ H' = []
theorem cascade_Steps_con {σ : Store} {x0 : List Rule} {a0_0 : Option Addr} {c0_0 : Nat} {x1 : List UInt8} (f0_0 : RZ σ pkRule (.slice a0_0 x0.length c0_0) x0) {r : (List Piece) × Int} (hh : cascade_Steps x0 x1 = some r) :
  Con Tryz.prog 21 #[.slice a0_0 x0.length c0_0, .string (bs x1)] σ [] (cascade_Steps_P σ r) := by
 dsimp only [cascade_Steps] at hh
 have f0_0b := f0_0.big
 refine Con.mk (n := 24) Tryz.func21 z z z (fun w0 => ?_)
 have x1b := grd_c hh
 replace hh := grd_t hh
 refine TC.a (TL.op z (OpOk.box z z z z (fun b101 => ?_)))
 refine TL.s z z (TL.i z z (TL.en (TC.a (TL.s z z (TL.w z (loadLoc z ag9 z (i := 0) z z) ?_)))))
 obtain ⟨v6, u6, hh⟩ := bnd_e hh
 refine TL.op z (OpOk.call (cascade_plain_con f0_0 u6) z z pf46 z z z z ?_)
 rintro _ τ103 _ hle103 ⟨a103_1, c103_1, rfl, hr103_0, rfl⟩
 replace f0_0 := f0_0.mono hle103
 have hr103_0b := hr103_0.rv.big
 refine TL.w z (moveT (.inl z) z) (TL.w z (OpVal.extract z z z) (TL.w z (OpVal.extract z z z) (TL.op z (OpOk.alloc z ze36 z z (fun b104 => ?_)))))
 refine TL.op z (storeAll z sz36 z z z z z z ?_)
 refine TL.i z z (TL.en (TC.seq (TC.a (TL.i z z (TL.w z (OpVal.neq z z z) (TL.en (TC.cD z hh (fun h106 hh => ?_) (fun h106 hh => ?_))))))))
 ·refine TC.a (TL.i z z (TL.s z z (TL.i z z (TL.en (TC.rt 0 (S.r ?_))))))
  obtain rfl := so hh
  exact rq [4, 5] ⟨none, 0, z, (RZ.nilF _ pkPiece), z⟩
 ·refine TC.skip (S.n (TC.a (TL.s z z (TL.w z (loadAll z ag36 sz36 z (i := 0) z z) ?_))))
  have zf109 : ZOk _ pkPiece ([(v6.1, (a103_1, c103_1))] : List (Piece × pkPiece.P)) [v6.1] := ZOk.cons (hr103_0) (ZOk.nil _ _)
  refine TL.op z (litZ zf109 z underlying50 sz36 z ze36 z z z (by decide) (by decide) z (by decide) z (by decide) (fun a107 c108 => ?_))
  refine TL.w z (makeFn z) (TL.front 2 z z (TL.front 1 z z ?_))
  obtain ⟨v22, u22, hh⟩ := bnd_e hh
  refine TL.op z (OpOk.call (foldL_con f0_0 zf109 u22) z z pf53 z z z z ?_)
  rintro _ τ111 _ hle111 ⟨a111_1, c111_2, zz111_3, rfl, hr111_4, rfl⟩
  have hr111_4b := hr111_4.length
  refine TL.w z (OpVal.extract z z z) (TL.w z (OpVal.extract z z z) (TL.s z z (TL.i z z (TL.en (TC.sealZ hr111_4 (fun τ115 hle114 hr113 => ?_))))))
  have hr113b := hr113.big
  refine TC.rt 0 ?_
  obtain rfl := so hh
  exact rq [4, 5] ⟨a111_1, c111_2, z, hr113, z⟩

noncomputable def whittleref04_Right (x0 : Span) (x1 : Int) : Option (Bool) :=
 iteO (decide (0 ≤ x0.frm)) (iteO (decide (x0.frm ≤ x0.to)) (some (decide (x0.to ≤ x1))) (some false)) (some false)
theorem whittleref04_Right_con {σ : Store} {x0 : Span} {x1 : Int}  {r : Bool} (hh : whittleref04_Right x0 x1 = some r) :
  Con Tryz.prog 112 #[.agg #[.int .i64 x0.frm, .int .i64 x0.to], .int .i64 x1] σ [] (PureP (.bool r) σ) := by
 dsimp only [whittleref04_Right] at hh
 refine Con.mk (n := 21) Tryz.func112 z z z (fun w0 => ?_)
 refine TC.a (TL.op z (boxA z z z z (fun b101 => ?_)))
 refine TL.j z z (TL.en (TC.a (TL.w z (fieldLoc z fo56_0 z) (TL.w z (loadLoc z ag3 z (i := 0) z z) (TL.w z (OpVal.geq z z z) (TL.j z z (TL.split 8 z (fun h103 => ?_) (fun h103 => ?_))))))))
 ·replace hh := iteO_t h103 hh
  replace h103 := of_decide_eq_true h103
  refine TL.g z (fieldLoc z fo56_0 z) (TL.g z (loadLoc z ag3 z (i := 0) z z) (TL.g z (fieldLoc z fo56_1 z) (TL.g z (loadLoc z ag3 z (i := 0) z z) (TL.g z (OpVal.leq z z z) (TL.w z (pickTB z z z) (TL.j z z (TL.split 15 z (fun h104 => ?_) (fun h104 => ?_))))))))
  ·replace hh := iteO_t h104 hh
   replace h104 := of_decide_eq_true h104
   refine TL.g z (fieldLoc z fo56_1 z) (TL.g z (loadLoc z ag3 z (i := 0) z z) (TL.g z (moveI (.inl z) z) (TL.g z (OpVal.leq z z z) (TL.w z (pickTB z z z) (TL.j z z (TL.en (TC.rt 0 ?_)))))))
   obtain rfl := so hh
   exact rq [4] ⟨z, z, z⟩
  ·replace hh := iteO_f h104 hh
   replace h104 := of_decide_eq_false h104
   refine TL.f z (TL.f z (TL.f z (TL.f z (TL.w z (pickFB z z z) (TL.j z z (TL.en (TC.rt 0 ?_)))))))
   obtain rfl := so hh
   exact rq [4] ⟨z, z, z⟩
 ·replace hh := iteO_f h103 hh
  replace h103 := of_decide_eq_false h103
  refine TL.f z (TL.f z (TL.f z (TL.f z (TL.f z (TL.w z (pickFB z z z) (TL.j z z (TL.f z (TL.f z (TL.f z (TL.f z (TL.w z (pickFB z z z) (TL.j z z (TL.en (TC.rt 0 ?_))))))))))))))
  obtain rfl := so hh
  exact rq [4] ⟨z, z, z⟩

noncomputable def whittleref04_Hull (x0 : Span) (x1 : Span) : Option (Span) :=
 some (⟨(min x0.frm x1.frm), (max x0.to x1.to)⟩ : Span)
theorem whittleref04_Hull_con {σ : Store} {x0 : Span} {x1 : Span}  {r : Span} (hh : whittleref04_Hull x0 x1 = some r) :
  Con Tryz.prog 121 #[.agg #[.int .i64 x0.frm, .int .i64 x0.to], .agg #[.int .i64 x1.frm, .int .i64 x1.to]] σ [] (PureP (.agg #[.int .i64 r.frm, .int .i64 r.to]) σ) := by
 dsimp only [whittleref04_Hull] at hh
 refine Con.mk (n := 16) Tryz.func121 z z z (fun w0 => ?_)
 refine TC.a (TL.op z (boxA z z z z (fun b101 => ?_)))
 refine TL.op z (boxA z z z z (fun b103 => ?_))
 refine TL.op z (OpOk.alloc z ze56 z z (fun b105 => ?_))
 refine TL.en (TC.a (TL.w z (fieldLoc z fo56_0 z) (TL.w z (loadLoc z ag3 z (i := 2) z z) (TL.w z (fieldLoc z fo56_0 z) (TL.w z (loadLoc z ag3 z (i := 1) z z) (TL.w z (minI z z z) (TL.w z (fieldLoc z fo56_1 z) (TL.w z (loadLoc z ag3 z (i := 2) z z) (TL.w z (fieldLoc z fo56_1 z) (TL.w z (loadLoc z ag3 z (i := 1) z z) (TL.w z (maxI z z z) (TL.w z (buildL z pl56 ze56 z) (TL.op z (storeAll z sz56 z z z z z z ?_))))))))))))))
 refine TL.en (TC.rt 1 ?_)
 obtain rfl := so hh
 exact ro [] z (RVs.agg ag56 sz56 z (i := 0) z z RVs.nil) ⟨z, z, z⟩

noncomputable def whittleref04_All_b1 (x0 : List Span) (x113 : Span) (x114 : Span) (k115 : Nat) : Option ((Span × Span × Nat) ⊕ (Span × Int)) :=
 iteO (decide (((k115 : Nat) : Int) < ((x0.length : Nat) : Int))) (bnd (whittleref04_Hull x114 (nth x0 k115 Span.zero)) (fun v24 => nxt (x113, v24, (k115 + 1)))) (fin (some (x114, 0)))
noncomputable def whittleref04_All (x0 : List Span) : Option (Span × Int) :=
 iteO (decide (((x0.length : Nat) : Int) = 0)) (some ((⟨0, 0⟩ : Span), 7)) (grd (0 < x0.length) (iter (fun q : Span × Span × Nat => whittleref04_All_b1 x0 q.1 q.2.1 q.2.2) ((⟨0, 0⟩ : Span), (nth x0 0 Span.zero), 1)))
theorem whittleref04_All_con {σ : Store} {x0 : List Span} {a0_0 : Option Addr} {c0_0 : Nat} (f0_0 : RS σ 2 encSpan (.slice a0_0 x0.length c0_0) x0) {r : Span × Int} (hh : whittleref04_All x0 = some r) :
  Con Tryz.prog 113 #[.slice a0_0 x0.length c0_0] σ [] (PureP (.tuple #[.agg #[.int .i64 r.1.frm, .int .i64 r.1.to], .int .i64 r.2]) σ) := by
 dsimp only [whittleref04_All] at hh
 have f0_0b := f0_0.rv.big
 refine Con.mk (n := 26) Tryz.func113 z z z (fun w0 => ?_)
 refine TC.a (TL.op z (OpOk.alloc z ze56 z z (fun b101 => ?_)))
 refine TL.i z z (TL.en (TC.seq (TC.a (TL.s z z (TL.w z (lenC z underlying34 z) (TL.w z (OpVal.eql z z z) (TL.en (TC.cD z hh (fun h103 hh => ?_) (fun h103 hh => ?_)))))))))
 ·refine TC.a (TL.w z (buildL z pl56 ze56 z) (TL.op z (storeAll z sz56 z z z z z z ?_)))
  refine TL.i z z (TL.en (TC.ret (S.r ?_)))
  obtain rfl := so hh
  exact ro [] z (RVs.agg ag56 sz56 z (i := 0) z z (RVs.tmp z RVs.nil)) ⟨z, z, z⟩
 ·refine TC.skip (S.n (TC.a (TL.s z z ?_)))
  have u10 := grd_c hh
  replace hh := grd_t hh
  refine TL.w z (indexN (i := 0) z underlying34 sz56 z z f0_0.rv.sl (by omega)) (TL.w z (loadSA Span.zero z ag56 sz56 z f0_0 (by omega) (by omega)) (TL.op z (OpOk.alloc z ze56 z z (fun b104 => ?_))))
  refine TL.op z (storeAll z sz56 z z z z z z ?_)
  refine TL.en (TC.seq (TC.a (TL.i z z (TL.en (TC.block (TC.loopG (α := (Span × Span × Nat) × (Unit)) (rgs [(5, 1), (13, 12)]) (fun g => [(5, .int .i64 ((g.1.2.2 : Nat) : Int))]) (fun g => [Res.cells b101 #[.int .i64 g.1.1.frm, .int .i64 g.1.1.to] 56, Res.cells b104 #[.int .i64 g.1.2.1.frm, .int .i64 g.1.2.1.to] 56]) (fun g => σ) (fun g => iter (fun q : Span × Span × Nat => whittleref04_All_b1 x0 q.1 q.2.1 q.2.2) g.1 = some r) (fun g => rounds (fun q : Span × Span × Nat => whittleref04_All_b1 x0 q.1 q.2.1 q.2.2) g.1) (((⟨0, 0⟩ : Span), (nth x0 0 Span.zero), 1), ()) (Sub.f [1] 2) z (by repeat (first | exact trivial | refine ⟨z, ?_⟩)) hh (fun g1 j1 hg1 => ?_)))))))
  obtain ⟨⟨x113, x114, k115⟩, _⟩ := g1
  have hh := hg1; clear hg1
  try dsimp only
  obtain ⟨z1, hh, hR1⟩ := iter_e hh
  dsimp only [whittleref04_All_b1] at hh
  refine TC.seq (TC.a (TL.i z z (TL.s z z (TL.w z (lenC z underlying34 z) (TL.w z (OpVal.lss z z z) (TL.en (TC.cD z hh (fun h116 hh => ?_) (fun h116 hh => ?_))))))))
  ·refine TC.skip (S.n (TC.seq (TC.block ?_)))
   obtain ⟨v24, u24, hh⟩ := bnd_e hh
   refine TC.draw [6] (by kernel_rfl) (TA.b 0 z (loadAll z ag56 sz56 z (i := 1) z z) z (TA.a 1 z (moveSl (.inl z) z) z (TA.a 2 z (moveI (.inl z) z) z (TA.b 3 z (indexN z underlying34 sz56 z z f0_0.rv.sl (by omega)) z (TA.b 4 z (loadSA Span.zero z ag56 sz56 z f0_0 (by omega) (by omega)) z (TA.ac 5 z (callP (whittleref04_Hull_con u24) z z pf121 z z z (k0 ?_))))))))
   refine TA.front 1 z z (TA.last 6 (by kernel_rfl) z z z (storeAll z sz56 z z z z z z ?_))
   refine TZ.done (by kernel_rfl) (B.n (S.n (TC.region (TL.i z z (TL.w z (OpVal.succ z z z (by omega)) (TL.i z z (TL.en ?_)))))))
   obtain ⟨hh, hlt117⟩ := nxt_x hR1 hh
   exact lf ((x113, v24, (k115 + 1)), ()) hlt117 hh (Sub.f [1] 2)
  ·refine TC.exit (S.x (S.x ?_))
   replace hh := fin_x hR1 hh
   refine TC.exitHere (S.n (TC.a (TL.w z (loadAll z ag56 sz56 z (i := 1) z z) (TL.op z (storeAll z sz56 z z z z z z ?_)))))
   refine TL.i z z (TL.en (TC.rt 1 ?_))
   obtain rfl := so hh
   exact ro [] z (RVs.agg ag56 sz56 z (i := 0) z z (RVs.tmp z RVs.nil)) ⟨z, z, z⟩

noncomputable def whittleref04_Through_j1 (i119 : Int) : Option (Span × Int) :=
 some ((⟨i119, i119⟩ : Span), 0)
noncomputable def whittleref04_Through_b1 (x0 : List Span) (x2 : Int) (x1 : Span) (x111 : Span) (k112 : Nat) : Option ((Span × Nat) ⊕ (Span × Int)) :=
 iteO (decide (((k112 : Nat) : Int) < ((x0.length : Nat) : Int))) (bnd (whittleref04_Right (nth x0 k112 Span.zero) x2) (fun v19 => iteO (!v19) (fin (some ((⟨0, 0⟩ : Span), 1))) (nxt (x111, (k112 + 1))))) (fin (bnd (whittleref04_Right x1 ((x0.length : Nat) : Int)) (fun v30 => iteO (!v30) (some ((⟨0, 0⟩ : Span), 1)) (iteO (decide (x1.frm < x1.to)) (grd (0 ≤ x1.frm ∧ 0 ≤ x1.to ∧ x1.frm.toNat ≤ x1.to.toNat ∧ x1.to.toNat ≤ x0.length) (bnd (whittleref04_All ((x0.take x1.to.toNat).drop x1.frm.toNat)) (fun v46 => some (v46.1, v46.2)))) (iteO (decide (0 < x1.frm)) (grd (0 ≤ (IntKind.i64.wrap (x1.frm - 1)) ∧ (IntKind.i64.wrap (x1.frm - 1)) < (x0.length : Int)) (whittleref04_Through_j1 ((nth x0 ((IntKind.i64.wrap (x1.frm - 1)).toNat) Span.zero).to))) (iteO (decide (0 < ((x0.length : Nat) : Int))) (whittleref04_Through_j1 ((nth x0 0 Span.zero).frm)) (whittleref04_Through_j1 0)))))))
noncomputable def whittleref04_Through (x0 : List Span) (x1 : Span) (x2 : Int) : Option (Span × Int) :=
 iteO (decide (x2 < 0)) (some ((⟨0, 0⟩ : Span), 1)) (iter (fun q : Span × Nat => whittleref04_Through_b1 x0 x2 x1 q.1 q.2) ((⟨0, 0⟩ : Span), 0))
theorem whittleref04_Through_con {σ : Store} {x0 : List Span} {a0_0 : Option Addr} {c0_0 : Nat} {x1 : Span} {x2 : Int} (f0_0 : RS σ 2 encSpan (.slice a0_0 x0.length c0_0) x0) {r : Span × Int} (hh : whittleref04_Through x0 x1 x2 = some r) :
  Con Tryz.prog 93 #[.slice a0_0 x0.length c0_0, .agg #[.int .i64 x1.frm, .int .i64 x1.to], .int .i64 x2] σ [] (PureP (.tuple #[.agg #[.int .i64 r.1.frm, .int .i64 r.1.to], .int .i64 r.2]) σ) := by
 dsimp only [whittleref04_Through] at hh
 have f0_0b := f0_0.rv.big
 refine Con.mk (n := 67) Tryz.func93 z z z (fun w0 => ?_)
 refine TC.a (TL.op z (boxA z z z z (fun b101 => ?_)))
 refine TL.op z (OpOk.alloc z ze56 z z (fun b103 => ?_))
 refine TL.i z z (TL.en (TC.seq (TC.a (TL.i z z (TL.w z (OpVal.lss z z z) (TL.en (TC.cD z hh (fun h105 hh => ?_) (fun h105 hh => ?_))))))))
 ·refine TC.a (TL.w z (buildL z pl56 ze56 z) (TL.op z (storeAll z sz56 z z z z z z ?_)))
  refine TL.i z z (TL.en (TC.rt 1 (S.r ?_)))
  obtain rfl := so hh
  exact ro [] z (RVs.agg ag56 sz56 z (i := 0) z z (RVs.tmp z RVs.nil)) ⟨z, z, z⟩
 ·refine TC.skip (S.n (TC.seq (TC.a (TL.i z z (TL.en (TC.block (TC.loopG (α := (Span × Nat) × (Unit)) (rgs [(7, 2), (13, 14)]) (fun g => [(8, .int .i64 ((g.1.2 : Nat) : Int))]) (fun g => [Res.cells b101 #[.int .i64 x1.frm, .int .i64 x1.to] 56, Res.cells b103 #[.int .i64 g.1.1.frm, .int .i64 g.1.1.to] 56]) (fun g => σ) (fun g => iter (fun q : Span × Nat => whittleref04_Through_b1 x0 x2 x1 q.1 q.2) g.1 = some r) (fun g => rounds (fun q : Span × Nat => whittleref04_Through_b1 x0 x2 x1 q.1 q.2) g.1) (((⟨0, 0⟩ : Span), 0), ()) (Sub.f [1] 2) z (by repeat (first | exact trivial | refine ⟨z, ?_⟩)) hh (fun g1 j1 hg1 => ?_))))))))
  obtain ⟨⟨x111, k112⟩, _⟩ := g1
  have hh := hg1; clear hg1
  try dsimp only
  obtain ⟨z1, hh, hR1⟩ := iter_e hh
  dsimp only [whittleref04_Through_b1] at hh
  refine TC.seq (TC.a (TL.i z z (TL.s z z (TL.w z (lenC z underlying34 z) (TL.w z (OpVal.lss z z z) (TL.en (TC.cD z hh (fun h113 hh => ?_) (fun h113 hh => ?_))))))))
  ·refine TC.skip (S.n (TC.seq (TC.block (TC.a (TL.s z z (TL.i z z (TL.w z (indexN z underlying34 sz56 z z f0_0.rv.sl (by omega)) (TL.w z (loadSA Span.zero z ag56 sz56 z f0_0 (by omega) (by omega)) (TL.i z z ?_)))))))))
   obtain ⟨v19, u19, hh⟩ := bnd_e hh
   refine TL.op z (callP (whittleref04_Right_con u19) z z pf112 z z z ?_)
   refine TL.w z (OpVal.not z z) (TL.en (TC.cB z hh (fun h114 hh => ?_) (fun h114 hh => ?_)))
   ·refine TC.a (TL.w z (buildL z pl56 ze56 z) (TL.front 1 z z (TL.op z (storeAll z sz56 z z z z z z ?_))))
    refine TL.i z z (TL.en (TC.rt 1 (B.r (S.r (S.r ?_)))))
    replace hh := fin_x hR1 hh
    refine B.r (S.r ?_)
    obtain rfl := so hh
    exact ro [] z (RVs.agg ag56 sz56 z (i := 0) z z (RVs.tmp z RVs.nil)) ⟨z, z, z⟩
   ·refine TC.skip (B.n (S.n (TC.region (TL.i z z (TL.w z (OpVal.succ z z z (by omega)) (TL.i z z (TL.en ?_)))))))
    obtain ⟨hh, hlt115⟩ := nxt_x hR1 hh
    exact lf ((x111, (k112 + 1)), ()) hlt115 hh (Sub.f [1, 1] 2)
  ·refine TC.exit (S.x (S.x ?_))
   replace hh := fin_x hR1 hh
   refine TC.exitHere (S.n (TC.seq (TC.a (TL.w z (loadAll z ag56 sz56 z (i := 0) z z) (TL.s z z (TL.w z (lenC z underlying34 z) ?_))))))
   obtain ⟨v30, u30, hh⟩ := bnd_e hh
   refine TL.op z (callP (whittleref04_Right_con u30) z z pf112 z z z ?_)
   refine TL.w z (OpVal.not z z) (TL.en (TC.cB z hh (fun h116 hh => ?_) (fun h116 hh => ?_)))
   ·refine TC.a (TL.w z (buildL z pl56 ze56 z) (TL.front 1 z z (TL.op z (storeAll z sz56 z z z z z z ?_))))
    refine TL.i z z (TL.en (TC.rt 1 (S.r ?_)))
    obtain rfl := so hh
    exact ro [] z (RVs.agg ag56 sz56 z (i := 0) z z (RVs.tmp z RVs.nil)) ⟨z, z, z⟩
   ·refine TC.skip (S.n (TC.seq (TC.a (TL.w z (fieldLoc z fo56_0 z) (TL.w z (loadLoc z ag3 z (i := 0) z z) (TL.w z (fieldLoc z fo56_1 z) (TL.w z (loadLoc z ag3 z (i := 0) z z) (TL.w z (OpVal.lss z z z) (TL.en (TC.cD z hh (fun h117 hh => ?_) (fun h117 hh => ?_)))))))))))
    ·refine TC.a (TL.s z z (TL.w z (fieldLoc z fo56_0 z) (TL.w z (loadLoc z ag3 z (i := 0) z z) (TL.w z (fieldLoc z fo56_1 z) (TL.w z (loadLoc z ag3 z (i := 0) z z) ?_)))))
     have u45 := grd_c hh
     replace hh := grd_t hh
     obtain ⟨a118, c118, hr118, hv118⟩ := f0_0.sub x1.frm.toNat x1.to.toNat (by omega)
     have hr118b := hr118.rv.big
     refine TL.w rfl (hv118 rfl underlying34 sz56 rfl (by show Value.int _ _ = _; rw [Int.toNat_of_nonneg (by omega)]) (by show Value.int _ _ = _; rw [Int.toNat_of_nonneg (by omega)])) ?_
     obtain ⟨v46, u46, hh⟩ := bnd_e hh
     refine TL.op z (callP (whittleref04_All_con hr118 u46) z z pf113 z z z ?_)
     refine TL.w z (OpVal.extract z z z) (TL.w z (OpVal.extract z z z) (TL.front 1 z z (TL.op z (storeAll z sz56 z z z z z z ?_))))
     refine TL.i z z (TL.en (TC.rt 1 (S.r ?_)))
     obtain rfl := so hh
     exact ro [] z (RVs.agg ag56 sz56 z (i := 0) z z (RVs.tmp z RVs.nil)) ⟨z, z, z⟩
    ·refine TC.skip (S.n (TC.a (TL.i z z (TL.en (TC.cutG (α := (Int) × (Unit)) (rgs [(9, 1), (47, 17)]) (fun g => [(9, .int .i64 g.1)]) (fun g => [Res.cells b103 #[.int .i64 x111.frm, .int .i64 x111.to] 56]) (fun g => σ) (fun g => whittleref04_Through_j1 g.1 = some r) ?_ (fun g j hg => ?_))))))
     ·skip
      refine TC.a (TL.w z (fieldLoc z fo56_0 z) (TL.w z (loadLoc z ag3 z (i := 0) z z) (TL.w z (OpVal.gtr z z z) (TL.en (TC.cD z hh (fun h120 hh => ?_) (fun h120 hh => ?_))))))
      ·refine TC.region (TL.s z z (TL.w z (fieldLoc z fo56_0 z) (TL.w z (loadLoc z ag3 z (i := 0) z z) (TL.w z (subW z z z) ?_))))
       have u59 := grd_c hh
       replace hh := grd_t hh
       exact TL.w z (OpVal.index z underlying34 sz56 z z f0_0.rv.sl u59.1 u59.2) (TL.w z (fieldElem z fo56_1 z f0_0.rv.sl (by omega)) (TL.w z (loadS Span.zero z ag3 z f0_0 (by omega) (by omega) z) (TL.i z z (TL.en (cf (((nth x0 ((IntKind.i64.wrap (x1.frm - 1)).toNat) Span.zero).to), ()) hh (Sub.f [1] 1))))))
      ·refine TC.a (TL.s z z (TL.w z (lenC z underlying34 z) (TL.w z (OpVal.gtr z z z) (TL.en (TC.cD z hh (fun h121 hh => ?_) (fun h121 hh => ?_))))))
       ·exact TC.region (TL.s z z (TL.w z (indexN (i := 0) z underlying34 sz56 z z f0_0.rv.sl (by omega)) (TL.w z (fieldElem z fo56_0 z f0_0.rv.sl (by omega)) (TL.w z (loadS Span.zero z ag3 z f0_0 (by omega) (by omega) z) (TL.i z z (TL.en (cf (((nth x0 0 Span.zero).frm), ()) hh (Sub.f [1] 1))))))))
       ·exact TC.skip (S.n (cf (0, ()) hh (Sub.f [1] 1)))
     ·skip
      obtain ⟨i119, _⟩ := g
      have hh := hg; clear hg
      try dsimp only
      dsimp only [whittleref04_Through_j1] at hh
      refine TC.a (TL.i z z (TL.i z z (TL.w z (buildL z pl56 ze56 z) (TL.op z (storeAll z sz56 z z z z z z ?_)))))
      refine TL.i z z (TL.en (TC.ret ?_))
      obtain rfl := so hh
      exact ro [] z (RVs.agg ag56 sz56 z (i := 0) z z (RVs.tmp z RVs.nil)) ⟨z, z, z⟩

noncomputable def whittleref25_right_b1 (x0 : Piece) (x1 : Int) (k105 : Nat) : Option ((Nat) ⊕ (Bool)) :=
 iteO (decide (((k105 : Nat) : Int) < ((x0.at'.length : Nat) : Int))) (bnd (whittleref04_Right (nth x0.at' k105 Span.zero) x1) (fun v15 => iteO (!v15) (fin (some false)) (nxt (k105 + 1)))) (fin (some (decide (((x0.at'.length : Nat) : Int) = ((x0.text.length : Nat) : Int)))))
noncomputable def whittleref25_right (x0 : Piece) (x1 : Int) : Option (Bool) :=
 iter (fun q : Nat => whittleref25_right_b1 x0 x1 q) 0
theorem whittleref25_right_con {σ : Store} {x0 : Piece} {a0_0 : Option Addr} {c0_0 : Nat} {x1 : Int} (f0_0 : RS σ 2 encSpan (.slice a0_0 x0.at'.length c0_0) x0.at') {r : Bool} (hh : whittleref25_right x0 x1 = some r) :
  Con Tryz.prog 92 #[.agg #[.string (bs x0.text), .slice a0_0 x0.at'.length c0_0], .int .i64 x1] σ [] (PureP (.bool r) σ) := by
 dsimp only [whittleref25_right] at hh
 have f0_0b := f0_0.rv.big
 refine Con.mk (n := 28) Tryz.func92 z z z (fun w0 => ?_)
 refine TC.a (TL.op z (boxA z z z z (fun b101 => ?_)))
 refine TL.j z z (TL.en (TC.seq (TC.a (TL.i z z (TL.en (TC.block (TC.loopG (α := (Nat) × (Unit)) (rgs [(4, 17)]) (fun g => [(5, .int .i64 ((g.1 : Nat) : Int))]) (fun g => [Res.cells b101 #[.string (bs x0.text), .slice a0_0 x0.at'.length c0_0] 36]) (fun g => σ) (fun g => iter (fun q : Nat => whittleref25_right_b1 x0 x1 q) g.1 = some r) (fun g => rounds (fun q : Nat => whittleref25_right_b1 x0 x1 q) g.1) (0, ()) (Sub.pre 1 z) z (by repeat (first | exact trivial | refine ⟨z, ?_⟩)) hh (fun g1 j1 hg1 => ?_))))))))
 obtain ⟨k105, _⟩ := g1
 have hh := hg1; clear hg1
 try dsimp only
 obtain ⟨z1, hh, hR1⟩ := iter_e hh
 dsimp only [whittleref25_right_b1] at hh
 refine TC.seq (TC.a (TL.i z z (TL.w z (fieldLoc z fo36_1 z) (TL.w z (loadLoc z ag34 z (i := 0) z z) (TL.w z (lenC z underlying34 z) (TL.w z (OpVal.lss z z z) (TL.en (TC.cD z hh (fun h106 hh => ?_) (fun h106 hh => ?_)))))))))
 ·refine TC.skip (S.n (TC.seq (TC.block (TC.a (TL.w z (fieldLoc z fo36_1 z) (TL.w z (loadLoc z ag34 z (i := 0) z z) (TL.i z z (TL.w z (indexN z underlying34 sz56 z z f0_0.rv.sl (by omega)) (TL.w z (loadSA Span.zero z ag56 sz56 z f0_0 (by omega) (by omega)) (TL.i z z ?_))))))))))
  obtain ⟨v15, u15, hh⟩ := bnd_e hh
  refine TL.op z (callP (whittleref04_Right_con u15) z z pf112 z z z ?_)
  refine TL.w z (OpVal.not z z) (TL.en (TC.cB z hh (fun h107 hh => ?_) (fun h107 hh => ?_)))
  ·refine TC.a (TL.j z z (TL.en (TC.rt 0 (B.r (S.r (S.r ?_))))))
   replace hh := fin_x hR1 hh
   refine B.r (S.r ?_)
   obtain rfl := so hh
   exact rq [4] ⟨z, z, z⟩
  ·refine TC.skip (B.n (S.n (TC.region (TL.i z z (TL.w z (OpVal.succ z z z (by omega)) (TL.i z z (TL.en ?_)))))))
   obtain ⟨hh, hlt108⟩ := nxt_x hR1 hh
   exact lf ((k105 + 1), ()) hlt108 hh (Sub.pre 1 z)
 ·refine TC.exit (S.x (S.x ?_))
  replace hh := fin_x hR1 hh
  refine TC.exitHere (S.n (TC.a (TL.w z (fieldLoc z fo36_1 z) (TL.w z (loadLoc z ag34 z (i := 0) z z) (TL.w z (lenC z underlying34 z) (TL.w z (fieldLoc z fo36_0 z) (TL.w z (loadLoc z ag9 z (i := 0) z z) (TL.w z (lenBs z underlying9 z) (TL.w z (OpVal.eql z z z) (TL.j z z (TL.en (TC.rt 0 ?_))))))))))))
  obtain rfl := so hh
  exact rq [4] ⟨z, z, z⟩

noncomputable def whittleref25_Join_j1 (k126 : Nat) (l130 : List Span) : Option (((List Span) × Nat) ⊕ (Piece × Int)) :=
 nxt (l130, (k126 + 1))
noncomputable def whittleref25_Join_b1 (x1 : Piece) (x0 : Piece) (x2 : Int) (l123 : List Span) (k126 : Nat) : Option (((List Span) × Nat) ⊕ (Piece × Int)) :=
 iteO (decide (((k126 : Nat) : Int) < ((x1.at'.length : Nat) : Int))) (bnd (whittleref04_Through x0.at' (nth x1.at' k126 Span.zero) x2) (fun v43 => grd ((l123.length + [v43.1].length) * 16 ≤ 140737488355328) (whittleref25_Join_j1 k126 (l123 ++ [v43.1])))) (fin (some ((⟨x1.text, l123⟩ : Piece), 0)))
noncomputable def whittleref25_Join (x0 : Piece) (x1 : Piece) (x2 : Int) : Option (Piece × Int) :=
 iteO (decide (x2 < 0)) (some ((⟨([] : List UInt8), ([] : List Span)⟩ : Piece), 1)) (bnd (whittleref25_right x0 x2) (fun v10 => iteO (!v10) (some ((⟨([] : List UInt8), ([] : List Span)⟩ : Piece), 1)) (bnd (whittleref25_right x1 ((x0.text.length : Nat) : Int)) (fun v18 => iteO (!v18) (some ((⟨([] : List UInt8), ([] : List Span)⟩ : Piece), 1)) (iter (fun q : (List Span) × Nat => whittleref25_Join_b1 x1 x0 x2 q.1 q.2) (([] : List Span), 0))))))
def whittleref25_Join_P (σ : Store) (r : Piece × Int) : Value → Store → List Res → Prop := fun v σ' H' =>
 ∃ (a1 : Option Addr), ∃ (c1 : Nat),  v = .tuple #[.agg #[.string (bs r.1.text), .slice a1 r.1.at'.length c1], .int .i64 r.2] ∧ RS σ' 2 encSpan (.slice a1 r.1.at'.length c1) r.1.at' ∧ H' = []
theorem whittleref25_Join_con {σ : Store} {x0 : Piece} {a0_0 : Option Addr} {c0_0 : Nat} {x1 : Piece} {a1_0 : Option Addr} {c1_0 : Nat} {x2 : Int} (f0_0 : RS σ 2 encSpan (.slice a0_0 x0.at'.length c0_0) x0.at') (f1_0 : RS σ 2 encSpan (.slice a1_0 x1.at'.length c1_0) x1.at') {r : Piece × Int} (hh : whittleref25_Join x0 x1 x2 = some r) :
  Con Tryz.prog 55 #[.agg #[.string (bs x0.text), .slice a0_0 x0.at'.length c0_0], .agg #[.string (bs x1.text), .slice a1_0 x1.at'.length c1_0], .int .i64 x2] σ [] (whittleref25_Join_P σ r) := by
 dsimp only [whittleref25_Join] at hh
 have f0_0b := f0_0.rv.big
 have f1_0b := f1_0.rv.big
 refine Con.mk (n := 58) Tryz.func55 z z z (fun w0 => ?_)
 refine TC.a (TL.op z (boxA z z z z (fun b101 => ?_)))
 refine TL.op z (boxA z z z z (fun b103 => ?_))
 refine TL.op z (OpOk.alloc z ze36 z z (fun b105 => ?_))
 refine TL.i z z (TL.en (TC.seq (TC.a (TL.i z z (TL.w z (OpVal.lss z z z) (TL.j z z (TL.split 14 z (fun h107 => ?_) (fun h107 => ?_))))))))
 ·replace hh := iteO_t h107 hh
  replace h107 := of_decide_eq_true h107
  refine TL.f z (TL.f z (TL.f z (TL.f z (TL.w z (pickTB z z z) (TL.j z z (TL.f z (TL.f z (TL.f z (TL.f z (TL.f z (TL.f z (TL.w z (pickTB z z z) (TL.en (TC.t z (TC.a ?_)))))))))))))))
  refine TL.w z (buildL z pl36 ze36 z) (TL.op z (storeAll z sz36 z z z z z z ?_))
  refine TL.i z z (TL.en (TC.rt 1 (S.r ?_)))
  obtain rfl := so hh
  exact ro [] z (RVs.agg ag36 sz36 z (i := 0) z z (RVs.tmp z RVs.nil)) ⟨none, 0, z, (RS.nilF _ encSpan encSpan_len), z⟩
 ·replace hh := iteO_f h107 hh
  replace h107 := of_decide_eq_false h107
  refine TL.g z (loadAll z ag36 sz36 z (i := 2) z z) (TL.g z (moveI (.inl z) z) ?_)
  obtain ⟨v10, u10, hh⟩ := bnd_e hh
  refine TL.gon z z z z z (callP (whittleref25_right_con (x0 := x0) f0_0 u10) z z pf92 z z z ?_)
  refine TL.g z (OpVal.not z z) (TL.w z (pickFB z z z) (TL.j z z (TL.split 20 z (fun h108 => ?_) (fun h108 => ?_))))
  ·replace hh := iteO_t h108 hh
   refine TL.f z (TL.f z (TL.f z (TL.f z (TL.f z (TL.f z (TL.w z (pickTB z z z) (TL.en (TC.t z (TC.a (TL.w z (buildL z pl36 ze36 z) (TL.op z (storeAll z sz36 z z z z z z ?_))))))))))))
   refine TL.i z z (TL.en (TC.rt 1 (S.r ?_)))
   obtain rfl := so hh
   exact ro [] z (RVs.agg ag36 sz36 z (i := 0) z z (RVs.tmp z RVs.nil)) ⟨none, 0, z, (RS.nilF _ encSpan encSpan_len), z⟩
  ·replace hh := iteO_f h108 hh
   refine TL.g z (loadAll z ag36 sz36 z (i := 1) z z) (TL.g z (fieldLoc z fo36_0 z) (TL.g z (loadLoc z ag9 z (i := 2) z z) (TL.g z (lenBs z underlying9 z) ?_)))
   obtain ⟨v18, u18, hh⟩ := bnd_e hh
   refine TL.gon z z z z z (callP (whittleref25_right_con (x0 := x1) f1_0 u18) z z pf92 z z z ?_)
   refine TL.g z (OpVal.not z z) (TL.w z (pickFB z z z) (TL.en (TC.cB z hh (fun h109 hh => ?_) (fun h109 hh => ?_))))
   ·refine TC.a (TL.w z (buildL z pl36 ze36 z) (TL.op z (storeAll z sz36 z z z z z z ?_)))
    refine TL.i z z (TL.en (TC.rt 1 (S.r ?_)))
    obtain rfl := so hh
    exact ro [] z (RVs.agg ag36 sz36 z (i := 0) z z (RVs.tmp z RVs.nil)) ⟨none, 0, z, (RS.nilF _ encSpan encSpan_len), z⟩
   ·refine TC.skip (S.n (TC.a (TL.w z (fieldLoc z fo36_0 z) (TL.w z (loadLoc z ag9 z (i := 1) z z) (TL.w z (buildL z pl36 ze36 z) (TL.op z (OpOk.alloc z ze36 z z (fun b110 => ?_))))))))
    refine TL.op z (storeAll z sz36 z z z z z z ?_)
    refine TL.en (TC.seq (TC.a (TL.i z z (TL.en (TC.block (TC.nilS 56 2 encSpan (TC.loopG (α := ((List Span) × Nat) × ((Option Addr) × Nat)) (rgs [(9, 3), (32, 25)]) (fun g => [(9, .int .i64 ((g.1.2 : Nat) : Int))]) (fun g => [Res.cells b101 #[.string (bs x0.text), .slice a0_0 x0.at'.length c0_0] 36, Res.cells b103 #[.string (bs x1.text), .slice a1_0 x1.at'.length c1_0] 36, Res.cells b105 #[.string (bs ([] : List UInt8)), .slice none 0 0] 36, Res.cells b110 #[.string (bs x1.text), .slice g.2.1 g.1.1.length g.2.2] 36, Res.rowS 56 2 encSpan (.slice g.2.1 g.1.1.length g.2.2) g.1.1]) (fun g => σ) (fun g => iter (fun q : (List Span) × Nat => whittleref25_Join_b1 x1 x0 x2 q.1 q.2) g.1 = some r) (fun g => rounds (fun q : (List Span) × Nat => whittleref25_Join_b1 x1 x0 x2 q.1 q.2) g.1) ((([] : List Span), 0), (none, 0)) (Sub.f [1, 2, 3, 4] 5) z (by repeat (first | exact trivial | refine ⟨z, ?_⟩)) hh (fun g1 j1 hg1 => ?_))))))))
    obtain ⟨⟨l123, k126⟩, ⟨a124, c125⟩⟩ := g1
    have hh := hg1; clear hg1
    try dsimp only
    obtain ⟨z1, hh, hR1⟩ := iter_e hh
    dsimp only [whittleref25_Join_b1] at hh
    refine TC.isSl (i := 4) z (fun _ hb128 _ => ?_)
    refine TC.seq (TC.a (TL.i z z (TL.w z (fieldLoc z fo36_1 z) (TL.w z (loadLoc z ag34 z (i := 1) z z) (TL.w z (lenC z underlying34 z) (TL.w z (OpVal.lss z z z) (TL.en (TC.cD z hh (fun h129 hh => ?_) (fun h129 hh => ?_)))))))))
    ·refine TC.skip (S.n (TC.cutG (α := ((List Span)) × ((Option Addr) × Nat)) (rgs [(10, 2), (39, 18)]) (fun g => []) (fun g => [Res.cells b101 #[.string (bs x0.text), .slice a0_0 x0.at'.length c0_0] 36, Res.cells b103 #[.string (bs x1.text), .slice a1_0 x1.at'.length c1_0] 36, Res.cells b105 #[.string (bs ([] : List UInt8)), .slice none 0 0] 36, Res.cells b110 #[.string (bs x1.text), .slice g.2.1 g.1.length g.2.2] 36, Res.rowS 56 2 encSpan (.slice g.2.1 g.1.length g.2.2) g.1]) (fun g => σ) (fun g => whittleref25_Join_j1 k126 g.1 = some z1) ?_ (fun g j hg => ?_)))
     ·skip
      refine TC.block (TC.seq ?_)
      obtain ⟨v43, u43, hh⟩ := bnd_e hh
      refine TC.draw [11, 13, 14] (by kernel_rfl) (TA.a 0 z (fieldLoc z fo36_1 z) z (TA.b 1 z (loadLoc z ag34 z (i := 0) z z) z (TA.a 2 z (fieldLoc z fo36_1 z) z (TA.b 3 z (loadLoc z ag34 z (i := 1) z z) z (TA.a 4 z (moveI (.inl z) z) z (TA.b 5 z (indexN z underlying34 sz56 z z f1_0.rv.sl (by omega)) z (TA.b 6 z (loadSA Span.zero z ag56 sz56 z f1_0 (by omega) (by omega)) z (TA.a 7 z (moveI (.inl z) z) z (TA.actN [8, 12] (by kernel_rfl) (an z z (callP (whittleref04_Through_con f0_0 u43) z z pf93 z z z (k0 ?_)) (an z z (OpOk.alloc z ze56 z z (fun b135 => (k1 ?_))) (True.intro))))))))))))
      ·skip
       refine TA.a 9 z (moveT (.inl z) z) z (TA.a 10 z (OpVal.extract z z z) z (TA.a 11 z (OpVal.extract z z z) z (TA.ac 12 z (OpOk.alloc z ze56 z z (fun b137 => (k1 ?_))))))
       refine TA.last 13 (by kernel_rfl) z z z (storeAll z sz56 z z z z z z ?_)
       refine TZ.v 14 (by kernel_rfl) z z z (moveI (.inr z) z) z z (TZ.done (by kernel_rfl) (S.n (TC.region (TL.w z (fieldLoc z fo36_1 z) (TL.w z (loadLoc z ag34 z (i := 4) z z) (TL.w z (loadAll z ag56 sz56 z (i := 0) z z) (TL.op z (OpOk.lit (enc := encSpan) [v43.1] z underlying34 sz56 ze56 z z z encSpan_len (by decide) (by decide) Span.zero z (by decide) z (by decide) encSpan_one (fun a139 c140 => ?_)))))))))
       refine TL.front 6 z z ?_
       have u54 := grd_c hh
       replace hh := grd_t hh
       refine TL.op z (appendS z z underlying34 sz56 by56 ze56 z z (by decide) z z z (.inr ⟨_, 0, z⟩) (by simpa using u54) (by decide) (fun a142 c143 => ?_))
       refine TL.w z (fieldLoc z fo36_1 z) (TL.front 6 z z (TL.op z (storeSl z sz34 z z z z z ?_)))
       exact TL.nil (B.n (S.n (cf ((l123 ++ [v43.1]), (a142, c143)) hh (Sub.f [1, 1, 6, 6, 6] 5))))
      ·skip
       refine TA.ac 8 z (callP (whittleref04_Through_con f0_0 u43) z z pf93 z z z (k1 ?_))
       refine TA.a 9 z (moveT (.inl z) z) z (TA.a 10 z (OpVal.extract z z z) z (TA.a 11 z (OpVal.extract z z z) z (TA.last 13 (by kernel_rfl) z z z (storeAll z sz56 z z z z z z ?_))))
       refine TZ.v 14 (by kernel_rfl) z z z (moveI (.inr z) z) z z (TZ.done (by kernel_rfl) (S.n (TC.region (TL.w z (fieldLoc z fo36_1 z) (TL.w z (loadLoc z ag34 z (i := 4) z z) (TL.w z (loadAll z ag56 sz56 z (i := 0) z z) (TL.op z (OpOk.lit (enc := encSpan) [v43.1] z underlying34 sz56 ze56 z z z encSpan_len (by decide) (by decide) Span.zero z (by decide) z (by decide) encSpan_one (fun a144 c145 => ?_)))))))))
       refine TL.front 6 z z ?_
       have u54 := grd_c hh
       replace hh := grd_t hh
       refine TL.op z (appendS z z underlying34 sz56 by56 ze56 z z (by decide) z z z (.inr ⟨_, 0, z⟩) (by simpa using u54) (by decide) (fun a147 c148 => ?_))
       refine TL.w z (fieldLoc z fo36_1 z) (TL.front 6 z z (TL.op z (storeSl z sz34 z z z z z ?_)))
       exact TL.nil (B.n (S.n (cf ((l123 ++ [v43.1]), (a147, c148)) hh (Sub.f [1, 1, 6, 6, 6] 5))))
     ·skip
      obtain ⟨l130, ⟨a131, c132⟩⟩ := g
      have hh := hg; clear hg
      try dsimp only
      dsimp only [whittleref25_Join_j1] at hh
      refine TC.isSl (i := 4) z (fun _ hb149 _ => ?_)
      refine TC.region (TL.i z z (TL.w z (OpVal.succ z z z (by omega)) (TL.i z z (TL.en ?_))))
      obtain ⟨hh, hlt150⟩ := nxt_x hR1 hh
      exact lf ((l130, (k126 + 1)), (a131, c132)) hlt150 hh (Sub.f [4, 4, 4, 4, 4] 5)
    ·refine TC.exit (S.x (S.x ?_))
     replace hh := fin_x hR1 hh
     refine TC.exitHere (S.n (TC.a (TL.w z (loadAll z ag36 sz36 z (i := 3) z z) (TL.front 2 z z (TL.op z (storeAll z sz36 z z z z z z ?_))))))
     refine TL.i z z (TL.en (TC.front 4 z z (TC.sealS encSpan_len (fun τ153 hle152 hr151 => ?_))))
     have hr151b := hr151.rv.big
     refine TC.rt 1 ?_
     obtain rfl := so hh
     exact ro [] z (RVs.agg ag36 sz36 z (i := 0) z z (RVs.tmp z RVs.nil)) ⟨a124, c125, z, hr151, z⟩

noncomputable def whittleref25_Steps_j1 (k143 : Nat) (s148 : List UInt8) (l149 : List Span) (l153 : List Piece) : Option (((List UInt8) × (List Span) × (List Piece) × Nat) ⊕ ((List Piece) × Int)) :=
 nxt (s148, l149, l153, (k143 + 1))
noncomputable def whittleref25_Steps_b1 (x0 : List Rule) (x1 : List UInt8) (s133 : List UInt8) (l134 : List Span) (l138 : List Piece) (k143 : Nat) : Option (((List UInt8) × (List Span) × (List Piece) × Nat) ⊕ ((List Piece) × Int)) :=
 iteO (decide (((k143 : Nat) : Int) < ((x0.length : Nat) : Int))) (bnd (whittleref24_Turn (nth x0 k143 Rule.zero) s133) (fun v35 => iteO (decide (v35.2 ≠ 0)) (fin (some (([] : List Piece), v35.2))) (bnd (whittleref25_Join (⟨s133, l134⟩ : Piece) v35.1 ((x1.length : Nat) : Int)) (fun v51 => grd ((l138.length + [v51.1].length) * 40 ≤ 140737488355328) (whittleref25_Steps_j1 k143 v51.1.text v51.1.at' (l138 ++ [v51.1])))))) (fin (some (l138, 0)))
noncomputable def whittleref25_Steps (x0 : List Rule) (x1 : List UInt8) : Option ((List Piece) × Int) :=
 grd (x1.length ≤ 281474976710656) (iteO (decide (64 < ((x0.length : Nat) : Int))) (some (([] : List Piece), 2)) (bnd (whittleref24_Plain x1) (fun v9 => iteO (decide (v9.2 ≠ 0)) (some (([] : List Piece), v9.2)) (iter (fun q : (List UInt8) × (List Span) × (List Piece) × Nat => whittleref25_Steps_b1 x0 x1 q.1 q.2.1 q.2.2.1 q.2.2.2) (v9.1.text, v9.1.at', [v9.1], 0)))))
def whittleref25_Steps_P (σ : Store) (r : (List Piece) × Int) : Value → Store → List Res → Prop := fun v σ' H' =>
 ∃ (a1 : Option Addr), ∃ (c1 : Nat),  v = .tuple #[.slice a1 r.1.length c1, .int .i64 r.2] ∧ RZ σ' pkPiece (.slice a1 r.1.length c1) r.1 ∧ H' = []
theorem whittleref25_Steps_con {σ : Store} {x0 : List Rule} {a0_0 : Option Addr} {c0_0 : Nat} {x1 : List UInt8} (f0_0 : RZ σ pkRule (.slice a0_0 x0.length c0_0) x0) {r : (List Piece) × Int} (hh : whittleref25_Steps x0 x1 = some r) :
  Con Tryz.prog 22 #[.slice a0_0 x0.length c0_0, .string (bs x1)] σ [] (whittleref25_Steps_P σ r) := by
 dsimp only [whittleref25_Steps] at hh
 have f0_0b := f0_0.big
 refine Con.mk (n := 57) Tryz.func22 z z z (fun w0 => ?_)
 have x1b := grd_c hh
 replace hh := grd_t hh
 refine TC.a (TL.s z z (TL.i z z (TL.en (TC.seq (TC.a (TL.s z z (TL.w z (lenC z underlying45 z) (TL.w z (OpVal.gtr z z z) (TL.en (TC.cD z hh (fun h101 hh => ?_) (fun h101 hh => ?_)))))))))))
 ·refine TC.a (TL.s z z (TL.i z z (TL.en (TC.ret (S.r ?_)))))
  obtain rfl := so hh
  exact rq [4, 5] ⟨none, 0, z, (RZ.nilF _ pkPiece), z⟩
 ·refine TC.skip (S.n (TC.a (TL.w z (moveStr (.inl z) z) ?_)))
  obtain ⟨v9, u9, hh⟩ := bnd_e hh
  refine TL.op z (OpOk.call (whittleref24_Plain_con u9) z z pf11 z z z z ?_)
  rintro _ τ102 _ hle102 ⟨a102_1, c102_1, rfl, hr102_0, rfl⟩
  replace f0_0 := f0_0.mono hle102
  have hr102_0b := hr102_0.rv.big
  refine TL.w z (moveT (.inl z) z) (TL.w z (OpVal.extract z z z) (TL.w z (OpVal.extract z z z) (TL.op z (OpOk.alloc z ze36 z z (fun b103 => ?_)))))
  refine TL.op z (storeAll z sz36 z z z z z z ?_)
  refine TL.i z z (TL.en (TC.seq (TC.a (TL.i z z (TL.w z (OpVal.neq z z z) (TL.en (TC.cD z hh (fun h105 hh => ?_) (fun h105 hh => ?_))))))))
  ·refine TC.a (TL.i z z (TL.s z z (TL.i z z (TL.en (TC.rt 0 (S.r ?_))))))
   obtain rfl := so hh
   exact rq [4, 5] ⟨none, 0, z, (RZ.nilF _ pkPiece), z⟩
  ·refine TC.skip (S.n (TC.a (TL.w z (loadAll z ag36 sz36 z (i := 0) z z) ?_)))
   have zf108 : ZOk _ pkPiece ([(v9.1, (a102_1, c102_1))] : List (Piece × pkPiece.P)) [v9.1] := ZOk.cons (hr102_0) (ZOk.nil _ _)
   refine TL.op z (litZ zf108 z underlying50 sz36 z ze36 z z z (by decide) (by decide) z (by decide) z (by decide) (fun a106 c107 => ?_))
   refine TL.s z z (TL.en (TC.seq (TC.a (TL.i z z (TL.en (TC.block (TC.loopG (α := ((List UInt8) × (List Span) × (List Piece) × Nat) × ((Option Addr) × Nat × (Option Addr) × Nat × (List (Piece × pkPiece.P)) × Store)) (rgs [(4, 2), (8, 4), (25, 31)]) (fun g => [(8, .slice g.2.2.2.1 g.1.2.2.1.length g.2.2.2.2.1), (9, .int .i64 ((g.1.2.2.2 : Nat) : Int))]) (fun g => [Res.cells b103 #[.string (bs g.1.1), .slice g.2.1 g.1.2.1.length g.2.2.1] 36, Res.rowS 36 2 pkPiece.en (.slice g.2.2.2.1 g.1.2.2.1.length g.2.2.2.2.1) g.2.2.2.2.2.1]) (fun g => g.2.2.2.2.2.2) (fun g => iter (fun q : (List UInt8) × (List Span) × (List Piece) × Nat => whittleref25_Steps_b1 x0 x1 q.1 q.2.1 q.2.2.1 q.2.2.2) g.1 = some r ∧ RS g.2.2.2.2.2.2 2 encSpan (.slice g.2.1 g.1.2.1.length g.2.2.1) g.1.2.1 ∧ ZOk g.2.2.2.2.2.2 pkPiece g.2.2.2.2.2.1 g.1.2.2.1 ∧ Store.le τ102 g.2.2.2.2.2.2) (fun g => rounds (fun q : (List UInt8) × (List Span) × (List Piece) × Nat => whittleref25_Steps_b1 x0 x1 q.1 q.2.1 q.2.2.1 q.2.2.2) g.1) ((v9.1.text, v9.1.at', [v9.1], 0), (a102_1, c102_1, a106, c107, ([(v9.1, (a102_1, c102_1))] : List (Piece × pkPiece.P)), τ102)) (Sub.f [1] 2) z (by repeat (first | exact trivial | refine ⟨z, ?_⟩)) ⟨hh, hr102_0, zf108, (Store.le.refl _)⟩ (fun g1 j1 hg1 => ?_))))))))
   obtain ⟨⟨s133, l134, l138, k143⟩, ⟨a135, c136, a139, c140, z141, τ144⟩⟩ := g1
   obtain ⟨hh, hr137, zf142, hle145⟩ := hg1
   try dsimp only at hr137
   try dsimp only at zf142
   dsimp only at hle145
   replace f0_0 := f0_0.mono hle145
   try dsimp only
   obtain ⟨z1, hh, hR1⟩ := iter_e hh
   dsimp only [whittleref25_Steps_b1] at hh
   have hr137b := hr137.rv.big
   have zf142b := zf142.length
   refine TC.isSl (i := 1) z (fun _ hb146 _ => ?_)
   refine TC.seq (TC.a (TL.i z z (TL.s z z (TL.w z (lenC z underlying45 z) (TL.w z (OpVal.lss z z z) (TL.en (TC.cD z hh (fun h147 hh => ?_) (fun h147 hh => ?_))))))))
   ·refine TC.skip (S.n (TC.cutG (α := ((List UInt8) × (List Span) × (List Piece)) × ((Option Addr) × Nat × (Option Addr) × Nat × (List (Piece × pkPiece.P)) × Store)) (rgs [(4, 2), (8, 1), (10, 2), (31, 25)]) (fun g => [(8, .slice g.2.2.2.1 g.1.2.2.length g.2.2.2.2.1)]) (fun g => [Res.cells b103 #[.string (bs g.1.1), .slice g.2.1 g.1.2.1.length g.2.2.1] 36, Res.rowS 36 2 pkPiece.en (.slice g.2.2.2.1 g.1.2.2.length g.2.2.2.2.1) g.2.2.2.2.2.1]) (fun g => g.2.2.2.2.2.2) (fun g => whittleref25_Steps_j1 k143 g.1.1 g.1.2.1 g.1.2.2 = some z1 ∧ RS g.2.2.2.2.2.2 2 encSpan (.slice g.2.1 g.1.2.1.length g.2.2.1) g.1.2.1 ∧ ZOk g.2.2.2.2.2.2 pkPiece g.2.2.2.2.2.1 g.1.2.2 ∧ Store.le τ144 g.2.2.2.2.2.2) ?_ (fun g j hg => ?_)))
    ·skip
     refine TC.block (TC.seq ?_)
     obtain ⟨v35, u35, hh⟩ := bnd_e hh
     refine TC.draw [9, 11, 12] (by kernel_rfl) (TA.a 0 z (moveSl (.inl z) z) z (TA.a 1 z (moveI (.inl z) z) z (TA.b 2 z (indexN z underlying45 sz32 z z f0_0.isSl (by omega)) z ?_)))
     obtain ⟨p162, hk162, hg162⟩ := RZ.seg f0_0 k143 (by omega)
     replace hk162 : RRule _ (nth x0 k143 Rule.zero) p162 := hk162
     have hk162b := hk162.o.c.rv.big
     refine TA.b 3 z (loadSegA z ag32 sz32 z hg162 z) z (TA.a 4 z (fieldLoc z fo36_0 z) z (TA.b 5 z (loadLoc z ag9 z (i := 0) z z) z (TA.actN [6, 10] (by kernel_rfl) (an z z (OpOk.call (whittleref24_Turn_con (x0 := (nth x0 k143 Rule.zero)) hk162.o.c hk162.o.n hk162.o.e hk162.l.c hk162.l.n hk162.l.e hk162.r.c hk162.r.n hk162.r.e hk162.b.n hk162.b.o hk162.b.e hk162.b.t u35) z z pf9 z z z z ?_) (an z z (OpOk.alloc z ze36 z z (fun b164 => (k1 ?_))) (True.intro))))))
     ·skip
      rintro _ τ163 _ hle163 ⟨a163_1, c163_1, rfl, hr163_0, rfl⟩
      replace hr137 := hr137.mono hle163
      replace zf142 := zf142.mono hle163
      replace hk162 := hk162.mono hle163
      have hr163_0b := hr163_0.rv.big
      refine kl 0 hle163 (TA.a 7 z (moveT (.inl z) z) z (TA.a 8 z (OpVal.extract z z z) z (TA.a 9 z (OpVal.extract z z z) z (TA.ac 10 z (OpOk.alloc z ze36 z z (fun b166 => (kl 1 hle163 ?_)))))))
      refine TA.last 11 (by kernel_rfl) z z z (storeAll z sz36 z z z z z z ?_)
      refine TZ.v 12 (by kernel_rfl) z z z (moveI (.inr z) z) z z (TZ.done (by kernel_rfl) (S.n (TC.seq (TC.a (TL.i z z (TL.w z (OpVal.neq z z z) (TL.en (TC.cD z hh (fun h168 hh => ?_) (fun h168 hh => ?_)))))))))
      ·refine TC.a (TL.i z z (TL.s z z (TL.i z z (TL.en (TC.rt 0 (S.r (B.r (S.r (S.r ?_)))))))))
       replace hh := fin_x hR1 hh
       refine B.r (S.r ?_)
       obtain rfl := so hh
       exact rq [4, 5] ⟨none, 0, z, (RZ.nilF _ pkPiece), z⟩
      ·refine TC.skip (S.n (TC.a (TL.w z (loadAll z ag36 sz36 z (i := 1) z z) (TL.w z (loadAll z ag36 sz36 z (i := 0) z z) (TL.w z (moveStr (.inl z) z) (TL.w z (lenBs z underlying9 z) ?_))))))
       obtain ⟨v51, u51, hh⟩ := bnd_e hh
       refine TL.op z (OpOk.call (whittleref25_Join_con (x0 := (⟨s133, l134⟩ : Piece)) (x1 := v35.1) hr137 hr163_0 u51) z z pf55 z z z z ?_)
       rintro _ τ169 _ hle169 ⟨a169_1, c169_1, rfl, hr169_0, rfl⟩
       replace hr137 := hr137.mono hle169
       replace zf142 := zf142.mono hle169
       replace hk162 := hk162.mono hle169
       have hr169_0b := hr169_0.rv.big
       refine TL.w z (moveT (.inl z) z) (TL.w z (OpVal.extract z z z) (TL.w z (OpVal.extract z z z) (TL.front 1 z z (TL.op z (storeAll z sz36 z z z z z z ?_)))))
       refine TL.en (TC.region (TL.s z z (TL.w z (loadAll z ag36 sz36 z (i := 0) z z) ?_)))
       have zf172 : ZOk _ pkPiece ([(v51.1, (a169_1, c169_1))] : List (Piece × pkPiece.P)) [v51.1] := ZOk.cons (hr169_0) (ZOk.nil _ _)
       refine TL.op z (litZ zf172 z underlying50 sz36 z ze36 z z z (by decide) (by decide) z (by decide) z (by decide) (fun a170 c171 => ?_))
       refine TL.front 3 z z ?_
       have u59 := grd_c hh
       replace hh := grd_t hh
       refine TL.op z (appendZ (k := pkPiece) zf142 zf172 z z underlying50 sz36 by36 ze36 z z (by decide) z z z (.inr ⟨_, 0, z⟩) (by simpa using u59) (by decide) (fun a174 c175 zf176 => ?_))
       exact TL.s z z (TL.nil (B.n (S.n (cf ((v51.1.text, v51.1.at', (l138 ++ [v51.1])), (a169_1, c169_1, a174, c175, (z141 ++ ([(v51.1, (a169_1, c169_1))] : List (Piece × pkPiece.P))), τ169)) ⟨hh, hr169_0, zf176, (hle163.trans hle169)⟩ (Sub.f [2] 2)))))
     ·skip
      refine TA.ac 6 z (OpOk.call (whittleref24_Turn_con (x0 := (nth x0 k143 Rule.zero)) hk162.o.c hk162.o.n hk162.o.e hk162.l.c hk162.l.n hk162.l.e hk162.r.c hk162.r.n hk162.r.e hk162.b.n hk162.b.o hk162.b.e hk162.b.t u35) z z pf9 z z z z ?_)
      rintro _ τ177 _ hle177 ⟨a177_1, c177_1, rfl, hr177_0, rfl⟩
      replace hr137 := hr137.mono hle177
      replace zf142 := zf142.mono hle177
      have hr177_0b := hr177_0.rv.big
      refine kl 1 hle177 (TA.a 7 z (moveT (.inl z) z) z (TA.a 8 z (OpVal.extract z z z) z (TA.a 9 z (OpVal.extract z z z) z (TA.last 11 (by kernel_rfl) z z z (storeAll z sz36 z z z z z z ?_)))))
      refine TZ.v 12 (by kernel_rfl) z z z (moveI (.inr z) z) z z (TZ.done (by kernel_rfl) (S.n (TC.seq (TC.a (TL.i z z (TL.w z (OpVal.neq z z z) (TL.en (TC.cD z hh (fun h178 hh => ?_) (fun h178 hh => ?_)))))))))
      ·refine TC.a (TL.i z z (TL.s z z (TL.i z z (TL.en (TC.rt 0 (S.r (B.r (S.r (S.r ?_)))))))))
       replace hh := fin_x hR1 hh
       refine B.r (S.r ?_)
       obtain rfl := so hh
       exact rq [4, 5] ⟨none, 0, z, (RZ.nilF _ pkPiece), z⟩
      ·refine TC.skip (S.n (TC.a (TL.w z (loadAll z ag36 sz36 z (i := 1) z z) (TL.w z (loadAll z ag36 sz36 z (i := 0) z z) (TL.w z (moveStr (.inl z) z) (TL.w z (lenBs z underlying9 z) ?_))))))
       obtain ⟨v51, u51, hh⟩ := bnd_e hh
       refine TL.op z (OpOk.call (whittleref25_Join_con (x0 := (⟨s133, l134⟩ : Piece)) (x1 := v35.1) hr137 hr177_0 u51) z z pf55 z z z z ?_)
       rintro _ τ179 _ hle179 ⟨a179_1, c179_1, rfl, hr179_0, rfl⟩
       replace zf142 := zf142.mono hle179
       have hr179_0b := hr179_0.rv.big
       refine TL.w z (moveT (.inl z) z) (TL.w z (OpVal.extract z z z) (TL.w z (OpVal.extract z z z) (TL.front 1 z z (TL.op z (storeAll z sz36 z z z z z z ?_)))))
       refine TL.en (TC.region (TL.s z z (TL.w z (loadAll z ag36 sz36 z (i := 0) z z) ?_)))
       have zf182 : ZOk _ pkPiece ([(v51.1, (a179_1, c179_1))] : List (Piece × pkPiece.P)) [v51.1] := ZOk.cons (hr179_0) (ZOk.nil _ _)
       refine TL.op z (litZ zf182 z underlying50 sz36 z ze36 z z z (by decide) (by decide) z (by decide) z (by decide) (fun a180 c181 => ?_))
       refine TL.front 3 z z ?_
       have u59 := grd_c hh
       replace hh := grd_t hh
       refine TL.op z (appendZ (k := pkPiece) zf142 zf182 z z underlying50 sz36 by36 ze36 z z (by decide) z z z (.inr ⟨_, 0, z⟩) (by simpa using u59) (by decide) (fun a184 c185 zf186 => ?_))
       exact TL.s z z (TL.nil (B.n (S.n (cf ((v51.1.text, v51.1.at', (l138 ++ [v51.1])), (a179_1, c179_1, a184, c185, (z141 ++ ([(v51.1, (a179_1, c179_1))] : List (Piece × pkPiece.P))), τ179)) ⟨hh, hr179_0, zf186, (hle177.trans hle179)⟩ (Sub.f [2] 2)))))
    ·skip
     obtain ⟨⟨s148, l149, l153⟩, ⟨a150, c151, a154, c155, z156, τ187⟩⟩ := g
     obtain ⟨hh, hr152, zf157, hle188⟩ := hg
     try dsimp only at hr152
     try dsimp only at zf157
     dsimp only at hle188
     replace zf142 := zf142.mono hle188
     try dsimp only
     dsimp only [whittleref25_Steps_j1] at hh
     have hr152b := hr152.rv.big
     have zf157b := zf157.length
     refine TC.isSl (i := 1) z (fun _ hb189 _ => ?_)
     refine TC.region (TL.i z z (TL.w z (OpVal.succ z z z (by omega)) (TL.i z z (TL.en ?_))))
     obtain ⟨hh, hlt190⟩ := nxt_x hR1 hh
     exact lf ((s148, l149, l153, (k143 + 1)), (a150, c151, a154, c155, z156, τ187)) hlt190 ⟨hh, hr152, zf157, (hle145.trans hle188)⟩ (Sub.f [1, 1] 2)
   ·refine TC.exit (S.x (S.x ?_))
    replace hh := fin_x hR1 hh
    refine TC.exitHere (S.n (TC.a (TL.s z z (TL.s z z (TL.i z z (TL.en (TC.front 1 z z (TC.sealZ zf142 (fun τ193 hle192 hr191 => ?_)))))))))
    have hr191b := hr191.big
    refine TC.rt 0 ?_
    obtain rfl := so hh
    exact rq [4, 5] ⟨a139, c140, z, hr191, z⟩

noncomputable def whittleref25_Run (x0 : List Rule) (x1 : List UInt8) : Option (Piece × Int) :=
 grd (x1.length ≤ 281474976710656) (bnd (whittleref25_Steps x0 x1) (fun v5 => iteO (decide (v5.2 ≠ 0)) (some ((⟨([] : List UInt8), ([] : List Span)⟩ : Piece), v5.2)) (grd (0 ≤ (IntKind.i64.wrap (((v5.1.length : Nat) : Int) - 1)) ∧ (IntKind.i64.wrap (((v5.1.length : Nat) : Int) - 1)) < (v5.1.length : Int)) (some ((nth v5.1 ((IntKind.i64.wrap (((v5.1.length : Nat) : Int) - 1)).toNat) Piece.zero), 0)))))
def whittleref25_Run_P (σ : Store) (r : Piece × Int) : Value → Store → List Res → Prop := fun v σ' H' =>
 ∃ (a1 : Option Addr), ∃ (c1 : Nat),  v = .tuple #[.agg #[.string (bs r.1.text), .slice a1 r.1.at'.length c1], .int .i64 r.2] ∧ RS σ' 2 encSpan (.slice a1 r.1.at'.length c1) r.1.at' ∧ H' = []
theorem whittleref25_Run_con {σ : Store} {x0 : List Rule} {a0_0 : Option Addr} {c0_0 : Nat} {x1 : List UInt8} (f0_0 : RZ σ pkRule (.slice a0_0 x0.length c0_0) x0) {r : Piece × Int} (hh : whittleref25_Run x0 x1 = some r) :
  Con Tryz.prog 20 #[.slice a0_0 x0.length c0_0, .string (bs x1)] σ [] (whittleref25_Run_P σ r) := by
 dsimp only [whittleref25_Run] at hh
 have f0_0b := f0_0.big
 refine Con.mk (n := 24) Tryz.func20 z z z (fun w0 => ?_)
 have x1b := grd_c hh
 replace hh := grd_t hh
 refine TC.a (TL.op z (OpOk.alloc z ze36 z z (fun b101 => ?_)))
 refine TL.i z z (TL.en (TC.a (TL.s z z (TL.w z (moveStr (.inl z) z) ?_))))
 obtain ⟨v5, u5, hh⟩ := bnd_e hh
 refine TL.op z (OpOk.call (whittleref25_Steps_con f0_0 u5) z z pf22 z z z z ?_)
 rintro _ τ103 _ hle103 ⟨a103_1, c103_1, rfl, hr103_0, rfl⟩
 have hr103_0b := hr103_0.big
 refine TL.w z (moveT (.inl z) z) (TL.w z (OpVal.extract z z z) (TL.w z (OpVal.extract z z z) (TL.s z z (TL.i z z (TL.en (TC.seq (TC.a (TL.i z z (TL.w z (OpVal.neq z z z) (TL.en (TC.cD z hh (fun h104 hh => ?_) (fun h104 hh => ?_))))))))))))
 ·refine TC.a (TL.w z (buildL z pl36 ze36 z) (TL.i z z (TL.op z (storeAll z sz36 z z z z z z ?_))))
  refine TL.i z z (TL.en (TC.ret (S.r ?_)))
  obtain rfl := so hh
  exact ro [] z (RVs.agg ag36 sz36 z (i := 0) z z (RVs.tmp z RVs.nil)) ⟨none, 0, z, (RS.nilF _ encSpan encSpan_len), z⟩
 ·refine TC.skip (S.n (TC.a (TL.s z z (TL.s z z (TL.w z (lenC z underlying50 z) (TL.w z (subW z z z) ?_))))))
  have u21 := grd_c hh
  replace hh := grd_t hh
  refine TL.w z (OpVal.index z underlying50 sz36 z z hr103_0.isSl u21.1 u21.2) ?_
  obtain ⟨p105, hk105, hg105⟩ := RZ.seg hr103_0 ((IntKind.i64.wrap (((v5.1.length : Nat) : Int) - 1)).toNat) (by omega)
  replace hk105 : RS _ 2 encSpan (.slice p105.1 (nth v5.1 ((IntKind.i64.wrap (((v5.1.length : Nat) : Int) - 1)).toNat) Piece.zero).at'.length p105.2) (nth v5.1 ((IntKind.i64.wrap (((v5.1.length : Nat) : Int) - 1)).toNat) Piece.zero).at' := hk105
  have hk105b := hk105.rv.big
  refine TL.w z (loadSegA z ag36 sz36 z hg105 z) (TL.op z (storeAll z sz36 z z z z z z ?_))
  refine TL.i z z (TL.en (TC.ret ?_))
  obtain rfl := so hh
  exact ro [] z (RVs.agg ag36 sz36 z (i := 0) z z (RVs.tmp z RVs.nil)) ⟨p105.1, p105.2, z, hk105, z⟩

end Go.Proofs.YtmfclggfajopkaaGreatDoor
end

/- Pl -/
section
/- Plain lemmas on rounds. No program, no condition. -/
set_option linter.unusedVariables false
set_option linter.unusedSimpArgs false
namespace Go.E
open Go

section
variable {S R : Type} {step : S → Option (S ⊕ R)}
/-- Rounds that count, and may stop at the first that tells. -/
theorem iter_any {y no : R} (f : Nat → S) (p : Nat → Bool) (n : Nat) (hs : ∀ k, k < n → p k = false → step (f k) = some (.inl (f (k + 1)))) (hy : ∀ k, k < n → p k = true → step (f k) = some (.inr y))
    (hd : step (f n) = some (.inr no)) : ∀ k, k ≤ n → iter step (f k) = some (bif (List.range n).any (fun i => decide (k ≤ i) && p i) then y else no) := by
  intro k hk
  obtain ⟨m, rfl⟩ : ∃ m, k = n - m := ⟨n - k, by omega⟩
  induction m with
  | zero =>
    have : (List.range n).any (fun i => decide (n - 0 ≤ i) && p i) = false := by
      rw [List.any_eq_false]; intro i hi; have := List.mem_range.1 hi; simp; omega
    rw [this]; exact iter_done hd
  | succ m ih =>
    by_cases h : m < n
    · have e : n - (m + 1) + 1 = n - m := by omega
      cases hp : p (n - (m + 1)) with
      | true =>
        have : (List.range n).any (fun i => decide (n - (m + 1) ≤ i) && p i) = true := by
          rw [List.any_eq_true]; exact ⟨n - (m + 1), List.mem_range.2 (by omega), by simp [hp]⟩
        rw [this]; exact iter_done (hy _ (by omega) hp)
      | false =>
        have h1 := hs (n - (m + 1)) (by omega) hp
        rw [e] at h1
        have : (List.range n).any (fun i => decide (n - (m + 1) ≤ i) && p i) = (List.range n).any (fun i => decide (n - m ≤ i) && p i) := by
          rw [Bool.eq_iff_iff, List.any_eq_true, List.any_eq_true]
          constructor
          · rintro ⟨i, hi, hx⟩
            simp only [Bool.and_eq_true, decide_eq_true_eq] at hx
            refine ⟨i, hi, ?_⟩
            have : i ≠ n - (m + 1) := fun h => by rw [h, hp] at hx; exact absurd hx.2 Bool.false_ne_true
            simp [hx.2]; omega
          · rintro ⟨i, hi, hx⟩
            simp only [Bool.and_eq_true, decide_eq_true_eq] at hx
            exact ⟨i, hi, by simp [hx.2]; omega⟩
        rw [this]
        exact iter_next h1 (ih (by omega))
    · have e : n - (m + 1) = n - m := by omega
      rw [e]; exact ih (by omega)
theorem iter_any0 {y no : R} (f : Nat → S) (p : Nat → Bool) (n : Nat) (hs : ∀ k, k < n → p k = false → step (f k) = some (.inl (f (k + 1)))) (hy : ∀ k, k < n → p k = true → step (f k) = some (.inr y))
    (hd : step (f n) = some (.inr no)) : iter step (f 0) = some (bif (List.range n).any p then y else no) := by
  have := iter_any f p n hs hy hd 0 (by omega)
  simpa using this
end

theorem take_snoc {α : Type} (l : List α) {k : Nat} (h : k < l.length) (d : α) : l.take (k + 1) = l.take k ++ [nth l k d] := by
  rw [List.take_add_one, getD_some l h d]; rfl
end Go.E
end

/- FMp -/
section
/- Sets of keys, as finite maps; rows by number. Plain lemmas, no condition. -/
set_option linter.unusedVariables false
set_option linter.unusedSimpArgs false
namespace Go.E
open Go
set_option linter.unusedSectionVars false
section
variable {K : Type} [DecidableEq K]
end

section
variable {β γ : Type}
/-- Rows of what bears a number. -/
structure Grp (key : β → Int) (val : β → γ) (n : Nat) (l : List (List γ)) (xs : List β) : Prop where
  len : l.length = n
  row : ∀ i, i < n → nth l i [] = (xs.filter fun x => decide (key x = (i : Int))).map val
end
end Go.E
end

/- It -/
section
/- Rounds over a list's things, by an invariant on what was met. Plain lemmas, no condition. -/
set_option linter.unusedVariables false
set_option linter.unusedSimpArgs false
namespace Go.E
open Go
theorem iter_inl {S R : Type} {step : S → Option (S ⊕ R)} {s s' : S} (h : step s = some (.inl s')) : iter step s = iter step s' := by
  cases hr : iter step s' with
  | some r => exact iter_next h hr
  | none =>
    cases hq : iter step s with
    | none => rfl
    | some r =>
      obtain ⟨z, hz, hR⟩ := iter_e hq
      rw [h] at hz; cases hz
      have := (hR.next s' rfl).1
      rw [hr] at this; cases this
/-- Rounds over a list, by an invariant on what was met so far. -/
theorem iter_for {α S T R : Type} {step : T → Option (T ⊕ R)} (g : S → Nat → T) (l : List α) (d : α) (I : List α → S → Prop) (Q : R → Prop)
    (hs : ∀ k s, k < l.length → I (l.take k) s → (∃ s', step (g s k) = some (.inl (g s' (k + 1))) ∧ I (l.take k ++ [nth l k d]) s') ∨ ∃ r, step (g s k) = some (.inr r) ∧ Q r)
    (hd : ∀ s, I l s → ∃ r, step (g s l.length) = some (.inr r) ∧ Q r) {s0 : S} (h0 : I [] s0) : ∃ r, iter step (g s0 0) = some r ∧ Q r := by
  have key : ∀ m k s, l.length - k = m → k ≤ l.length → I (l.take k) s → ∃ r, iter step (g s k) = some r ∧ Q r := by
    intro m
    induction m with
    | zero =>
      intro k s hm hk hI
      have hk : k = l.length := by omega
      subst hk
      rw [List.take_length] at hI
      obtain ⟨r, h1, h2⟩ := hd s hI
      exact ⟨r, iter_done h1, h2⟩
    | succ m ih =>
      intro k s hm hk hI
      rcases hs k s (by omega) hI with ⟨s', h1, h2⟩ | ⟨r, h1, h2⟩
      · rw [← take_snoc l (by omega) d] at h2
        obtain ⟨r, h3, h4⟩ := ih (k + 1) s' (by omega) (by omega) h2
        exact ⟨r, iter_next h1 h3, h4⟩
      · exact ⟨r, iter_done h1, h2⟩
  exact key _ 0 s0 rfl (Nat.zero_le _) h0
theorem take_split {α : Type} (l : List α) {k : Nat} (h : k < l.length) (d : α) : l = l.take k ++ nth l k d :: l.drop (k + 1) := by
  have h1 : l.drop k = nth l k d :: l.drop (k + 1) := by
    have := List.drop_eq_getElem_cons h
    rw [this]; congr 1
    have h2 := getD_some l h d
    rw [List.getElem?_eq_getElem h] at h2; exact Option.some.inj h2
  rw [← h1, List.take_append_drop]
end Go.E
end

/- Sm -/
section
/- Rules by which simp, with omega for what is asked, follows a decompiled function. Plain lemmas, no condition. -/
set_option linter.unusedVariables false
set_option linter.unusedSimpArgs false
namespace Go.E
open Go
theorem iteO_dt {α : Type} {p : Prop} [Decidable p] {a b : Option α} (h : p) : iteO (decide p) a b = a := by rw [decide_eq_true h]; rfl
theorem iteO_df {α : Type} {p : Prop} [Decidable p] {a b : Option α} (h : ¬ p) : iteO (decide p) a b = b := by rw [decide_eq_false h]; rfl
theorem bnd_mk {α β : Type} {x : α} {f : α → Option β} : bnd (some x) f = f x := rfl
theorem iteO_nt {α : Type} {a b : Option α} : iteO (!true) a b = b := rfl
theorem iteO_nf {α : Type} {a b : Option α} : iteO (!false) a b = a := rfl
/-- Rounds that count up through n, whose state stands in a relation to the number. -/
theorem iter_up {S T R : Type} {step : T → Option (T ⊕ R)} (g : S → Nat → T) (n : Nat) (I : Nat → S → Prop) (Q : R → Prop)
    (hs : ∀ k s, k < n → I k s → (∃ s', step (g s k) = some (.inl (g s' (k + 1))) ∧ I (k + 1) s') ∨ ∃ r, step (g s k) = some (.inr r) ∧ Q r)
    (hd : ∀ s, I n s → ∃ r, step (g s n) = some (.inr r) ∧ Q r) {s0 : S} (h0 : I 0 s0) : ∃ r, iter step (g s0 0) = some r ∧ Q r := by
  have key : ∀ m k s, n - k = m → k ≤ n → I k s → ∃ r, iter step (g s k) = some r ∧ Q r := by
    intro m
    induction m with
    | zero =>
      intro k s hm hk hI
      have hk : k = n := by omega
      subst hk
      obtain ⟨r, h1, h2⟩ := hd s hI
      exact ⟨r, iter_done h1, h2⟩
    | succ m ih =>
      intro k s hm hk hI
      rcases hs k s (by omega) hI with ⟨s', h1, h2⟩ | ⟨r, h1, h2⟩
      · obtain ⟨r, h3, h4⟩ := ih (k + 1) s' (by omega) (by omega) h2
        exact ⟨r, iter_next h1 h3, h4⟩
      · exact ⟨r, iter_done h1, h2⟩
  exact key _ 0 s0 rfl (Nat.zero_le _) h0
theorem nth_set {α : Type} (l : List α) (i j : Nat) (x d : α) : nth (l.set i x) j d = if i = j ∧ j < l.length then x else nth l j d := by
  unfold nth
  simp only [List.getD_eq_getElem?_getD, List.getElem?_set]
  by_cases h : i = j
  · subst h
    by_cases k : i < l.length
    · simp [k]
    · simp [k]
  · simp [h]
theorem nth_map {α β : Type} (f : α → β) (l : List α) (i : Nat) (d : α) (e : β) (h : i < l.length) : nth (l.map f) i e = f (nth l i d) := by
  unfold nth
  simp [List.getD_eq_getElem?_getD, List.getElem?_map, List.getElem?_eq_getElem h]
theorem nth_rep {α : Type} (n i : Nat) (x : α) : nth (List.replicate n x) i x = x := by
  unfold nth
  rw [List.getD_eq_getElem?_getD, List.getElem?_replicate]
  split <;> rfl
/-- Lists of one length whose things are the same are one. -/
theorem nth_ext {α : Type} (d : α) {l m : List α} (hl : l.length = m.length) (h : ∀ i, i < l.length → nth l i d = nth m i d) : l = m := by
  apply List.ext_getElem hl
  intro i h1 h2
  have a := h i h1
  have b := getD_some l h1 d
  have c := getD_some m h2 d
  rw [List.getElem?_eq_getElem h1] at b
  rw [List.getElem?_eq_getElem h2] at c
  rw [Option.some.inj b, a, ← Option.some.inj c]
theorem any_range_succ (n : Nat) (p : Nat → Bool) : (List.range (n + 1)).any p = ((List.range n).any p || p n) := by
  rw [List.range_succ, List.any_append]; simp
theorem any_range {n : Nat} {p : Nat → Bool} : (List.range n).any p = true ↔ ∃ j, j < n ∧ p j = true := by
  simp [List.any_eq_true, List.mem_range]
end Go.E
end

/- RwC -/
section
/- Transducers that go one way: Check, Apply. Plain lemmas, no condition. -/
set_option linter.unusedVariables false
set_option linter.unusedSimpArgs false
namespace Go.Proofs.YtmfclggfajopkaaGreatDoor
open Go Go.E
set_option maxRecDepth 100000

theorem all_range {n : Nat} {p : Nat → Bool} : (List.range n).all p = true ↔ ∀ j, j < n → p j = true := by
  simp [List.all_eq_true, List.mem_range]
/-- Rounds that count, and stop at the first that is not right. -/
theorem iter_chk {R : Type} {step : Nat → Option (Nat ⊕ R)} {good bad : R} (n : Nat) (p : Nat → Bool) (hy : ∀ k, k < n → p k = true → step k = some (.inl (k + 1))) (hn : ∀ k, k < n → p k = false → step k = some (.inr bad)) (hd : step n = some (.inr good)) :
    iter step 0 = some (if (List.range n).all p = true then good else bad) := by
  have h := iter_any0 (step := step) (y := bad) (no := good) (fun k => k) (fun k => !p k) n (fun k hk h => hy k hk (by simpa using h)) (fun k hk h => hn k hk (by simpa using h)) hd
  rw [h, ← List.not_all_eq_any_not]
  cases (List.range n).all p <;> rfl

/-- May the row of a state, of n states, be so, at a byte? -/
def cellQ (nx : List Int) (os : List (List UInt8)) (n b : Nat) : Bool := decide (-1 ≤ nth nx b 0) && decide (nth nx b 0 < (n : Int)) && decide ((nth os b []).length ≤ 4096) && (decide (nth nx b 0 ≠ -1) || decide (nth os b [] = []))
def rowQ (nx : List Int) (os : List (List UInt8)) (n : Nat) : Bool := decide (nx.length = 256) && decide (os.length = 256) && (List.range 256).all (cellQ nx os n)
theorem seq_row_eq (nx : List Int) (os : List (List UInt8)) (n : Nat) : seq_row nx os ((n : Nat) : Int) = some (rowQ nx os n) := by
  unfold seq_row rowQ
  by_cases h1 : nx.length = 256
  · rw [iteO_df (by omega)]
    by_cases h2 : os.length = 256
    · rw [iteO_df (by omega), decide_eq_true h1, decide_eq_true h2, Bool.true_and, Bool.true_and]
      have := iter_chk (step := fun q : Nat => seq_row_b1 nx ((n : Nat) : Int) os q) (good := true) (bad := false) 256 (cellQ nx os n) ?_ ?_ ?_
      · rw [this]; cases (List.range 256).all (cellQ nx os n) <;> rfl
      · intro k hk hp
        simp only [cellQ, Bool.and_eq_true, Bool.or_eq_true, decide_eq_true_eq] at hp
        obtain ⟨⟨⟨p1, p2⟩, p3⟩, p4⟩ := hp
        simp only [seq_row_b1, seq_row_j1]
        rw [iteO_dt (by omega), iteO_df (by omega), iteO_df (by omega), grd_mk (by omega), iteO_df (by omega)]
        by_cases c : nth nx k (0 : Int) = -1
        · rw [iteO_dt c, grd_mk (by omega), iteO_df (by rcases p4 with p4 | p4 <;> simp_all)]; rfl
        · rw [iteO_df c]; rfl
      · intro k hk hp
        simp only [seq_row_b1, seq_row_j1]
        rw [iteO_dt (by omega)]
        by_cases c1 : nth nx k (0 : Int) < -1
        · rw [iteO_dt c1]; rfl
        rw [iteO_df c1]
        by_cases c2 : ((n : Nat) : Int) ≤ nth nx k (0 : Int)
        · rw [iteO_dt c2]; rfl
        rw [iteO_df c2, grd_mk (by omega)]
        by_cases c3 : 4096 < (nth os k ([] : List UInt8)).length
        · rw [iteO_dt (by omega)]; rfl
        rw [iteO_df (by omega)]
        by_cases c4 : nth nx k (0 : Int) = -1
        · rw [iteO_dt c4, grd_mk (by omega)]
          by_cases c5 : nth os k ([] : List UInt8) = []
          · exfalso
            simp only [cellQ, c5] at hp
            rw [decide_eq_true (by omega), decide_eq_true (by omega)] at hp
            simp at hp
          · rw [iteO_dt c5]; rfl
        · exfalso
          simp only [cellQ] at hp
          rw [decide_eq_true (by omega), decide_eq_true (by omega), decide_eq_true (by omega), decide_eq_true c4] at hp
          simp at hp
      · simp only [seq_row_b1]
        rw [iteO_df (by omega)]; rfl
    · rw [iteO_dt (by omega), decide_eq_false h2]; simp
  · rw [iteO_dt (by omega), decide_eq_false h1]; simp

def stateQ (q : Seq) (s : Nat) : Bool := decide ((nth q.tail s []).length ≤ 4096) && (nth q.fin s false || decide (nth q.tail s [] = [])) && rowQ (nth q.next s []) (nth q.outs s []) q.next.length
def shapeQ (q : Seq) : Bool := decide (q.next.length ≤ 1024) && decide (q.outs.length = q.next.length) && decide (q.fin.length = q.next.length) && decide (q.tail.length = q.next.length) && decide (q.front.length ≤ 4096) && (decide (q.next.length ≠ 0) || decide (q.front = []))
/-- Is a transducer that goes one way right? -/
def rightQ (q : Seq) : Bool := shapeQ q && (List.range q.next.length).all (stateQ q)
theorem seq_Check_eq (q : Seq) : seq_Check q = some (if rightQ q = true then 0 else 1) := by
  unfold seq_Check
  by_cases h1 : q.next.length ≤ 1024
  rotate_left
  · rw [iteO_dt (by omega), if_neg (by simp [rightQ, shapeQ, h1])]
  rw [iteO_df (by omega)]
  by_cases h2 : q.outs.length = q.next.length
  rotate_left
  · rw [iteO_dt (by omega), if_neg (by simp [rightQ, shapeQ, h2])]
  rw [iteO_df (by omega)]
  by_cases h3 : q.fin.length = q.next.length
  rotate_left
  · rw [iteO_dt (by omega), if_neg (by simp [rightQ, shapeQ, h3])]
  rw [iteO_df (by omega)]
  by_cases h4 : q.tail.length = q.next.length
  rotate_left
  · rw [iteO_dt (by omega), if_neg (by simp [rightQ, shapeQ, h4])]
  rw [iteO_df (by omega)]
  by_cases h5 : q.front.length ≤ 4096
  rotate_left
  · rw [iteO_dt (by omega), if_neg (by simp [rightQ, shapeQ, h5])]
  rw [iteO_df (by omega)]
  have key : (decide (q.next.length ≠ 0) || decide (q.front = [])) = true → seq_Check_j1 q = some (if rightQ q = true then 0 else 1) := by
    intro h6
    have hs : shapeQ q = true := by simp only [shapeQ, h6, Bool.and_true, Bool.and_eq_true, decide_eq_true_eq]; exact ⟨⟨⟨⟨h1, h2⟩, h3⟩, h4⟩, h5⟩
    unfold seq_Check_j1 rightQ
    rw [hs, Bool.true_and]
    refine iter_chk (step := fun k : Nat => seq_Check_b1 q k) q.next.length (stateQ q) ?_ ?_ ?_
    · intro k hk hp
      simp only [stateQ, Bool.and_eq_true, decide_eq_true_eq] at hp
      obtain ⟨⟨p1, p2⟩, p3⟩ := hp
      have hj : seq_Check_j2 k q = some (.inl (k + 1)) := by
        unfold seq_Check_j2
        rw [grd_mk (by omega), seq_row_eq, bnd_mk, p3]; rfl
      simp only [seq_Check_b1]
      rw [iteO_dt (by omega), grd_mk (by omega), iteO_df (by omega), grd_mk (by omega)]
      cases hf : nth q.fin k false with
      | true => rw [iteO_nt]; exact hj
      | false =>
        rw [hf, Bool.false_or, decide_eq_true_eq] at p2
        rw [iteO_nf, grd_mk (by omega), iteO_df (by simp [p2])]; exact hj
    · intro k hk hp
      simp only [seq_Check_b1]
      rw [iteO_dt (by omega), grd_mk (by omega)]
      by_cases c1 : 4096 < (nth q.tail k ([] : List UInt8)).length
      · rw [iteO_dt (by omega)]; rfl
      rw [iteO_df (by omega), grd_mk (by omega)]
      have hj : (nth q.fin k false || decide (nth q.tail k [] = [])) = true → seq_Check_j2 k q = some (.inr 1) := by
        intro hh
        simp only [stateQ, hh, Bool.and_true] at hp
        rw [decide_eq_true (by omega), Bool.true_and] at hp
        unfold seq_Check_j2
        rw [grd_mk (by omega), seq_row_eq, bnd_mk, hp]; rfl
      cases hf : nth q.fin k false with
      | true => rw [iteO_nt]; exact hj (by rw [hf]; rfl)
      | false =>
        rw [iteO_nf, grd_mk (by omega)]
        by_cases c2 : nth q.tail k ([] : List UInt8) = []
        · rw [iteO_df (by simp [c2])]; exact hj (by rw [c2]; simp)
        · rw [iteO_dt c2]; rfl
    · simp only [seq_Check_b1]
      rw [iteO_df (by omega)]; rfl
  by_cases h6 : q.next.length = 0
  · rw [iteO_dt (by omega)]
    by_cases h7 : q.front = []
    · rw [iteO_df (by simp [h7])]; exact key (by simp [h7])
    · rw [iteO_dt h7, if_neg (by simp [rightQ, shapeQ, h6, h7])]
  · rw [iteO_df (by omega)]; exact key (by simp [h6])

theorem writeS_eq (l m : List UInt8) (h : l.length + m.length ≤ 140737488355328) : writeS ⟨l⟩ m = some (((m.length : Nat) : Int), (), ⟨l ++ m⟩) := by
  unfold writeS
  rw [grd_mk (by omega), show copyCheck (⟨l⟩ : SB) = some ⟨l⟩ from rfl, bnd_mk, grd_mk h]

/-- What comes out, how far it goes, and whether that is all and an end. -/
def runQ (q : Seq) : List UInt8 → Nat → Int → List UInt8 → List UInt8 × Nat × Bool
  | [], i, s, acc => if nth q.fin s.toNat false = true then (acc ++ nth q.tail s.toNat [], i, true) else ([], i, false)
  | b :: w, i, s, acc => if nth (nth q.next s.toNat []) b.toNat 0 < 0 then ([], i, false) else runQ q w (i + 1) (nth (nth q.next s.toNat []) b.toNat 0) (acc ++ nth (nth q.outs s.toNat []) b.toNat [])
def applyQ (q : Seq) (w : List UInt8) : List UInt8 × Int × Bool × Int :=
  if rightQ q = true then (if q.next.length = 0 then ([], 0, false, 0) else ((runQ q w 0 0 q.front).1, (((runQ q w 0 0 q.front).2.1 : Nat) : Int), (runQ q w 0 0 q.front).2.2, 0)) else ([], 0, false, 1)

structure CellOk (q : Seq) (s : Int) (b : UInt8) : Prop where
  n : b.toNat < (nth q.next s.toNat []).length
  o : b.toNat < (nth q.outs s.toNat []).length
  lo : -1 ≤ nth (nth q.next s.toNat []) b.toNat 0
  hi : nth (nth q.next s.toNat []) b.toNat 0 < (q.next.length : Int)
  le : (nth (nth q.outs s.toNat []) b.toNat []).length ≤ 4096
theorem rightQ_shape {q : Seq} (h : rightQ q = true) : q.next.length ≤ 1024 ∧ q.outs.length = q.next.length ∧ q.fin.length = q.next.length ∧ q.tail.length = q.next.length ∧ q.front.length ≤ 4096 := by
  simp only [rightQ, shapeQ, Bool.and_eq_true, decide_eq_true_eq] at h
  exact ⟨h.1.1.1.1.1.1, h.1.1.1.1.1.2, h.1.1.1.1.2, h.1.1.1.2, h.1.1.2⟩
theorem rightQ_state {q : Seq} (h : rightQ q = true) {s : Int} (h0 : 0 ≤ s) (h1 : s < (q.next.length : Int)) : stateQ q s.toNat = true := by
  simp only [rightQ, Bool.and_eq_true] at h
  exact all_range.1 h.2 _ (by omega)
theorem rightQ_tail {q : Seq} (h : rightQ q = true) {s : Int} (h0 : 0 ≤ s) (h1 : s < (q.next.length : Int)) : (nth q.tail s.toNat []).length ≤ 4096 := by
  have := rightQ_state h h0 h1
  simp only [stateQ, Bool.and_eq_true, decide_eq_true_eq] at this
  exact this.1.1
theorem rightQ_cell {q : Seq} (h : rightQ q = true) {s : Int} (h0 : 0 ≤ s) (h1 : s < (q.next.length : Int)) (b : UInt8) : CellOk q s b := by
  have hs := rightQ_state h h0 h1
  simp only [stateQ, rowQ, Bool.and_eq_true, decide_eq_true_eq] at hs
  obtain ⟨_, ⟨h2, h3⟩, h4⟩ := hs
  have hb := UInt8.toNat_lt b
  have hc := all_range.1 h4 b.toNat (by omega)
  simp only [cellQ, Bool.and_eq_true, decide_eq_true_eq] at hc
  exact ⟨by omega, by omega, hc.1.1.1, hc.1.1.2, hc.1.2⟩

theorem drop_nth' {α : Type} (l : List α) {k : Nat} (h : k < l.length) (d : α) : l.drop k = nth l k d :: l.drop (k + 1) := by
  rw [List.drop_eq_getElem_cons h]
  congr 1
  have h2 := getD_some l h d
  rw [List.getElem?_eq_getElem h] at h2; exact Option.some.inj h2
theorem apply_loop {q : Seq} (h : rightQ q = true) (w : List UInt8) (hw : w.length ≤ 1000000) : ∀ (m k : Nat) (s : Int) (acc : List UInt8), w.length - k = m → k ≤ w.length → 0 ≤ s → s < (q.next.length : Int) → acc.length ≤ 4096 * (k + 1) →
    iter (fun z : (List UInt8) × Int × Nat => seq_Apply_b1 w q z.1 z.2.1 z.2.2) (acc, s, k) = some ((runQ q (w.drop k) k s acc).1, (((runQ q (w.drop k) k s acc).2.1 : Nat) : Int), (runQ q (w.drop k) k s acc).2.2, 0)
  | 0, k, s, acc, hm, hk, h0, h1, ha => by
    obtain ⟨q1, q2, q3, q4, q5⟩ := rightQ_shape h
    have ht := rightQ_tail h h0 h1
    have e : k = w.length := by omega
    subst e
    refine iter_done ?_
    simp only [seq_Apply_b1]
    rw [List.drop_length, runQ, iteO_df (by omega), grd_mk (by omega)]
    cases hf : nth q.fin s.toNat false with
    | false => rw [iteO_nf]; rfl
    | true =>
      rw [iteO_nt, grd_mk (by omega), writeS_eq _ _ (by omega), bnd_mk]; rfl
  | m + 1, k, s, acc, hm, hk, h0, h1, ha => by
    obtain ⟨q1, q2, q3, q4, q5⟩ := rightQ_shape h
    obtain ⟨c1, c2, c3, c4, c5⟩ := rightQ_cell h h0 h1 (nth w k (0 : UInt8))
    rw [drop_nth' w (show k < w.length by omega) (0 : UInt8), runQ]
    by_cases cz : nth (nth q.next s.toNat ([] : List Int)) (nth w k (0 : UInt8)).toNat (0 : Int) < 0
    · refine iter_done ?_
      simp only [seq_Apply_b1]
      rw [if_pos cz, iteO_dt (by omega), grd_mk (by omega), grd_mk c1, iteO_dt cz]; rfl
    · rw [if_neg cz]
      refine iter_next (s' := (acc ++ nth (nth q.outs s.toNat ([] : List (List UInt8))) (nth w k (0 : UInt8)).toNat ([] : List UInt8), nth (nth q.next s.toNat ([] : List Int)) (nth w k (0 : UInt8)).toNat (0 : Int), k + 1)) ?_ (apply_loop h w hw m (k + 1) _ _ (by omega) (by omega) (by omega) c4 (by rw [List.length_append]; omega))
      simp only [seq_Apply_b1]
      rw [iteO_dt (by omega), grd_mk (by omega), grd_mk c1, iteO_df cz, grd_mk (by omega), grd_mk c2, writeS_eq _ _ (by omega), bnd_mk]; rfl
theorem apply_eq (q : Seq) (w : List UInt8) (hw : w.length ≤ 1000000) : seq_Apply q w = some (applyQ q w) := by
  unfold seq_Apply applyQ
  rw [grd_mk (by omega), seq_Check_eq, bnd_mk]
  by_cases h : rightQ q = true
  · rw [if_pos h, iteO_df (by omega), if_pos h]
    by_cases h2 : q.next.length = 0
    · rw [iteO_dt (by omega), if_pos h2]
    · rw [iteO_df (by omega), if_neg h2, writeS_eq _ _ (by have := (rightQ_shape h).2.2.2.2; simp only [List.length_nil]; omega), bnd_mk]
      simp only [List.nil_append]
      have := apply_loop h w hw _ 0 0 q.front rfl (Nat.zero_le _) (by omega) (by omega) (by have := (rightQ_shape h).2.2.2.2; omega)
      rw [List.drop_zero] at this
      exact this
  · rw [if_neg h, iteO_dt (by omega), if_neg h]
theorem runQ_len {q : Seq} (h : rightQ q = true) : ∀ (w : List UInt8) (k : Nat) (s : Int) (acc : List UInt8), 0 ≤ s → s < (q.next.length : Int) → (runQ q w k s acc).1.length ≤ acc.length + 4096 * (w.length + 1)
  | [], k, s, acc, h0, h1 => by
    have ht := rightQ_tail h h0 h1
    rw [runQ]; split
    · simp only [List.length_append, List.length_nil]; omega
    · simp
  | b :: w, k, s, acc, h0, h1 => by
    obtain ⟨c1, c2, c3, c4, c5⟩ := rightQ_cell h h0 h1 b
    rw [runQ]; split
    · simp
    · have := runQ_len h w (k + 1) (nth (nth q.next s.toNat []) b.toNat 0) (acc ++ nth (nth q.outs s.toNat []) b.toNat []) (by omega) c4
      simp only [List.length_append, List.length_cons] at this ⊢; omega
theorem applyQ_len (q : Seq) (w : List UInt8) : (applyQ q w).1.length ≤ 4096 * (w.length + 2) := by
  unfold applyQ
  split
  · rename_i h
    split
    · simp
    · have h5 := (rightQ_shape h).2.2.2.2
      have := runQ_len h w 0 0 q.front (by omega) (by omega)
      simp only; omega
  · simp
theorem applyQ_right {q : Seq} (h : rightQ q = true) (w : List UInt8) : (applyQ q w).2.2.2 = 0 := by
  unfold applyQ; rw [if_pos h]; split <;> rfl
end Go.Proofs.YtmfclggfajopkaaGreatDoor
end

/- ScPd -/
section
/- Automatons that go one way, and factors: the program's side. Plain lemmas, no condition. -/
set_option linter.unusedVariables false
set_option linter.unusedSimpArgs false
namespace Go.Proofs.YtmfclggfajopkaaGreatDoor
open Go Go.E

theorem u64or_lt (a b : Nat) : u64or a b < 18446744073709551616 := (BitVec.ofNat 64 a ||| BitVec.ofNat 64 b).isLt
theorem anyOk (a b : BSet) : ∃ v, set_Any a b = some v := by
  obtain ⟨r, h, _⟩ := iter_for (step := fun q : BSet × Nat => set_Any_b1 b q.1 q.2) (fun s k => (s, k)) [(), (), (), ()] () (fun _ _ => True) (fun _ => True)
    (fun k s hk _ => by
      have hk4 : k < 4 := hk
      refine .inl ⟨BSet.setWord s k (u64or (BSet.word s k) (BSet.word b k)), ?_, trivial⟩
      simp only [set_Any_b1]
      rw [show decide (((k : Nat) : Int) < 4) = true from decide_eq_true (by omega), iteO_true, grd_mk hk4, grd_mk hk4, grd_mk hk4, grd_mk (u64or_lt _ _)]; rfl)
    (fun s _ => ⟨s, by simp only [set_Any_b1]; rfl, trivial⟩) (s0 := a) trivial
  exact ⟨r, h⟩
/-- How many classes there are, if they come in order. -/
def cntS (o : Option Nat) (n : Int) : Option Nat := o.bind fun k => if n < 0 ∨ (k : Int) < n then none else some (if n = k then k + 1 else k)
def cntF (l : List Int) : Option Nat := l.foldl cntS (some 0)
theorem cntS_none : ∀ l : List Int, l.foldl cntS none = none
  | [] => rfl
  | _ :: l => cntS_none l
theorem cntF_snoc (l : List Int) (n : Int) : cntF (l ++ [n]) = cntS (cntF l) n := by simp [cntF, List.foldl_append]
theorem cntF_none {l m : List Int} (h : cntF l = none) : cntF (l ++ m) = none := by
  unfold cntF at h ⊢; rw [List.foldl_append, h, cntS_none]
theorem cntF_le : ∀ (l : List Int) (j k : Nat), l.foldl cntS (some j) = some k → k ≤ j + l.length
  | [], j, k, h => by cases h; simp
  | n :: l, j, k, h => by
    rw [List.foldl_cons] at h
    by_cases hc : n < 0 ∨ (j : Int) < n
    · rw [show cntS (some j) n = none by simp [cntS, hc], cntS_none] at h; cases h
    · rw [show cntS (some j) n = some (if n = j then j + 1 else j) by simp [cntS, hc]] at h
      have := cntF_le l _ k h
      simp only [List.length_cons]
      split at this <;> omega
theorem partSets_ok (cls : List Int) : ∃ r, part_Sets cls = some r ∧ (((cls.length ≠ 256 ∨ cntF cls = none) ∧ r.2 = 1) ∨ (cls.length = 256 ∧ cntF cls = some r.1.length ∧ r.2 = 0)) := by
  unfold part_Sets
  by_cases h256 : cls.length = 256
  · rw [show decide (((cls.length : Nat) : Int) ≠ 256) = false from decide_eq_false (by omega), iteO_false]
    obtain ⟨r, h1, h2⟩ := iter_for (step := fun q : List BSet × Nat => part_Sets_b1 cls q.1 q.2) (fun s k => (s, k)) cls 0 (fun pre s => cntF pre = some s.length) (fun r => (cntF cls = none ∧ r.2 = 1) ∨ (cntF cls = some r.1.length ∧ r.2 = 0))
      (fun k s hk hI => by
        have hle := cntF_le _ _ _ hI
        rw [List.length_take, Nat.zero_add] at hle
        have hsp := take_split cls hk (0 : Int)
        have hstop : (nth cls k 0 < 0 ∨ (s.length : Int) < nth cls k 0) → cntF cls = none := fun hc => by
          rw [hsp, ← List.singleton_append, ← List.append_assoc]
          exact cntF_none (by rw [cntF_snoc, hI]; simp [cntS, hc])
        have hgo : ∀ l : List BSet, 0 ≤ nth cls k 0 → nth cls k 0 < (l.length : Int) → ∃ l', part_Sets_j1 cls k l = some (.inl (l', k + 1)) ∧ l'.length = l.length := fun l h0 h1 => by
          obtain ⟨v, hv⟩ := anyOk (nth l ((nth cls k (0 : Int)).toNat) BSet.zero) (BSet.ofL [(toU8 ((k : Nat) : Int))])
          refine ⟨_, by unfold part_Sets_j1; rw [grd_mk ⟨h0, h1⟩, grd_mk (by simp), bnd_some hv, grd_mk ⟨h0, h1⟩]; rfl, by simp⟩
        simp only [part_Sets_b1]
        rw [show decide (((k : Nat) : Int) < ((cls.length : Nat) : Int)) = true from decide_eq_true (by omega), iteO_true]
        by_cases c1 : nth cls k 0 < 0
        · right; rw [decide_eq_true c1, iteO_true]; exact ⟨_, rfl, .inl ⟨hstop (.inl c1), rfl⟩⟩
        rw [decide_eq_false c1, iteO_false]
        by_cases c2 : (s.length : Int) < nth cls k 0
        · right; rw [decide_eq_true c2, iteO_true]; exact ⟨_, rfl, .inl ⟨hstop (.inr c2), rfl⟩⟩
        rw [decide_eq_false c2, iteO_false]
        left
        by_cases c3 : nth cls k 0 = (s.length : Int)
        · rw [decide_eq_true c3, iteO_true, grd_mk (by simp; omega)]
          obtain ⟨l', h1, h2⟩ := hgo (s ++ [BSet.zero]) (by omega) (by simp; omega)
          exact ⟨l', h1, by rw [cntF_snoc, hI, h2]; simp [cntS, c3]⟩
        · rw [decide_eq_false c3, iteO_false]
          obtain ⟨l', h1, h2⟩ := hgo s (by omega) (by omega)
          exact ⟨l', h1, by rw [cntF_snoc, hI, h2]; simp [cntS, c3]; omega⟩)
      (fun s hI => ⟨(s, 0), by simp only [part_Sets_b1]; rw [show decide (((cls.length : Nat) : Int) < ((cls.length : Nat) : Int)) = false from decide_eq_false (by omega), iteO_false]; rfl, .inr ⟨hI, rfl⟩⟩) (s0 := []) rfl
    refine ⟨r, h1, ?_⟩
    rcases h2 with ⟨h2, h3⟩ | ⟨h2, h3⟩
    · exact .inl ⟨.inr h2, h3⟩
    · exact .inr ⟨h256, h2, h3⟩
  · rw [show decide (((cls.length : Nat) : Int) ≠ 256) = true from decide_eq_true (by omega), iteO_true]
    exact ⟨_, rfl, .inl ⟨.inl h256, rfl⟩⟩
def goodS (n : Nat) (s : Int) : Bool := decide (0 ≤ s) && decide (s < (n : Int))
def goodR (n m : Nat) (row : List Int) : Bool := decide (row.length = m) && row.all (goodS n)
/-- Is an automaton right? -/
def rightD (d : Dfa) : Bool := decide (d.cls.length = 256) && (match cntF d.cls with | some m => d.next.all (goodR d.next.length m) | none => false) && decide (1 ≤ d.next.length ∧ d.next.length ≤ 1024) && decide (d.fin.length = d.next.length)
theorem all_snoc {α : Type} (p : α → Bool) (l : List α) (x : α) : (l ++ [x]).all p = (l.all p && p x) := by simp [List.all_append]
theorem all_false_of {α : Type} {p : α → Bool} {l : List α} {k : Nat} (hk : k < l.length) (d : α) (h : p (nth l k d) = false) : l.all p = false := by
  rw [List.all_eq_false]; exact ⟨_, List.mem_of_getElem? (getD_some l hk d), by simp [h]⟩
theorem chk_in (d : Dfa) (k : Nat) : ∃ r, iter (fun q : Nat => dfa_Check_b2 d k q) 0 = some r ∧ (((nth d.next k []).all (goodS d.next.length) = true ∧ r = .inl (k + 1)) ∨ ((nth d.next k []).all (goodS d.next.length) = false ∧ r = .inr 1)) :=
  iter_for (step := fun q : Nat => dfa_Check_b2 d k q) (fun (_ : Unit) j => j) (nth d.next k []) 0 (fun pre _ => pre.all (goodS d.next.length) = true) (fun r => ((nth d.next k []).all (goodS d.next.length) = true ∧ r = .inl (k + 1)) ∨ ((nth d.next k []).all (goodS d.next.length) = false ∧ r = .inr 1))
    (fun j s hj hI => by
      simp only [dfa_Check_b2]
      rw [show decide (((j : Nat) : Int) < (((nth d.next k ([] : List Int)).length : Nat) : Int)) = true from decide_eq_true (by omega), iteO_true]
      by_cases c1 : nth (nth d.next k ([] : List Int)) j (0 : Int) < 0
      · right; rw [decide_eq_true c1, iteO_true]; exact ⟨_, rfl, .inr ⟨all_false_of hj 0 (by simp [goodS]; omega), rfl⟩⟩
      rw [decide_eq_false c1, iteO_false]
      by_cases c2 : ((d.next.length : Nat) : Int) ≤ nth (nth d.next k ([] : List Int)) j (0 : Int)
      · right; rw [decide_eq_true c2, iteO_true]; exact ⟨_, rfl, .inr ⟨all_false_of hj 0 (by simp [goodS]; omega), rfl⟩⟩
      rw [decide_eq_false c2, iteO_false]
      left
      exact ⟨(), rfl, by rw [all_snoc, hI]; simp [goodS]; omega⟩)
    (fun s hI => by
      simp only [dfa_Check_b2]
      rw [show decide ((((nth d.next k ([] : List Int)).length : Nat) : Int) < (((nth d.next k ([] : List Int)).length : Nat) : Int)) = false from decide_eq_false (by omega), iteO_false]
      exact ⟨_, rfl, .inl ⟨hI, rfl⟩⟩) (s0 := ()) rfl
theorem chk_out (d : Dfa) (v : (List BSet) × Int) : ∃ r, iter (fun q : Nat => dfa_Check_b1 d v q) 0 = some r ∧ ((d.next.all (goodR d.next.length v.1.length) = true ∧ r = 0) ∨ (d.next.all (goodR d.next.length v.1.length) = false ∧ r = 1)) :=
  iter_for (step := fun q : Nat => dfa_Check_b1 d v q) (fun (_ : Unit) j => j) d.next [] (fun pre _ => pre.all (goodR d.next.length v.1.length) = true) (fun r => (d.next.all (goodR d.next.length v.1.length) = true ∧ r = 0) ∨ (d.next.all (goodR d.next.length v.1.length) = false ∧ r = 1))
    (fun k s hk hI => by
      simp only [dfa_Check_b1]
      rw [show decide (((k : Nat) : Int) < ((d.next.length : Nat) : Int)) = true from decide_eq_true (by omega), iteO_true]
      by_cases c1 : (nth d.next k ([] : List Int)).length = v.1.length
      · rw [show decide ((((nth d.next k ([] : List Int)).length : Nat) : Int) ≠ ((v.1.length : Nat) : Int)) = false from decide_eq_false (by omega), iteO_false]
        obtain ⟨r, h1, h2 | h2⟩ := chk_in d k
        · left; rw [h1, h2.2]; exact ⟨(), rfl, by rw [all_snoc, hI]; simp [goodR, c1, h2.1]⟩
        · right; rw [h1, h2.2]; exact ⟨_, rfl, .inr ⟨all_false_of hk [] (by simp only [goodR, h2.1, Bool.and_false]), rfl⟩⟩
      · right
        rw [show decide ((((nth d.next k ([] : List Int)).length : Nat) : Int) ≠ ((v.1.length : Nat) : Int)) = true from decide_eq_true (by omega), iteO_true]
        exact ⟨_, rfl, .inr ⟨all_false_of hk [] (by simp [goodR, c1]), rfl⟩⟩)
    (fun s hI => by
      simp only [dfa_Check_b1]
      rw [show decide (((d.next.length : Nat) : Int) < ((d.next.length : Nat) : Int)) = false from decide_eq_false (by omega), iteO_false]
      exact ⟨_, rfl, .inl ⟨hI, rfl⟩⟩) (s0 := ()) rfl
theorem check_eq (d : Dfa) : dfa_Check d = some (if rightD d = true then 0 else 1) := by
  unfold dfa_Check
  obtain ⟨v, hv, h⟩ := partSets_ok d.cls
  rw [bnd_some hv]
  rcases h with ⟨h1, h2⟩ | ⟨h1, h2, h3⟩
  · rw [decide_eq_true (show v.2 ≠ 0 by omega), iteO_true]
    rw [if_neg]
    rcases h1 with h1 | h1
    · simp [rightD, h1]
    · simp [rightD, h1]
  · rw [decide_eq_false (show ¬ v.2 ≠ 0 by omega), iteO_false]
    by_cases c1 : d.next.length < 1
    · rw [show decide (((d.next.length : Nat) : Int) < 1) = true from decide_eq_true (by omega), iteO_true, if_neg]
      simp only [rightD, Bool.and_eq_true, decide_eq_true_eq]; omega
    rw [show decide (((d.next.length : Nat) : Int) < 1) = false from decide_eq_false (by omega), iteO_false]
    by_cases c2 : 1024 < d.next.length
    · rw [show decide (1024 < ((d.next.length : Nat) : Int)) = true from decide_eq_true (by omega), iteO_true, if_neg]
      simp only [rightD, Bool.and_eq_true, decide_eq_true_eq]; omega
    rw [show decide (1024 < ((d.next.length : Nat) : Int)) = false from decide_eq_false (by omega), iteO_false]
    by_cases c3 : d.fin.length = d.next.length
    · rw [show decide (((d.fin.length : Nat) : Int) ≠ ((d.next.length : Nat) : Int)) = false from decide_eq_false (by omega), iteO_false]
      obtain ⟨r, hr, hr2⟩ := chk_out d v
      rw [hr]
      have e : rightD d = d.next.all (goodR d.next.length v.1.length) := by
        simp only [rightD, h1, h2, c3, decide_true, Bool.true_and, Bool.and_true]
        rw [show decide (1 ≤ d.next.length ∧ d.next.length ≤ 1024) = true from decide_eq_true (by omega), Bool.and_true]
      rw [e]
      rcases hr2 with ⟨h4, h5⟩ | ⟨h4, h5⟩
      · rw [h4, h5, if_pos rfl]
      · rw [h4, h5, if_neg (by simp)]
    · rw [show decide (((d.fin.length : Nat) : Int) ≠ ((d.next.length : Nat) : Int)) = true from decide_eq_true (by omega), iteO_true, if_neg]
      simp only [rightD, Bool.and_eq_true, decide_eq_true_eq]; omega
theorem cnt_mem : ∀ (l : List Int) (j m : Nat), l.foldl cntS (some j) = some m → j ≤ m ∧ ∀ n ∈ l, 0 ≤ n ∧ n < (m : Int)
  | [], j, m, h => by cases h; simp
  | n :: l, j, m, h => by
    rw [List.foldl_cons] at h
    by_cases hc : n < 0 ∨ (j : Int) < n
    · rw [show cntS (some j) n = none by simp [cntS, hc], cntS_none] at h; cases h
    · rw [show cntS (some j) n = some (if n = j then j + 1 else j) by simp [cntS, hc]] at h
      obtain ⟨h1, h2⟩ := cnt_mem l _ m h
      refine ⟨by split at h1 <;> omega, fun k hk => ?_⟩
      rcases List.mem_cons.1 hk with rfl | hk
      · split at h1 <;> omega
      · exact h2 k hk
def okS (d : Dfa) (s : Int) : Prop := 0 ≤ s ∧ s < (d.next.length : Int)
/-- The state behind a state, by a byte. -/
def dlt (d : Dfa) (s : Int) (b : UInt8) : Int := nth (nth d.next s.toNat ([] : List Int)) ((nth d.cls b.toNat (0 : Int)).toNat) (0 : Int)
theorem nth_mem' {α : Type} {l : List α} {i : Nat} (hi : i < l.length) (d : α) : nth l i d ∈ l := List.mem_of_getElem? (getD_some l hi d)
structure DltOk (d : Dfa) (s : Int) (b : UInt8) : Prop where
  cl : b.toNat < d.cls.length
  c : 0 ≤ nth d.cls b.toNat (0 : Int) ∧ nth d.cls b.toNat (0 : Int) < ((nth d.next s.toNat ([] : List Int)).length : Int)
  nx : okS d (dlt d s b)
  f : 0 ≤ dlt d s b ∧ dlt d s b < (d.fin.length : Int)
theorem dlt_ok {d : Dfa} (h : rightD d = true) {s : Int} (hs : okS d s) (b : UInt8) : DltOk d s b := by
  simp only [rightD, Bool.and_eq_true, decide_eq_true_eq] at h
  obtain ⟨⟨⟨h1, h2⟩, h3⟩, h4⟩ := h
  cases hm : cntF d.cls with
  | none => rw [hm] at h2; cases h2
  | some m =>
    rw [hm] at h2
    have hb := UInt8.toNat_lt b
    have hcl : b.toNat < d.cls.length := by omega
    have hc := (cnt_mem d.cls 0 m hm).2 _ (nth_mem' hcl 0)
    obtain ⟨hs0, hs1⟩ := hs
    have hrow := List.all_eq_true.1 h2 _ (nth_mem' (l := d.next) (i := s.toNat) (by omega) [])
    simp only [goodR, Bool.and_eq_true, decide_eq_true_eq] at hrow
    obtain ⟨hr1, hr2⟩ := hrow
    have hx := List.all_eq_true.1 hr2 _ (nth_mem' (l := nth d.next s.toNat []) (i := (nth d.cls b.toNat (0 : Int)).toNat) (by omega) 0)
    simp only [goodS, Bool.and_eq_true, decide_eq_true_eq] at hx
    exact ⟨hcl, ⟨hc.1, by omega⟩, hx, ⟨hx.1, by have := hx.2; unfold dlt; omega⟩⟩
theorem ok0 {d : Dfa} (h : rightD d = true) : okS d 0 := by
  simp only [rightD, Bool.and_eq_true, decide_eq_true_eq] at h
  exact ⟨by omega, by omega⟩
def runD (d : Dfa) (q : Int) (l : List UInt8) : Int := l.foldl (dlt d) q
theorem runD_ok {d : Dfa} (h : rightD d = true) : ∀ (l : List UInt8) {q : Int}, okS d q → okS d (runD d q l)
  | [], _, hq => hq
  | b :: l, q, hq => by
    rw [runD, List.foldl_cons]; exact runD_ok h l (dlt_ok h hq b).nx
/-- Is the part from i to j taken? -/
def takD (d : Dfa) (l : List UInt8) (i j : Nat) : Bool := nth d.fin (runD d 0 ((l.take j).drop i)).toNat false
theorem part_step (l : List UInt8) {i j : Nat} (hij : i < j) (hj : j ≤ l.length) : (l.take j).drop i = nth l i 0 :: (l.take j).drop (i + 1) := by
  have hlt : i < (l.take j).length := by rw [List.length_take]; omega
  rw [List.drop_eq_getElem_cons hlt]
  congr 1
  have h2 := getD_some l (show i < l.length by omega) (0 : UInt8)
  rw [List.getElem?_eq_getElem (by omega)] at h2
  rw [List.getElem_take]; exact Option.some.inj h2
theorem part_snoc (l : List UInt8) {p i : Nat} (hp : p ≤ i) (hi : i < l.length) : (l.take (i + 1)).drop p = (l.take i).drop p ++ [nth l i 0] := by
  have h1 := take_split l hi (0 : UInt8)
  have h2 : l.take (i + 1) = l.take i ++ [nth l i 0] := by
    rw [List.take_add_one, getD_some l hi (0 : UInt8)]; rfl
  rw [h2, List.drop_append_of_le_length (by rw [List.length_take]; omega)]
theorem runD_snoc (d : Dfa) (q : Int) (l : List UInt8) (b : UInt8) : runD d q (l ++ [b]) = dlt d (runD d q l) b := by simp [runD, List.foldl_append]
theorem nth_range {n k : Nat} (h : k < n) : nth (List.range n) k 0 = k := by
  have h2 := getD_some (List.range n) (show k < (List.range n).length by simpa using h) (0 : Nat)
  rw [List.getElem?_range h] at h2; exact (Option.some.inj h2).symm
def anyTo (d : Dfa) (l : List UInt8) (i : Nat) : Bool := (List.range (i + 1)).any fun j => takD d l j i
def beforeD (d : Dfa) (l : List UInt8) : List Bool := (List.range (l.length + 1)).map (anyTo d l)
/-- What Before and After answer first. -/
def wrongD (d : Dfa) (l : List UInt8) : Int := if rightD d = true then (if 4096 < l.length then 2 else 0) else 1
def anyFrom (d : Dfa) (l : List UInt8) (i : Nat) : Bool := (List.range (l.length + 1 - i)).any fun j => takD d l i (i + j)
def afterD (d : Dfa) (l : List UInt8) : List Bool := (List.range (l.length + 1)).map (anyFrom d l)
/-- Does a text from some place ahead lead to a state? -/
def ledB (d : Dfa) (l : List UInt8) (m i q : Nat) : Bool := (List.range m).any fun j => decide (runD d 0 ((l.take i).drop j) = ((q : Nat) : Int))
theorem led_zero (d : Dfa) (l : List UInt8) (i q : Nat) : ledB d l (i + 1) i q = (ledB d l i i q || decide (q = 0)) := by
  unfold ledB
  rw [any_range_succ, List.drop_of_length_le (by rw [List.length_take]; omega)]
  congr 1
  rw [decide_eq_decide]; show (0 : Int) = _ ↔ _; omega
theorem led_any {d : Dfa} (h : rightD d = true) (l : List UInt8) (i : Nat) : (List.range d.next.length).any (fun q => ledB d l (i + 1) i q && nth d.fin q false) = anyTo d l i := by
  rw [Bool.eq_iff_iff, any_range, anyTo, any_range]
  constructor
  · rintro ⟨q, h1, h2⟩
    rw [Bool.and_eq_true, ledB, any_range] at h2
    obtain ⟨⟨j, h3, h4⟩, h5⟩ := h2
    refine ⟨j, h3, ?_⟩
    rw [decide_eq_true_eq] at h4
    rw [takD, h4, Int.toNat_natCast]; exact h5
  · rintro ⟨j, h1, h2⟩
    have h3 := runD_ok h ((l.take i).drop j) (ok0 h)
    refine ⟨(runD d 0 ((l.take i).drop j)).toNat, by have := h3.1; have := h3.2; omega, ?_⟩
    rw [Bool.and_eq_true]
    refine ⟨?_, h2⟩
    rw [ledB, any_range]
    exact ⟨j, h1, decide_eq_true (by rw [Int.toNat_of_nonneg h3.1])⟩
theorem led_next {d : Dfa} (h : rightD d = true) (l : List UInt8) {i : Nat} (hi : i < l.length) (q' : Nat) :
    (List.range d.next.length).any (fun q => ledB d l (i + 1) i q && decide (dlt d q (nth l i 0) = ((q' : Nat) : Int))) = ledB d l (i + 1) (i + 1) q' := by
  rw [Bool.eq_iff_iff, any_range, ledB, any_range]
  constructor
  · rintro ⟨q, h1, h2⟩
    rw [Bool.and_eq_true, ledB, any_range] at h2
    obtain ⟨⟨j, h3, h4⟩, h5⟩ := h2
    refine ⟨j, h3, ?_⟩
    rw [decide_eq_true_eq] at h4
    rw [part_snoc l (by omega) hi, runD_snoc, h4]; exact h5
  · rintro ⟨j, h1, h2⟩
    have h3 := runD_ok h ((l.take i).drop j) (ok0 h)
    refine ⟨(runD d 0 ((l.take i).drop j)).toNat, by have := h3.1; have := h3.2; omega, ?_⟩
    rw [part_snoc l (by omega) hi, runD_snoc] at h2
    rw [Bool.and_eq_true]
    refine ⟨?_, by rw [Int.toNat_of_nonneg h3.1]; exact h2⟩
    rw [ledB, any_range]
    exact ⟨j, h1, decide_eq_true (by rw [Int.toNat_of_nonneg h3.1])⟩
structure BefIn (d : Dfa) (l : List UInt8) (now r0 : List Bool) (i k : Nat) (s : List Bool × List Bool) : Prop where
  rl : s.1.length = l.length + 1
  nl : s.2.length = d.next.length
  ro : ∀ m, m ≠ i → nth s.1 m false = nth r0 m false
  ri : nth s.1 i false = (List.range k).any fun q => nth now q false && nth d.fin q false
  ne : i < l.length → ∀ q', nth s.2 q' false = (List.range k).any fun q => nth now q false && decide (dlt d q (nth l i 0) = ((q' : Nat) : Int))
theorem bef_in {d : Dfa} (h : rightD d = true) (l : List UInt8) (hl : l.length ≤ 4096) (now r0 nx0 : List Bool) (i : Nat) (hi : i ≤ l.length) (hn : now.length = d.next.length)
    (h0 : BefIn d l (now.set 0 true) r0 i 0 (r0, nx0)) :
    ∃ s, iter (fun q : (List Bool) × (List Bool) × Nat => scan_Before_b2 d now i l q.1 q.2.1 q.2.2) (r0, nx0, 0) = some (.inl (s.1, s.2, now.set 0 true, i + 1)) ∧ BefIn d l (now.set 0 true) r0 i d.next.length s := by
  have hfl : d.fin.length = d.next.length := by
    simp only [rightD, Bool.and_eq_true, decide_eq_true_eq] at h; exact h.2
  have hnl : (now.set 0 true).length = d.next.length := by rw [List.length_set]; exact hn
  obtain ⟨r, h1, s, rfl, h2⟩ := iter_up (step := fun q : (List Bool) × (List Bool) × Nat => scan_Before_b2 d now i l q.1 q.2.1 q.2.2) (fun (s : List Bool × List Bool) k => (s.1, s.2, k)) d.next.length
    (fun k s => BefIn d l (now.set 0 true) r0 i k s) (fun r => ∃ s : List Bool × List Bool, r = .inl (s.1, s.2, now.set 0 true, i + 1) ∧ BefIn d l (now.set 0 true) r0 i d.next.length s)
    (fun k s hk hI => by
      left
      obtain ⟨r, nx⟩ := s
      have hrl := hI.rl; have hnx := hI.nl
      simp only at hrl hnx
      simp only [scan_Before_b2]
      simp (disch := omega) only [List.length_replicate, iteO_dt, grd_mk, hnl]
      cases hc : nth (now.set 0 true) k false with
      | false =>
        refine ⟨(r, nx), rfl, hI.rl, hI.nl, hI.ro, ?_, ?_⟩
        · rw [any_range_succ, hc, hI.ri]; simp
        · intro hil q'; rw [any_range_succ, hc, hI.ne hil]; simp
      | true =>
        have hq : okS d ((k : Nat) : Int) := ⟨by omega, by omega⟩
        rw [iteO_nt]
        -- what the mark becomes, in one form
        have e : ∀ b, b = (nth r i false || nth d.fin k false) → ∃ s', scan_Before_j3 i l k d nx (r.set i b) = some (.inl (s'.1, s'.2, k + 1)) ∧ BefIn d l (now.set 0 true) r0 i (k + 1) s' := by
          intro b hb
          have hR : nth (r.set i b) i false = (List.range (k + 1)).any fun q => nth (now.set 0 true) q false && nth d.fin q false := by
            rw [nth_set, if_pos ⟨rfl, by omega⟩, any_range_succ, hc, hb, hI.ri, Bool.true_and]
          have hO : ∀ m, m ≠ i → nth (r.set i b) m false = nth r0 m false := fun m hm => by
            rw [nth_set, if_neg (by omega)]; exact hI.ro m hm
          by_cases hil : i < l.length
          · have hs := dlt_ok h hq (nth l i (0 : UInt8))
            have hcl := hs.cl; have hc1 := hs.c; have hnx1 := hs.nx
            have hb := UInt8.toNat_lt (nth l i (0 : UInt8))
            rw [Int.toNat_natCast] at hc1
            simp only [scan_Before_j3, scan_Before_j2]
            rw [iteO_dt (by omega), grd_mk hk, grd_mk hcl, grd_mk hc1]
            rw [show (nth (nth d.next k ([] : List Int)) ((nth d.cls (nth l i (0 : UInt8)).toNat (0 : Int)).toNat) (0 : Int)) = dlt d ((k : Nat) : Int) (nth l i 0) by unfold dlt; rw [Int.toNat_natCast]]
            rw [grd_mk (by have := hnx1.1; have := hnx1.2; omega)]
            refine ⟨(r.set i b, nx.set (dlt d ((k : Nat) : Int) (nth l i 0)).toNat true), rfl, by rw [List.length_set]; exact hrl, by rw [List.length_set]; exact hnx, hO, hR, ?_⟩
            intro _ q'
            rw [any_range_succ, hc, ← hI.ne hil, Bool.true_and, nth_set]
            by_cases hq' : dlt d ((k : Nat) : Int) (nth l i 0) = ((q' : Nat) : Int)
            · rw [if_pos ⟨by omega, by have := hnx1.2; omega⟩, decide_eq_true hq', Bool.or_true]
            · rw [if_neg (by have := hnx1.1; omega), decide_eq_false hq', Bool.or_false]
          · simp only [scan_Before_j3, scan_Before_j2]
            rw [iteO_df (by omega)]
            exact ⟨(r.set i b, nx), rfl, by rw [List.length_set]; exact hrl, hnx, hO, hR, fun hx => absurd hx hil⟩
        cases hr : nth r i false with
        | true => rw [iteO_true]; exact e true (by rw [hr]; rfl)
        | false => rw [iteO_false]; exact e _ (by rw [hr]; rfl))
    (fun s hI => by
      refine ⟨_, ?_, s, rfl, hI⟩
      simp only [scan_Before_b2]
      rw [List.length_replicate, iteO_df (by omega)]; rfl) (s0 := (r0, nx0)) h0
  exact ⟨s, h1, h2⟩
structure BefOut (d : Dfa) (l : List UInt8) (i : Nat) (s : List Bool × List Bool × List Bool) : Prop where
  rl : s.1.length = l.length + 1
  nl : s.2.1.length = d.next.length
  xl : s.2.2.length = d.next.length
  ri : ∀ m, nth s.1 m false = (decide (m < i) && anyTo d l m)
  no : i ≤ l.length → ∀ q, nth s.2.1 q false = ledB d l i i q
theorem rightD_next {d : Dfa} (h : rightD d = true) : 1 ≤ d.next.length ∧ d.next.length ≤ 1024 ∧ d.fin.length = d.next.length := by
  simp only [rightD, Bool.and_eq_true, decide_eq_true_eq] at h; omega
theorem wrongD0 {d : Dfa} {l : List UInt8} (hw : wrongD d l = 0) : rightD d = true ∧ l.length ≤ 4096 := by
  have hr : rightD d = true := by
    by_cases h : rightD d = true
    · exact h
    · rw [wrongD, if_neg h] at hw; cases hw
  refine ⟨hr, ?_⟩
  rw [wrongD, if_pos hr] at hw
  by_cases c : 4096 < l.length
  · rw [if_pos c] at hw; cases hw
  · omega
theorem bef_j1 {d : Dfa} (h : rightD d = true) (l : List UInt8) (hl : l.length ≤ 4096) : scan_Before_j1 l d = some (beforeD d l, 0) := by
  obtain ⟨hn1, hn2, hfl⟩ := rightD_next h
  unfold scan_Before_j1
  obtain ⟨r, h1, rfl⟩ := iter_up (step := fun q : (List Bool) × (List Bool) × (List Bool) × Nat => scan_Before_b1 l d q.1 q.2.1 q.2.2.1 q.2.2.2) (fun (s : List Bool × List Bool × List Bool) k => (s.1, s.2.1, s.2.2, k)) (l.length + 1)
    (fun k s => BefOut d l k s) (fun r => r = (beforeD d l, 0))
    (fun k s hk hI => by
      left
      obtain ⟨r, now, nx⟩ := s
      have hrl := hI.rl; have hnl := hI.nl; have hxl := hI.xl
      simp only at hrl hnl hxl
      simp only [scan_Before_b1]
      rw [List.length_replicate, iteO_dt (by omega), grd_mk (by omega)]
      have hno : ∀ q, q < d.next.length → nth (now.set 0 true) q false = ledB d l (k + 1) k q := fun q hq => by
        rw [led_zero, nth_set]
        by_cases h0 : q = 0
        · rw [if_pos (by omega), decide_eq_true h0, Bool.or_true]
        · rw [if_neg (by omega), decide_eq_false h0, Bool.or_false]; exact hI.no (by omega) q
      have key : ∀ f : Nat → Bool, ((List.range d.next.length).any fun q => nth (now.set 0 true) q false && f q) = (List.range d.next.length).any fun q => ledB d l (k + 1) k q && f q := fun f => by
        rw [Bool.eq_iff_iff, any_range, any_range]
        constructor
        · rintro ⟨q, h1, h2⟩; exact ⟨q, h1, by rw [← hno q h1]; exact h2⟩
        · rintro ⟨q, h1, h2⟩; exact ⟨q, h1, by rw [hno q h1]; exact h2⟩
      obtain ⟨s, h2, h3⟩ := bef_in h l hl now r (nx.take 0 ++ List.replicate (nx.length - 0) false) k (by omega) hnl
        ⟨hrl, by simp [hxl], fun _ _ => rfl, by rw [hI.ri]; simp, fun _ q' => by rw [List.take_zero, List.nil_append, nth_rep]; rfl⟩
      rw [h2]
      refine ⟨(s.1, s.2, now.set 0 true), rfl, h3.rl, h3.nl, by rw [List.length_set]; exact hnl, fun m => ?_, fun hk2 q => ?_⟩
      · by_cases hm : m = k
        · subst hm
          show nth s.1 m false = _
          rw [h3.ri, key, led_any h]
          simp
        · show nth s.1 m false = _
          rw [h3.ro m hm, hI.ri m]
          congr 1
          rw [decide_eq_decide]; omega
      · show nth s.2 q false = _
        rw [h3.ne (by omega) q, key, led_next h l (by omega)])
    (fun s hI => by
      obtain ⟨r, now, nx⟩ := s
      have hrl := hI.rl
      simp only at hrl
      refine ⟨(r, 0), ?_, ?_⟩
      · simp only [scan_Before_b1]
        rw [List.length_replicate, iteO_df (by omega)]; rfl
      · congr 1
        refine nth_ext false (by rw [hrl, beforeD]; simp) fun m hm => ?_
        rw [hrl] at hm
        have := hI.ri m
        simp only at this
        rw [this, decide_eq_true hm, Bool.true_and, beforeD, nth_map (anyTo d l) _ m 0 false (by simpa using hm), nth_range hm])
    (s0 := (List.replicate (l.length + 1) false, List.replicate d.next.length false, List.replicate d.next.length false))
    ⟨by simp, by simp, by simp, fun m => by simp [nth_rep], fun _ q => by show nth (List.replicate _ false) q false = _; rw [nth_rep]; simp [ledB]⟩
  exact h1
theorem checkL_eq (l : List UInt8) (hl : l.length ≤ 281474976710656) (ds : List Dfa) : scan_check l ds = some (if ds.all rightD = true then (if 4096 < l.length then 2 else 0) else 1) := by
  unfold scan_check
  rw [grd_mk hl]
  obtain ⟨r, h1, rfl⟩ := iter_up (step := fun q : Nat => scan_check_b1 ds l q) (fun (_ : Unit) k => k) ds.length (fun k _ => (ds.take k).all rightD = true) (fun r => r = if ds.all rightD = true then (if 4096 < l.length then 2 else 0) else 1)
    (fun k s hk hI => by
      simp only [scan_check_b1]
      rw [iteO_dt (by omega), check_eq, bnd_mk]
      cases hr : rightD (nth ds k Dfa.zero) with
      | true => left; rw [if_pos rfl, iteO_df (by omega)]; exact ⟨(), rfl, by rw [take_snoc ds hk Dfa.zero, all_snoc, hI, hr]; rfl⟩
      | false =>
        right; rw [if_neg (by simp), iteO_dt (by omega)]
        exact ⟨1, rfl, by rw [if_neg]; rw [all_false_of hk Dfa.zero hr]; simp⟩)
    (fun s hI => by
      rw [List.take_length] at hI
      simp only [scan_check_b1]
      rw [iteO_df (by omega), if_pos hI]
      by_cases c : 4096 < l.length
      · rw [iteO_dt (by omega), if_pos c]; exact ⟨_, rfl, rfl⟩
      · rw [iteO_df (by omega), if_neg c]; exact ⟨_, rfl, rfl⟩) (s0 := ()) rfl
  exact h1
theorem checkW_eq (d : Dfa) (l : List UInt8) (hl : l.length ≤ 281474976710656) : scan_check l [d] = some (wrongD d l) := by
  rw [checkL_eq l hl]; unfold wrongD; simp
theorem bef_eq (d : Dfa) (l : List UInt8) (hl : l.length ≤ 281474976710656) : scan_Before d l = some (if wrongD d l = 0 then (beforeD d l, 0) else ([], wrongD d l)) := by
  unfold scan_Before
  rw [grd_mk hl, checkW_eq d l hl, bnd_mk]
  by_cases hw : wrongD d l = 0
  · obtain ⟨hr, h4⟩ := wrongD0 hw
    obtain ⟨hn1, hn2, hfl⟩ := rightD_next hr
    rw [if_pos hw, iteO_df (by omega), grd_mk (by omega), grd_mk (by omega), grd_mk (by omega)]
    exact bef_j1 hr l h4
  · rw [if_neg hw, iteO_dt hw]
/-- Does some beginning of a text lead from a state to an end? -/
def endsF (d : Dfa) : List UInt8 → Int → Bool
  | [], q => nth d.fin q.toNat false
  | b :: l, q => nth d.fin q.toNat false || endsF d l (dlt d q b)
theorem any_cons_range (n : Nat) (p : Nat → Bool) : (List.range (n + 1)).any p = (p 0 || (List.range n).any fun j => p (j + 1)) := by
  rw [Bool.eq_iff_iff, Bool.or_eq_true, any_range, any_range]
  constructor
  · rintro ⟨j, h1, h2⟩
    cases j with
    | zero => exact .inl h2
    | succ j => exact .inr ⟨j, by omega, h2⟩
  · rintro (h | ⟨j, h1, h2⟩)
    · exact ⟨0, by omega, h⟩
    · exact ⟨j + 1, by omega, h2⟩
theorem endsF_any (d : Dfa) : ∀ (l : List UInt8) (q : Int), endsF d l q = (List.range (l.length + 1)).any fun j => nth d.fin (runD d q (l.take j)).toNat false
  | [], q => by simp [endsF, runD]
  | b :: l, q => by rw [endsF, endsF_any d l, List.length_cons, any_cons_range (l.length + 1)]; rfl
theorem anyFrom_ends (d : Dfa) (l : List UInt8) {i : Nat} (hi : i ≤ l.length) : anyFrom d l i = endsF d (l.drop i) 0 := by
  rw [endsF_any, anyFrom, List.length_drop, show l.length + 1 - i = l.length - i + 1 by omega]
  congr 1; funext j
  unfold takD
  congr 3
  rw [List.drop_take, show i + j - i = j by omega]
structure AftIn (d : Dfa) (now : List Bool) (b : UInt8) (k : Nat) (nx : List Bool) : Prop where
  len : nx.length = d.next.length
  it : ∀ q, q < k → nth nx q false = (nth d.fin q false || nth now (dlt d ((q : Nat) : Int) b).toNat false)
theorem aft_in {d : Dfa} (h : rightD d = true) (r now nx : List Bool) (i : Nat) (b : UInt8) (hn : now.length = d.next.length) (hx : nx.length = d.next.length) (hi : i < r.length) :
    ∃ nx', scan_After_r4 d r now nx ((i : Nat) : Int) b = some (0, (r.set i (nth nx' 0 false)), nx', now) ∧ AftIn d now b d.next.length nx' := by
  obtain ⟨hn1, hn2, hfl⟩ := rightD_next h
  unfold scan_After_r4
  obtain ⟨r', h1, s, rfl, h2⟩ := iter_up (step := fun q : (List Bool) × Nat => scan_After_b1 d b now ((i : Nat) : Int) r q.1 q.2) (fun (s : List Bool) k => (s, k)) d.next.length
    (fun k s => AftIn d now b k s) (fun z => ∃ s : List Bool, z = (0, (r.set i (nth s 0 false)), s, now) ∧ AftIn d now b d.next.length s)
    (fun k s hk hI => by
      left
      have hl := hI.len
      simp only [scan_After_b1, scan_After_j2]
      rw [iteO_dt (by omega)]
      have key : ∀ x, x = (nth d.fin k false || nth now (dlt d ((k : Nat) : Int) b).toNat false) → AftIn d now b (k + 1) (s.set k x) := fun x hx => ⟨by rw [List.length_set]; exact hl, fun q hq => by
        rw [nth_set]
        by_cases e : k = q
        · subst e; rw [if_pos ⟨rfl, by omega⟩]; exact hx
        · rw [if_neg (by omega)]; exact hI.it q (by omega)⟩
      cases hf : nth d.fin k false with
      | true => rw [iteO_true, grd_mk (by omega)]; exact ⟨_, rfl, key _ (by rw [hf]; rfl)⟩
      | false =>
        have hq : okS d ((k : Nat) : Int) := ⟨by omega, by omega⟩
        have hs := dlt_ok h hq b
        have hcl := hs.cl; have hc1 := hs.c; have hnx1 := hs.nx
        rw [Int.toNat_natCast] at hc1
        rw [iteO_false, grd_mk hk, grd_mk hcl, grd_mk hc1]
        rw [show (nth (nth d.next k ([] : List Int)) ((nth d.cls b.toNat (0 : Int)).toNat) (0 : Int)) = dlt d ((k : Nat) : Int) b by unfold dlt; rw [Int.toNat_natCast]]
        rw [grd_mk (by have := hnx1.1; have := hnx1.2; omega), grd_mk (by omega)]
        exact ⟨_, rfl, key _ (by rw [hf]; rfl)⟩)
    (fun s hI => by
      have hl := hI.len
      refine ⟨_, ?_, s, rfl, hI⟩
      simp only [scan_After_b1]
      rw [iteO_df (by omega), grd_mk (by omega), grd_mk (by omega), Int.toNat_natCast]; rfl) (s0 := nx) ⟨hx, fun q hq => by omega⟩
  exact ⟨s, h1, h2⟩
structure AftOut (d : Dfa) (l : List UInt8) (i : Nat) (s : List Bool × List Bool × List Bool) : Prop where
  rl : s.1.length = l.length + 1
  nl : s.2.1.length = d.next.length
  xl : s.2.2.length = d.next.length
  ri : ∀ m, i ≤ m → m ≤ l.length → nth s.1 m false = anyFrom d l m
  no : ∀ q, q < d.next.length → nth s.2.1 q false = endsF d (l.drop i) ((q : Nat) : Int)
theorem drop_nth (l : List UInt8) {i : Nat} (hi : i < l.length) : l.drop i = nth l i 0 :: l.drop (i + 1) := by
  have h := getD_some l hi (0 : UInt8)
  rw [List.getElem?_eq_getElem hi] at h
  rw [List.drop_eq_getElem_cons hi, Option.some.inj h]
theorem aft_loop {d : Dfa} (h : rightD d = true) (l : List UInt8) (hl : l.length ≤ 4096) : ∀ (i : Nat) (s : List Bool × List Bool × List Bool), i ≤ l.length → AftOut d l i s →
    ∃ s', iter (fun q : Int × (Nat × (List Bool) × (List Bool) × (List Bool)) => slices_Backward_byte_byte_1_b1 l (stepY (fun (q : (List Bool) × (List Bool) × (List Bool)) (x : Int × UInt8) => scan_After_r4 d q.1 q.2.1 q.2.2 x.1 x.2)) q.1 q.2) (((i : Nat) : Int) - 1, (0, s)) = some (0, s') ∧ AftOut d l 0 s'
  | 0, s, hi, hI => by
    refine ⟨s, iter_done ?_, hI⟩
    simp only [slices_Backward_byte_byte_1_b1]
    rw [iteO_df (by omega)]; rfl
  | i + 1, s, hi, hI => by
    obtain ⟨r, now, nx⟩ := s
    have hrl := hI.rl; have hnl := hI.nl; have hxl := hI.xl
    simp only at hrl hnl hxl
    obtain ⟨nx', h1, h2⟩ := aft_in h r now nx i (nth l i 0) hnl hxl (by omega)
    obtain ⟨hn1, hn2, hfl⟩ := rightD_next h
    have hno : ∀ q, q < d.next.length → nth nx' q false = endsF d (l.drop i) ((q : Nat) : Int) := fun q hq => by
      have hs := dlt_ok h (s := ((q : Nat) : Int)) ⟨by omega, by omega⟩ (nth l i 0)
      rw [h2.it q hq, drop_nth l (by omega), endsF, Int.toNat_natCast]
      have h3 := hI.no (dlt d ((q : Nat) : Int) (nth l i 0)).toNat (by have := hs.nx.1; have := hs.nx.2; omega)
      simp only at h3
      rw [h3, Int.toNat_of_nonneg hs.nx.1]
    have hI' : AftOut d l i ((r.set i (nth nx' 0 false)), nx', now) := ⟨by show (List.set ..).length = _; rw [List.length_set]; exact hrl, h2.len, hnl, fun m hm hm2 => by
      show nth (List.set ..) m false = _
      rw [nth_set]
      by_cases e : i = m
      · subst e; rw [if_pos ⟨rfl, by omega⟩, hno 0 (by omega), anyFrom_ends d l hm2]; rfl
      · rw [if_neg (by omega)]; exact hI.ri m (by omega) hm2, hno⟩
    obtain ⟨s', h3, h4⟩ := aft_loop h l hl i _ (by omega) hI'
    refine ⟨s', iter_next (s' := (((i : Nat) : Int) - 1, (0, (r.set i (nth nx' 0 false)), nx', now))) ?_ h3, h4⟩
    simp only [slices_Backward_byte_byte_1_b1]
    rw [show ((i + 1 : Nat) : Int) - 1 = ((i : Nat) : Int) by omega, iteO_dt (by omega), grd_mk (by omega), Int.toNat_natCast]
    rw [show stepY (fun (q : (List Bool) × (List Bool) × (List Bool)) (x : Int × UInt8) => scan_After_r4 d q.1 q.2.1 q.2.2 x.1 x.2) (0, r, now, nx) (((i : Nat) : Int), nth l i 0) = some ((0, (r.set i (nth nx' 0 false)), nx', now), true) from by
      unfold stepY; rw [if_pos rfl]; simp only [h1]; rfl, bnd_mk, wrap64_of (by omega) (by omega)]
    rfl
theorem aft_eq (d : Dfa) (l : List UInt8) (hl : l.length ≤ 281474976710656) : scan_After d l = some (if wrongD d l = 0 then (afterD d l, 0) else ([], wrongD d l)) := by
  unfold scan_After
  rw [grd_mk hl, checkW_eq d l hl, bnd_mk]
  by_cases hw : wrongD d l = 0
  · obtain ⟨hr, h4⟩ := wrongD0 hw
    obtain ⟨hn1, hn2, hfl⟩ := rightD_next hr
    rw [if_pos hw, iteO_df (by omega), grd_mk (by omega), grd_mk (by omega), grd_mk (by omega)]
    unfold scan_After_j1
    rw [List.length_replicate, grd_mk (by omega), grd_mk (by omega), grd_mk hl]
    rw [bnd_some (show slices_Backward l = some l from rfl)]
    obtain ⟨s', h1, h2⟩ := aft_loop hr l h4 l.length ((List.replicate (l.length + 1) false).set l.length (nth d.fin 0 false), d.fin, List.replicate d.fin.length false) (Nat.le_refl _)
      ⟨by simp, hfl, by simp [hfl], fun m hm hm2 => by
        have e : m = l.length := by omega
        subst e
        show nth (List.set ..) _ false = _
        rw [nth_set, if_pos ⟨rfl, by simp⟩, anyFrom_ends d l (Nat.le_refl _), List.drop_length]; rfl,
       fun q hq => by rw [List.drop_length]; rfl⟩
    unfold slices_Backward_byte_byte_1
    rw [wrap64_of (by omega) (by omega), h1, bnd_mk]
    show some (s'.1, (0 : Int)) = _
    congr 2
    refine nth_ext false (by rw [h2.rl, afterD]; simp) fun m hm => ?_
    rw [h2.rl] at hm
    rw [h2.ri m (Nat.zero_le _) (by omega), afterD, nth_map (anyFrom d l) _ m 0 false (by simpa using hm), nth_range hm]
  · rw [if_neg hw, iteO_dt hw]
/-- The greatest place above p, at most j, that may be and up to which a part that begins at p is taken; p, if there is none. -/
def keepF (d : Dfa) (af : List Bool) (l : List UInt8) (p : Nat) : Nat → Nat
  | 0 => p
  | j + 1 => if p < j + 1 ∧ takD d l p (j + 1) = true ∧ nth af (j + 1) false = true then j + 1 else keepF d af l p j
theorem keepF_low (d : Dfa) (af : List Bool) (l : List UInt8) (p : Nat) : ∀ j, j ≤ p → keepF d af l p j = p
  | 0, _ => rfl
  | j + 1, h => by rw [keepF, if_neg (by omega)]; exact keepF_low d af l p j (by omega)
theorem keepF_ge (d : Dfa) (af : List Bool) (l : List UInt8) (p : Nat) : ∀ j, p ≤ keepF d af l p j
  | 0 => Nat.le_refl _
  | j + 1 => by rw [keepF]; split; omega; exact keepF_ge d af l p j
theorem keepF_le (d : Dfa) (af : List Bool) (l : List UInt8) (p : Nat) : ∀ j, keepF d af l p j ≤ max p j
  | 0 => by rw [keepF]; omega
  | j + 1 => by
    rw [keepF]; split
    · omega
    · have := keepF_le d af l p j; omega
theorem lfac_loop {d : Dfa} (h : rightD d = true) (af : List Bool) (l : List UInt8) (hl : l.length ≤ 281474976710656) (ha : af.length = l.length + 1) (p : Nat) : ∀ (m i : Nat), l.length - i = m → p ≤ i → i ≤ l.length →
    iter (fun q : Int × Int × Int => longestF_b1 l d af q.1 q.2.1 q.2.2) (((keepF d af l p i : Nat) : Int), runD d 0 ((l.take i).drop p), ((i : Nat) : Int)) = some ((keepF d af l p l.length : Nat) : Int)
  | 0, i, hm, hp, hi => by
    have e : i = l.length := by omega
    subst e
    refine iter_done ?_
    simp only [longestF_b1]
    rw [iteO_df (by omega)]; rfl
  | m + 1, i, hm, hp, hi => by
    have hq : okS d (runD d 0 ((l.take i).drop p)) := runD_ok h _ (ok0 h)
    have hs := dlt_ok h hq (nth l i (0 : UInt8))
    have hk : nth d.fin (dlt d (runD d 0 ((l.take i).drop p)) (nth l i 0)).toNat false = takD d l p (i + 1) := by
      unfold takD; rw [part_snoc l hp (by omega), runD_snoc]
    refine iter_next (s' := (((keepF d af l p (i + 1) : Nat) : Int), runD d 0 ((l.take (i + 1)).drop p), ((i + 1 : Nat) : Int))) ?_ (lfac_loop h af l hl ha p m (i + 1) (by omega) (by omega) (by omega))
    rw [part_snoc l hp (by omega), runD_snoc]
    simp only [longestF_b1]
    rw [iteO_dt (by omega), grd_mk (show 0 ≤ runD d 0 ((l.take i).drop p) ∧ runD d 0 ((l.take i).drop p) < (d.next.length : Int) from hq), grd_mk (by omega), Int.toNat_natCast, grd_mk hs.cl, grd_mk hs.c]
    rw [show (nth (nth d.next (runD d 0 ((l.take i).drop p)).toNat ([] : List Int)) ((nth d.cls (nth l i (0 : UInt8)).toNat (0 : Int)).toNat) (0 : Int)) = dlt d (runD d 0 ((l.take i).drop p)) (nth l i 0) from rfl, grd_mk hs.f, hk, keepF, wrap64_of (by omega) (by omega)]
    cases takD d l p (i + 1) with
    | true =>
      rw [iteO_true, scan_Factors_1, grd_mk (by omega), bnd_mk, show (((i : Nat) : Int) + 1).toNat = i + 1 by omega]
      cases nth af (i + 1) false with
      | true => rw [iteO_true, if_pos ⟨by omega, rfl, rfl⟩, longestF_j1, Int.toNat_natCast, wrap64_of (by omega) (by omega)]; rfl
      | false => rw [iteO_false, if_neg (by simp), longestF_j1, Int.toNat_natCast, wrap64_of (by omega) (by omega)]; rfl
    | false => rw [iteO_false, if_neg (by simp), longestF_j1, Int.toNat_natCast, wrap64_of (by omega) (by omega)]; rfl
theorem longestF_eq {d : Dfa} (h : rightD d = true) (af : List Bool) (l : List UInt8) (hl : l.length ≤ 281474976710656) (ha : af.length = l.length + 1) {p : Nat} (hp : p ≤ l.length) : longestF d l ((p : Nat) : Int) af = some ((keepF d af l p l.length : Nat) : Int) := by
  unfold longestF
  rw [grd_mk hl]
  have := lfac_loop h af l hl ha p _ p rfl (Nat.le_refl _) hp
  rw [keepF_low d af l p p (Nat.le_refl _), List.drop_of_length_le (by rw [List.length_take]; omega)] at this
  exact this
/-- The end of the factor that begins at a place; the place, if none does. -/
def facTo (d : Dfa) (be af : List Bool) (l : List UInt8) (p : Nat) : Nat := if nth be p false = true then keepF d af l p l.length else p
/-- The factors from a place on. -/
def facs (d : Dfa) (be af : List Bool) (l : List UInt8) : Nat → Nat → List Span
  | 0, _ => []
  | n + 1, p => if p < l.length then (if facTo d be af l p = p then facs d be af l n (p + 1) else ⟨((p : Nat) : Int), ((facTo d be af l p : Nat) : Int)⟩ :: facs d be af l n (facTo d be af l p)) else []
theorem facTo_le (d : Dfa) (be af : List Bool) (l : List UInt8) {p : Nat} (hp : p ≤ l.length) : facTo d be af l p ≤ l.length := by
  unfold facTo; split
  · have := keepF_le d af l p l.length; omega
  · exact hp
theorem facTo_ge (d : Dfa) (be af : List Bool) (l : List UInt8) (p : Nat) : p ≤ facTo d be af l p := by
  unfold facTo; split
  · exact keepF_ge d af l p _
  · exact Nat.le_refl _
theorem pfac_loop {d : Dfa} (h : rightD d = true) (be af : List Bool) (e1 e2 : Int) (l : List UInt8) (hl : l.length ≤ 4096) (hb : be.length = l.length + 1) (ha : af.length = l.length + 1) : ∀ (n p : Nat) (r : List Span), l.length ≤ p + n → p ≤ l.length → r.length ≤ p →
    iter (fun q : (List Span) × Int => scan_Factors_b1 l (be, e1) d (af, e2) q.1 q.2) (r, ((p : Nat) : Int)) = some (r ++ facs d be af l n p, 0)
  | 0, p, r, hn, hp, hr => by
    refine iter_done ?_
    simp only [scan_Factors_b1]
    rw [iteO_df (by omega), facs, List.append_nil]; rfl
  | n + 1, p, r, hn, hp, hr => by
    by_cases c : p < l.length
    · have ht := facTo_le d be af l hp
      have hg := facTo_ge d be af l p
      have key : scan_Factors_b1 l (be, e1) d (af, e2) r ((p : Nat) : Int) = scan_Factors_j1 ((p : Nat) : Int) r ((facTo d be af l p : Nat) : Int) := by
        simp only [scan_Factors_b1]
        rw [iteO_dt (by omega), grd_mk (by omega), Int.toNat_natCast]
        cases hbp : nth be p false with
        | true => rw [iteO_true, longestF_eq h af l (by omega) ha hp, bnd_mk, facTo, hbp, if_pos rfl]
        | false => rw [iteO_false, facTo, hbp, if_neg (by simp)]
      rw [facs, if_pos c]
      by_cases e : facTo d be af l p = p
      · rw [if_pos e]
        refine iter_next (s' := (r, ((p + 1 : Nat) : Int))) ?_ (pfac_loop h be af e1 e2 l hl hb ha n (p + 1) r (by omega) (by omega) (by omega))
        simp only []
        rw [key, scan_Factors_j1, iteO_dt (by omega), wrap64_of (by omega) (by omega)]; rfl
      · rw [if_neg e]
        refine iter_next (s' := (r ++ [⟨((p : Nat) : Int), ((facTo d be af l p : Nat) : Int)⟩], ((facTo d be af l p : Nat) : Int))) ?_ ?_
        · simp only []
          rw [key, scan_Factors_j1, iteO_df (by omega), grd_mk (by simp only [List.length_cons, List.length_nil]; omega)]; rfl
        · rw [pfac_loop h be af e1 e2 l hl hb ha n (facTo d be af l p) _ (by omega) ht (by rw [List.length_append]; simp only [List.length_cons, List.length_nil]; omega), List.append_assoc]; rfl
    · refine iter_done ?_
      simp only [scan_Factors_b1]
      rw [iteO_df (by omega), facs, if_neg c, List.append_nil]; rfl
/-- What Factors answers. -/
def wrongF (d x y : Dfa) (l : List UInt8) : Int := if rightD d = true ∧ rightD x = true ∧ rightD y = true then (if 4096 < l.length then 2 else 0) else 1
def facD (d x y : Dfa) (l : List UInt8) : List Span := facs d (beforeD x l) (afterD y l) l l.length 0
theorem beforeD_len (d : Dfa) (l : List UInt8) : (beforeD d l).length = l.length + 1 := by simp [beforeD]
theorem afterD_len (d : Dfa) (l : List UInt8) : (afterD d l).length = l.length + 1 := by simp [afterD]
theorem pfac_eq (d x y : Dfa) (l : List UInt8) (hl : l.length ≤ 281474976710656) : scan_Factors d x y l = some (if wrongF d x y l = 0 then (facD d x y l, 0) else ([], wrongF d x y l)) := by
  unfold scan_Factors
  rw [grd_mk hl, checkL_eq l hl]
  have e : (if [d, x, y].all rightD = true then (if 4096 < l.length then (2 : Int) else 0) else 1) = wrongF d x y l := by
    unfold wrongF; simp only [List.all_cons, List.all_nil, Bool.and_true, Bool.and_eq_true]
  rw [e, bnd_mk]
  by_cases hw : wrongF d x y l = 0
  · have hall : rightD d = true ∧ rightD x = true ∧ rightD y = true ∧ l.length ≤ 4096 := by
      unfold wrongF at hw
      by_cases c : rightD d = true ∧ rightD x = true ∧ rightD y = true
      · rw [if_pos c] at hw
        by_cases c2 : 4096 < l.length
        · rw [if_pos c2] at hw; cases hw
        · exact ⟨c.1, c.2.1, c.2.2, by omega⟩
      · rw [if_neg c] at hw; cases hw
    obtain ⟨h1, h2, h3, h4⟩ := hall
    have w1 : wrongD x l = 0 := by rw [wrongD, if_pos h2, if_neg (by omega)]
    have w2 : wrongD y l = 0 := by rw [wrongD, if_pos h3, if_neg (by omega)]
    rw [if_pos hw, iteO_df (by omega), bef_eq x l hl, if_pos w1, bnd_mk]
    simp only []
    rw [iteO_df (by omega), aft_eq y l hl, if_pos w2, bnd_mk]
    simp only []
    rw [iteO_df (by omega)]
    have := pfac_loop h1 (beforeD x l) (afterD y l) 0 0 l h4 (beforeD_len x l) (afterD_len y l) l.length 0 [] (by omega) (by omega) (by simp)
    exact this
  · rw [if_neg hw, iteO_dt hw]
end Go.Proofs.YtmfclggfajopkaaGreatDoor
end

/- RwP -/
section
/- A rule turns a text: what the program answers. Plain lemmas; of a text only that its length is at most 2^48. -/
set_option linter.unusedVariables false
set_option linter.unusedSimpArgs false
namespace Go.Proofs.YtmfclggfajopkaaGreatDoor
open Go Go.E
set_option maxRecDepth 100000

/-- n bytes from a place on, each at its own place. -/
def ownD (a n : Nat) : List Span := (List.range n).map fun k => ⟨((a + k : Nat) : Int), ((a + k + 1 : Nat) : Int)⟩
theorem ownD_len (a n : Nat) : (ownD a n).length = n := by simp [ownD]
theorem ownD_zero (a : Nat) : ownD a 0 = [] := rfl
theorem ownD_succ (a n : Nat) : ownD a (n + 1) = ownD a n ++ [⟨((a + n : Nat) : Int), ((a + n + 1 : Nat) : Int)⟩] := by
  unfold ownD; rw [List.range_succ, List.map_append]; rfl
theorem writeSU_eq (t : Turned) (m : List UInt8) (h : t.b.buf.length + m.length ≤ 140737488355328) : writeSU t m = some (((m.length : Nat) : Int), (), ⟨⟨t.b.buf ++ m⟩, t.at'⟩) := by
  unfold writeSU
  rw [grd_mk (by omega), show copyCheckU (⟨⟨t.b.buf⟩, t.at'⟩ : Turned) = some ⟨⟨t.b.buf⟩, t.at'⟩ from rfl, bnd_mk, grd_mk h]
theorem stay_eq (t : Turned) (l : List UInt8) (hl : l.length ≤ 1000000) {a b : Nat} (hab : a ≤ b) (hb : b ≤ l.length) (ht : t.b.buf.length ≤ 100000000000) (hat : t.at'.length ≤ 1000000000000) :
    rewrite_turned_stay t l ⟨((a : Nat) : Int), ((b : Nat) : Int)⟩ = some ⟨⟨t.b.buf ++ (l.take b).drop a⟩, t.at' ++ ownD a (b - a)⟩ := by
  unfold rewrite_turned_stay
  have hlen : ((l.take b).drop a).length ≤ 1000000 := by simp only [List.length_drop, List.length_take]; omega
  rw [grd_mk (by omega), grd_mk (by simp only [Int.toNat_natCast]; omega)]
  simp only [Int.toNat_natCast]
  rw [show (⟨⟨t.b.buf⟩, t.at'⟩ : Turned) = t from rfl, writeSU_eq t _ (by omega), bnd_mk]
  simp only []
  obtain ⟨r, h1, rfl⟩ := iter_up (step := fun q : (List Span) × Int => rewrite_turned_stay_b1 ⟨((a : Nat) : Int), ((b : Nat) : Int)⟩ ((((l.take b).drop a).length : Int), (), ⟨⟨t.b.buf ++ (l.take b).drop a⟩, t.at'⟩) q.1 q.2)
    (fun (s : List Span) k => (s, ((a + k : Nat) : Int))) (b - a) (fun k s => s = t.at' ++ ownD a k) (fun r => r = ⟨⟨t.b.buf ++ (l.take b).drop a⟩, t.at' ++ ownD a (b - a)⟩)
    (fun k s hk hI => by
      left
      refine ⟨s ++ [⟨((a + k : Nat) : Int), ((a + k + 1 : Nat) : Int)⟩], ?_, by rw [hI, ownD_succ, List.append_assoc]⟩
      have hs : s.length ≤ 1000001000000 := by rw [hI, List.length_append, ownD_len]; omega
      simp only [rewrite_turned_stay_b1]
      rw [iteO_dt (by omega), grd_mk (by simp only [List.length_cons, List.length_nil]; omega), wrap64_of (by omega) (by omega)]; rfl)
    (fun s hI => by
      simp only [rewrite_turned_stay_b1]
      rw [iteO_df (by omega)]; exact ⟨_, rfl, by rw [hI]⟩) (s0 := t.at') (by rw [ownD_zero, List.append_nil])
  exact h1
theorem put_eq (t : Turned) (o : List UInt8) (p : Span) (ho : o.length ≤ 100000000) (ht : t.b.buf.length ≤ 100000000000) (hat : t.at'.length ≤ 1000000000000) :
    rewrite_turned_put t o p = some (if 4096 < t.b.buf.length + o.length then (false, t) else (true, ⟨⟨t.b.buf ++ o⟩, t.at' ++ List.replicate o.length p⟩)) := by
  unfold rewrite_turned_put
  rw [grd_mk (by omega), show (⟨⟨t.b.buf⟩, t.at'⟩ : Turned) = t from rfl, show lenU t = some ((t.b.buf.length : Nat) : Int) from rfl, bnd_mk, wrap64_of (by omega) (by omega)]
  by_cases c : 4096 < t.b.buf.length + o.length
  · rw [iteO_dt (by omega), if_pos c]
  · rw [iteO_df (by omega), if_neg c, writeSU_eq t _ (by omega), bnd_mk]
    simp only []
    obtain ⟨r, h1, rfl⟩ := iter_up (step := fun q : (List Span) × Nat => rewrite_turned_put_b1 o p (((o.length : Nat) : Int), (), ⟨⟨t.b.buf ++ o⟩, t.at'⟩) q.1 q.2)
      (fun (s : List Span) k => (s, k)) o.length (fun k s => s = t.at' ++ List.replicate k p) (fun r => r = (true, ⟨⟨t.b.buf ++ o⟩, t.at' ++ List.replicate o.length p⟩))
      (fun k s hk hI => by
        left
        refine ⟨s ++ [p], ?_, by rw [hI, List.replicate_succ', List.append_assoc]⟩
        have hs : s.length ≤ 1000100000000 := by rw [hI, List.length_append, List.length_replicate]; omega
        simp only [rewrite_turned_put_b1]
        rw [iteO_dt (by omega), grd_mk (by simp only [List.length_cons, List.length_nil]; omega)]; rfl)
      (fun s hI => by
        simp only [rewrite_turned_put_b1]
        rw [iteO_df (by omega)]; exact ⟨_, rfl, by rw [hI]⟩) (s0 := t.at') (by simp)
    exact h1

/-- What becomes of a factor; none: it stays. -/
def factor (r : Rule) (w : List UInt8) : Option (List UInt8) :=
  if r.mapped = true then (if (applyQ r.by' w).2.2.1 = true ∧ (applyQ r.by' w).2.2.2 = 0 then some (applyQ r.by' w).1 else none) else some r.out
theorem factor_len (r : Rule) (hr : r.out.length ≤ 1000000) (w o : List UInt8) (h : factor r w = some o) : o.length ≤ 1000000 + 4096 * (w.length + 2) := by
  unfold factor at h
  split at h
  · split at h
    · cases h; have := applyQ_len r.by' w; omega
    · cases h
  · cases h; omega
/-- What stands so far (its bytes, their places, up to where), and a factor more. -/
def stepT (r : Rule) (l : List UInt8) (st : List UInt8 × List Span × Nat) (p : Span) : List UInt8 × List Span × Nat :=
  match factor r ((l.take p.to.toNat).drop p.frm.toNat) with
  | none => (st.1 ++ (l.take p.frm.toNat).drop st.2.2 ++ (l.take p.to.toNat).drop p.frm.toNat, st.2.1 ++ ownD st.2.2 (p.frm.toNat - st.2.2) ++ ownD p.frm.toNat (p.to.toNat - p.frm.toNat), p.to.toNat)
  | some o => (st.1 ++ (l.take p.frm.toNat).drop st.2.2 ++ o, st.2.1 ++ ownD st.2.2 (p.frm.toNat - st.2.2) ++ List.replicate o.length p, p.to.toNat)
def turnT (r : Rule) (l : List UInt8) (ps : List Span) (st : List UInt8 × List Span × Nat) : List UInt8 × List Span :=
  ((ps.foldl (stepT r l) st).1 ++ l.drop (ps.foldl (stepT r l) st).2.2, (ps.foldl (stepT r l) st).2.1 ++ ownD (ps.foldl (stepT r l) st).2.2 (l.length - (ps.foldl (stepT r l) st).2.2))
theorem stepT_len (r : Rule) (l : List UInt8) (st : List UInt8 × List Span × Nat) (p : Span) : st.1.length ≤ (stepT r l st p).1.length := by
  unfold stepT; split <;> simp only [List.length_append] <;> omega
theorem turnT_len (r : Rule) (l : List UInt8) : ∀ (ps : List Span) (st : List UInt8 × List Span × Nat), st.1.length ≤ (turnT r l ps st).1.length
  | [], st => by simp only [turnT, List.foldl_nil, List.length_append]; omega
  | p :: ps, st => Nat.le_trans (stepT_len r l st p) (turnT_len r l ps (stepT r l st p))
/-- Factors, one behind the other, from a place on, in a text of n bytes. -/
def FacOk (n : Nat) : Nat → List Span → Prop
  | _, [] => True
  | p, x :: xs => ∃ a b : Nat, x = ⟨((a : Nat) : Int), ((b : Nat) : Int)⟩ ∧ p ≤ a ∧ a < b ∧ b ≤ n ∧ FacOk n b xs
theorem facs_ok (d : Dfa) (be af : List Bool) (l : List UInt8) : ∀ (n p : Nat), p ≤ l.length → ∀ p', p' ≤ p → FacOk l.length p' (facs d be af l n p)
  | 0, p, _, p', _ => by rw [facs]; exact trivial
  | n + 1, p, hp, p', hp' => by
    rw [facs]
    split
    · rename_i c
      have h1 := facTo_le d be af l hp
      have h2 := facTo_ge d be af l p
      split
      · exact facs_ok d be af l n (p + 1) (by omega) p' (by omega)
      · exact ⟨p, facTo d be af l p, rfl, hp', by omega, h1, facs_ok d be af l n _ h1 _ (Nat.le_refl _)⟩
    · exact trivial
/-- A round over the factors, whatever becomes of them. -/
noncomputable def tb (bc : List UInt8 → Option (List UInt8 × Bool)) (v : (List Span) × Int) (x1 : List UInt8) (l135 : List UInt8) (l139 : List Span) (i142 : Int) (k143 : Nat) : Option (((List UInt8) × (List Span) × Int × Nat) ⊕ (Piece × Int)) :=
  iteO (decide (((k143 : Nat) : Int) < ((v.1.length : Nat) : Int))) (bnd (rewrite_turned_stay (⟨(⟨l135⟩ : SB), l139⟩ : Turned) x1 (⟨i142, (nth v.1 k143 Span.zero).frm⟩ : Span)) (fun v54 => grd (0 ≤ ((nth v.1 k143 Span.zero).frm) ∧ 0 ≤ ((nth v.1 k143 Span.zero).to) ∧ ((nth v.1 k143 Span.zero).frm).toNat ≤ ((nth v.1 k143 Span.zero).to).toNat ∧ ((nth v.1 k143 Span.zero).to).toNat ≤ x1.length) (bnd (bc ((x1.take (((nth v.1 k143 Span.zero).to).toNat)).drop (((nth v.1 k143 Span.zero).frm).toNat))) (fun v65 => iteO (!v65.2) (bnd (rewrite_turned_stay (⟨(⟨v54.b.buf⟩ : SB), v54.at'⟩ : Turned) x1 (nth v.1 k143 Span.zero)) (fun v75 => nxt (v75.b.buf, v75.at', ((nth v.1 k143 Span.zero).to), (k143 + 1)))) (bnd (rewrite_turned_put (⟨(⟨v54.b.buf⟩ : SB), v54.at'⟩ : Turned) v65.1 (nth v.1 k143 Span.zero)) (fun v78 => iteO (!v78.1) (fin (some ((⟨([] : List UInt8), ([] : List Span)⟩ : Piece), 2))) (nxt (v78.2.b.buf, v78.2.at', ((nth v.1 k143 Span.zero).to), (k143 + 1)))))))) ) (fin (bnd (rewrite_turned_stay (⟨(⟨l135⟩ : SB), l139⟩ : Turned) x1 (⟨i142, ((x1.length : Nat) : Int)⟩ : Span)) (fun v90 => bnd (lenU (⟨(⟨v90.b.buf⟩ : SB), v90.at'⟩ : Turned)) (fun v92 => iteO (decide (4096 < v92)) (some ((⟨([] : List UInt8), ([] : List Span)⟩ : Piece), 2)) (bnd (rewrite_turned_piece (⟨(⟨v90.b.buf⟩ : SB), v90.at'⟩ : Turned)) (fun v97 => some (v97, 0)))))))
/-- What the program's way to make something of a factor must tell. -/
def Tells (r : Rule) (bc : List UInt8 → Option (List UInt8 × Bool)) : Prop := ∀ w, w.length ≤ 4096 → match factor r w with
  | none => ∃ o, bc w = some (o, false)
  | some o => bc w = some (o, true)
def ansT (z : List UInt8 × List Span) : Piece × Int := if 4096 < z.1.length then (⟨[], []⟩, 2) else (⟨z.1, z.2⟩, 0)
theorem turn_loop (r : Rule) (hr : r.out.length ≤ 1000000) {bc : List UInt8 → Option (List UInt8 × Bool)} (hb : Tells r bc) (L : List Span) (e : Int) (l : List UInt8) (hl : l.length ≤ 4096) : ∀ (m k : Nat) (buf : List UInt8) (at' : List Span) (p : Nat), L.length - k = m → k ≤ L.length → p ≤ l.length → FacOk l.length p (L.drop k) → at'.length = buf.length → k ≤ p → buf.length ≤ 4096 + 8192 * k →
    iter (fun q : (List UInt8) × (List Span) × Int × Nat => tb bc (L, e) l q.1 q.2.1 q.2.2.1 q.2.2.2) (buf, at', ((p : Nat) : Int), k) = some (ansT (turnT r l (L.drop k) (buf, at', p)))
  | 0, k, buf, at', p, hm, hk, hp, hf, ha, hkp, hbl => by
    rw [show L.drop k = [] from List.drop_of_length_le (by omega)]
    refine iter_done ?_
    simp only [tb]
    rw [iteO_df (by omega), stay_eq ⟨⟨buf⟩, at'⟩ l (by omega) hp (Nat.le_refl _) (by simp only; omega) (by simp only; omega), bnd_mk]
    simp only [List.take_length]
    rw [show lenU (⟨⟨buf ++ l.drop p⟩, at' ++ ownD p (l.length - p)⟩ : Turned) = some (((buf ++ l.drop p).length : Nat) : Int) from rfl, bnd_mk]
    show _ = some (Sum.inr (ansT (buf ++ l.drop p, at' ++ ownD p (l.length - p))))
    unfold ansT
    by_cases c : 4096 < (buf ++ l.drop p).length
    · rw [iteO_dt (by omega), if_pos c]; rfl
    · rw [iteO_df (by omega), if_neg c]; rfl
  | m + 1, k, buf, at', p, hm, hk, hp, hf, ha, hkp, hbl => by
    rw [drop_nth' L (show k < L.length by omega) Span.zero] at hf ⊢
    obtain ⟨a, b, hx, h1, h2, h3, h4⟩ := hf
    have hw : ((l.take b).drop a).length = b - a := by simp only [List.length_drop, List.length_take]; omega
    have hw2 : ((l.take a).drop p).length = a - p := by simp only [List.length_drop, List.length_take]; omega
    have hT := hb ((l.take b).drop a) (by omega)
    have hst : turnT r l (nth L k Span.zero :: L.drop (k + 1)) (buf, at', p) = turnT r l (L.drop (k + 1)) (stepT r l (buf, at', p) (nth L k Span.zero)) := rfl
    rw [hst]
    have hpre : ∀ X, tb bc (L, e) l buf at' ((p : Nat) : Int) k = X ↔ bnd (bc ((l.take b).drop a)) (fun v65 => iteO (!v65.2) (bnd (rewrite_turned_stay ⟨⟨buf ++ (l.take a).drop p⟩, at' ++ ownD p (a - p)⟩ l (nth L k Span.zero)) (fun v75 => nxt (v75.b.buf, v75.at', ((nth L k Span.zero).to), (k + 1)))) (bnd (rewrite_turned_put ⟨⟨buf ++ (l.take a).drop p⟩, at' ++ ownD p (a - p)⟩ v65.1 (nth L k Span.zero)) (fun v78 => iteO (!v78.1) (fin (some ((⟨([] : List UInt8), ([] : List Span)⟩ : Piece), 2))) (nxt (v78.2.b.buf, v78.2.at', ((nth L k Span.zero).to), (k + 1)))))) = X := by
      intro X
      simp only [tb]
      rw [iteO_dt (by omega), hx]
      simp only []
      rw [stay_eq ⟨⟨buf⟩, at'⟩ l (by omega) h1 (by omega) (by simp only; omega) (by simp only; omega), bnd_mk, grd_mk (by simp only [Int.toNat_natCast]; omega)]
      simp only [Int.toNat_natCast]
    cases hfac : factor r ((l.take b).drop a) with
    | none =>
      rw [hfac] at hT
      obtain ⟨o, ho⟩ := hT
      have hs : stepT r l (buf, at', p) (nth L k Span.zero) = (buf ++ (l.take a).drop p ++ (l.take b).drop a, at' ++ ownD p (a - p) ++ ownD a (b - a), b) := by
        rw [hx]; unfold stepT; simp only [Int.toNat_natCast]; rw [hfac]
      rw [hs]
      refine iter_next (s' := (buf ++ (l.take a).drop p ++ (l.take b).drop a, at' ++ ownD p (a - p) ++ ownD a (b - a), ((b : Nat) : Int), k + 1)) ?_ (turn_loop r hr hb L e l hl m (k + 1) _ _ b (by omega) (by omega) h3 h4 (by simp only [List.length_append, ownD_len]; omega) (by omega) (by simp only [List.length_append]; omega))
      refine (hpre _).2 ?_
      rw [ho, bnd_mk]
      simp only []
      rw [iteO_nf, hx, stay_eq _ l (by omega) (by omega) h3 (by simp only [List.length_append]; omega) (by simp only [List.length_append, ownD_len]; omega), bnd_mk]; rfl
    | some o =>
      rw [hfac] at hT
      have hol := factor_len r hr _ _ hfac
      have hs : stepT r l (buf, at', p) (nth L k Span.zero) = (buf ++ (l.take a).drop p ++ o, at' ++ ownD p (a - p) ++ List.replicate o.length (nth L k Span.zero), b) := by
        rw [hx]; unfold stepT; simp only [Int.toNat_natCast]; rw [hfac]
      rw [hs]
      by_cases c : 4096 < (buf ++ (l.take a).drop p).length + o.length
      · refine iter_done ?_
        refine (hpre _).2 ?_
        rw [hT, bnd_mk]
        simp only []
        rw [iteO_nt, put_eq _ o _ (by omega) (by simp only [List.length_append]; omega) (by simp only [List.length_append, ownD_len]; omega), bnd_mk]
        simp only []
        rw [if_pos c, iteO_nf]
        have hlen := turnT_len r l (L.drop (k + 1)) (buf ++ (l.take a).drop p ++ o, at' ++ ownD p (a - p) ++ List.replicate o.length (nth L k Span.zero), b)
        unfold ansT
        rw [if_pos (by simp only [List.length_append] at hlen c ⊢; omega)]; rfl
      · refine iter_next (s' := (buf ++ (l.take a).drop p ++ o, at' ++ ownD p (a - p) ++ List.replicate o.length (nth L k Span.zero), ((b : Nat) : Int), k + 1)) ?_ (turn_loop r hr hb L e l hl m (k + 1) _ _ b (by omega) (by omega) h3 h4 (by simp only [List.length_append, ownD_len, List.length_replicate]; omega) (by omega) (by simp only [List.length_append] at c ⊢; omega))
        refine (hpre _).2 ?_
        rw [hT, bnd_mk]
        simp only []
        rw [iteO_nt, put_eq _ o _ (by omega) (by simp only [List.length_append]; omega) (by simp only [List.length_append, ownD_len]; omega), bnd_mk]
        simp only []
        rw [if_neg c, iteO_nt, hx]; rfl

theorem tells_out (r : Rule) (h : r.mapped = false) : Tells r (rewrite_how_out ⟨r⟩) := fun w hw => by
  unfold factor; rw [h]
  show rewrite_how_out ⟨r⟩ w = some (r.out, true)
  unfold rewrite_how_out
  rw [grd_mk (by omega)]
theorem tells_by (r : Rule) (h : r.mapped = true) : Tells r (rewrite_how_by ⟨r⟩) := fun w hw => by
  unfold factor; rw [if_pos h]
  unfold rewrite_how_by
  rw [grd_mk (by omega), apply_eq _ _ (by omega), bnd_mk]
  by_cases c1 : (applyQ r.by' w).2.2.1 = true
  · by_cases c2 : (applyQ r.by' w).2.2.2 = 0
    · rw [if_pos ⟨c1, c2⟩, c1, iteO_true, c2]; rfl
    · rw [if_neg (fun h => c2 h.2), c1, iteO_true, decide_eq_false c2]; exact ⟨_, rfl⟩
  · rw [if_neg (fun h => c1 h.1), Bool.eq_false_iff.2 c1]; exact ⟨_, rfl⟩
/-- Is a rule right? -/
def restR (r : Rule) : Bool := bif r.mapped then rightQ r.by' && decide (r.out = []) else decide (r.by'.front = []) && decide (r.by'.next.length = 0) && decide (r.by'.outs.length = 0) && decide (r.by'.fin.length = 0) && decide (r.by'.tail.length = 0) && decide (r.out.length ≤ 256)
def rightR (r : Rule) : Bool := rightD r.of && rightD r.left && rightD r.right && restR r
theorem rcheck_eq (r : Rule) : rewrite_Check r = some (if rightR r = true then 0 else 1) := by
  unfold rewrite_Check
  have h := iter_chk (step := fun q : Nat => rewrite_Check_b1 r q) (good := if restR r = true then 0 else 1) (bad := 1) 3 (fun k => rightD (nth [r.of, r.left, r.right] k Dfa.zero)) ?_ ?_ ?_
  · rw [h]
    have e : (List.range 3).all (fun k => rightD (nth [r.of, r.left, r.right] k Dfa.zero)) = (rightD r.of && rightD r.left && rightD r.right) := by
      simp [List.range_succ, nth, Bool.and_assoc]
    rw [e]
    unfold rightR
    cases rightD r.of && rightD r.left && rightD r.right with
    | false => simp
    | true => rw [if_pos rfl, Bool.true_and]
  · intro k hk hp
    simp only [rewrite_Check_b1]
    rw [iteO_dt (by simp only [List.length_cons, List.length_nil]; omega), check_eq, bnd_mk, hp]; rfl
  · intro k hk hp
    simp only [rewrite_Check_b1]
    rw [iteO_dt (by simp only [List.length_cons, List.length_nil]; omega), check_eq, bnd_mk, hp]; rfl
  · simp only [rewrite_Check_b1]
    rw [iteO_df (by simp only [List.length_cons, List.length_nil]; omega)]
    cases hm : r.mapped with
    | true =>
      rw [iteO_true, seq_Check_eq, bnd_mk]
      have hr : restR r = (rightQ r.by' && decide (r.out = [])) := by simp only [restR, hm, cond_true]
      rw [hr]
      cases rightQ r.by' with
      | false => rfl
      | true =>
        rw [if_pos rfl, iteO_df (by omega), Bool.true_and]
        by_cases c : r.out = []
        · rw [iteO_df (by simp [c]), if_pos (decide_eq_true c)]; rfl
        · rw [iteO_dt c, if_neg (by simp [c])]; rfl
    | false =>
      rw [iteO_false]
      by_cases c1 : r.by'.front = []
      rotate_left
      · rw [iteO_dt c1, if_neg (by simp only [restR, hm, cond_false, decide_eq_false c1, Bool.and_false, Bool.false_and]; exact Bool.false_ne_true)]; rfl
      rw [iteO_df (by simp [c1])]
      by_cases c2 : r.by'.next.length = 0
      rotate_left
      · rw [iteO_dt (by omega), if_neg (by simp only [restR, hm, cond_false, decide_eq_false c2, Bool.and_false, Bool.false_and]; exact Bool.false_ne_true)]; rfl
      rw [iteO_df (by omega)]
      by_cases c3 : r.by'.outs.length = 0
      rotate_left
      · rw [iteO_dt (by omega), if_neg (by simp only [restR, hm, cond_false, decide_eq_false c3, Bool.and_false, Bool.false_and]; exact Bool.false_ne_true)]; rfl
      rw [iteO_df (by omega)]
      by_cases c4 : r.by'.fin.length = 0
      rotate_left
      · rw [iteO_dt (by omega), if_neg (by simp only [restR, hm, cond_false, decide_eq_false c4, Bool.and_false, Bool.false_and]; exact Bool.false_ne_true)]; rfl
      rw [iteO_df (by omega)]
      by_cases c5 : r.by'.tail.length = 0
      rotate_left
      · rw [iteO_dt (by omega), if_neg (by simp only [restR, hm, cond_false, decide_eq_false c5, Bool.and_false, Bool.false_and]; exact Bool.false_ne_true)]; rfl
      rw [iteO_df (by omega)]
      by_cases c6 : r.out.length ≤ 256
      rotate_left
      · rw [iteO_dt (by omega), if_neg (by simp only [restR, hm, cond_false, decide_eq_false c6, Bool.and_false, Bool.false_and]; exact Bool.false_ne_true)]; rfl
      rw [iteO_df (by omega)]
      rw [if_pos (by simp only [restR, hm, cond_false, decide_eq_true c1, decide_eq_true c2, decide_eq_true c3, decide_eq_true c4, decide_eq_true c5, decide_eq_true c6, Bool.and_self])]; rfl
/-- What a rule makes of a text. -/
def turnD (r : Rule) (l : List UInt8) : Piece × Int :=
  if rightR r = true then (if 4096 < l.length then (⟨[], []⟩, 2) else ansT (turnT r l (facD r.of r.left r.right l) ([], [], 0))) else (⟨[], []⟩, 1)
theorem rightR_d {r : Rule} (h : rightR r = true) : rightD r.of = true ∧ rightD r.left = true ∧ rightD r.right = true := by
  simp only [rightR, Bool.and_eq_true] at h; exact ⟨h.1.1.1, h.1.1.2, h.1.2⟩
theorem rightR_out {r : Rule} (h : rightR r = true) : r.out.length ≤ 256 := by
  simp only [rightR, Bool.and_eq_true] at h
  have h2 := h.2
  unfold restR at h2
  cases hm : r.mapped with
  | true => rw [hm] at h2; simp only [cond_true, Bool.and_eq_true, decide_eq_true_eq] at h2; rw [h2.2]; simp
  | false => rw [hm] at h2; simp only [cond_false, Bool.and_eq_true, decide_eq_true_eq] at h2; exact h2.2
theorem wrongF_eq {r : Rule} (h : rightR r = true) (l : List UInt8) : wrongF r.of r.left r.right l = if 4096 < l.length then 2 else 0 := by
  unfold wrongF; rw [if_pos (rightR_d h)]
theorem facD_ok (d x y : Dfa) (l : List UInt8) : FacOk l.length 0 (facD d x y l) := facs_ok d _ _ l l.length 0 (Nat.zero_le _) 0 (Nat.le_refl _)
theorem turn_eq (r : Rule) (l : List UInt8) (hl : l.length ≤ 281474976710656) : rewrite_Turn r l = some (turnD r l) := by
  unfold rewrite_Turn turnD
  rw [grd_mk hl, rcheck_eq, bnd_mk]
  by_cases h : rightR r = true
  · rw [if_pos h, iteO_df (by omega), if_pos h, pfac_eq _ _ _ l hl, bnd_mk, wrongF_eq h]
    by_cases c : 4096 < l.length
    · rw [if_pos c, if_neg (by decide)]
      simp only []
      rw [iteO_dt (by omega), if_pos c]
    · rw [if_neg c, if_pos rfl]
      simp only []
      rw [iteO_df (by omega), if_neg c]
      have hok := facD_ok r.of r.left r.right l
      have ho := rightR_out h
      cases hm : r.mapped with
      | true =>
        rw [iteO_true]
        exact turn_loop r (by omega) (tells_by r hm) (facD r.of r.left r.right l) 0 l (by omega) _ 0 [] [] 0 rfl (Nat.zero_le _) (Nat.zero_le _) hok rfl (Nat.le_refl _) (by simp)
      | false =>
        rw [iteO_false]
        exact turn_loop r (by omega) (tells_out r hm) (facD r.of r.left r.right l) 0 l (by omega) _ 0 [] [] 0 rfl (Nat.zero_le _) (Nat.zero_le _) hok rfl (Nat.le_refl _) (by simp)
  · rw [if_neg h, iteO_dt (by omega), if_neg h]
/-- A text as it stands. -/
def plainD (l : List UInt8) : Piece × Int := if 4096 < l.length then (⟨[], []⟩, 2) else (⟨l, ownD 0 l.length⟩, 0)
theorem plain_eq (l : List UInt8) (hl : l.length ≤ 281474976710656) : rewrite_Plain l = some (plainD l) := by
  unfold rewrite_Plain plainD
  rw [grd_mk hl]
  by_cases c : 4096 < l.length
  · rw [iteO_dt (by omega), if_pos c]
  · rw [iteO_df (by omega), if_neg c]
    have := stay_eq ⟨⟨[]⟩, []⟩ l (by omega) (a := 0) (b := l.length) (Nat.zero_le _) (Nat.le_refl _) (by simp) (by simp)
    rw [show (((0 : Nat) : Int)) = 0 from rfl] at this
    rw [this, bnd_mk]
    simp only [List.take_length, List.drop_zero, List.nil_append, Nat.sub_zero]
    rfl
end Go.Proofs.YtmfclggfajopkaaGreatDoor
end

/- Cmp -/
section
/- Partial functions compared: what the one answers, the other answers. Plain lemmas; no program, no condition. -/
set_option linter.unusedVariables false
set_option linter.unusedSimpArgs false
namespace Go.E
open Go

/-- Where a answers, b answers the same. -/
class LeC {α : Type} (a b : Option α) : Prop where
  le : ∀ r, a = some r → b = some r
instance LeC.bnd {α β : Type} {a b : Option α} {f g : α → Option β} [h : LeC a b] [k : ∀ x, LeC (f x) (g x)] : LeC (Go.E.bnd a f) (Go.E.bnd b g) := ⟨fun r hr => by
  obtain ⟨x, h1, h2⟩ := bnd_e hr
  rw [bnd_some (h.le _ h1)]; exact (k x).le _ h2⟩
instance LeC.grd {α : Type} {p : Prop} [Decidable p] {a b : Option α} [h : LeC a b] : LeC (Go.E.grd p a) (Go.E.grd p b) := ⟨fun r hr => by
  rw [grd_mk (grd_c hr)]; exact h.le _ (grd_t hr)⟩
instance LeC.iteO {α : Type} {c : Bool} {a b a' b' : Option α} [h : LeC a b] [k : LeC a' b'] : LeC (Go.E.iteO c a a') (Go.E.iteO c b b') := ⟨fun r hr => by
  cases c
  · exact k.le _ hr
  · exact h.le _ hr⟩
instance LeC.fin {S α : Type} {a b : Option α} [h : LeC a b] : LeC (Go.E.fin (S := S) a) (Go.E.fin b) := ⟨fun r hr => by
  cases a with
  | none => cases hr
  | some x => rw [h.le x rfl]; exact hr⟩
instance LeC.nxt {S R : Type} {s : S} : LeC (Go.E.nxt (R := R) s) (Go.E.nxt s) := ⟨fun _ h => h⟩
instance LeC.some {α : Type} {x : α} : LeC (Option.some x) (Option.some x) := ⟨fun _ h => h⟩
instance LeC.none {α : Type} {b : Option α} : LeC Option.none b := ⟨fun _ h => by cases h⟩
/-- A loop, its rounds counted. -/
def iterX {S R : Type} (n : Nat) (f : S → Option (S ⊕ R)) (s : S) : Option R := iterN f n s
theorem iterN_LeC {S R : Type} {f g : S → Option (S ⊕ R)} (h : ∀ s, LeC (f s) (g s)) : ∀ (n : Nat) (s : S) (r : R), iterN f n s = Option.some r → iterN g n s = Option.some r
  | 0, _, _, hr => by cases hr
  | n + 1, s, r, hr => by
    rw [iterN] at hr ⊢
    cases hs : f s with
    | none => rw [hs] at hr; cases hr
    | some z =>
      rw [hs] at hr
      rw [(h s).le z hs]
      cases z with
      | inl s' => exact iterN_LeC h n s' r hr
      | inr r' => exact hr
instance LeC.iter {S R : Type} {n : Nat} {f g : S → Option (S ⊕ R)} {s : S} [h : ∀ s, LeC (f s) (g s)] : LeC (iterX n f s) (Go.E.iter g s) := ⟨fun r hr => iter_iff.2 ⟨n, iterN_LeC h n s r hr⟩⟩
instance LeC.stepY {S α : Type} {B B' : S → α → Option (Nat × S)} {p : Nat × S} {x : α} [h : ∀ s x, LeC (B s x) (B' s x)] : LeC (Go.E.stepY B p x) (Go.E.stepY B' p x) := ⟨fun r hr => by
  unfold Go.E.stepY at hr ⊢
  split at hr
  · rename_i h0
    rw [if_pos h0]
    cases hb : B p.2 x with
    | none => rw [hb] at hr; cases hr
    | some q => rw [hb] at hr; rw [(h p.2 x).le q hb]; exact hr
  · cases hr⟩
instance LeC.jsel {α : Type} {j : Nat} {a a' : Option α} {b b' : Nat → Option α} [h : LeC a a'] [k : ∀ j, LeC (b j) (b' j)] : LeC (Go.E.jsel j a b) (Go.E.jsel j a' b') := ⟨fun r hr => by
  cases j with
  | zero => exact h.le _ hr
  | succ j => exact (k j).le _ hr⟩
end Go.E
end

/- Isr -/
section
/- Sorting by putting in, for the kernel to run. Plain lemmas; no program, no condition. -/
set_option linter.unusedVariables false
set_option linter.unusedSimpArgs false
namespace Go.E
open Go

def insI (a : Int) : List Int → List Int
  | [] => [a]
  | b :: l => if a ≤ b then a :: b :: l else b :: insI a l
def isortI : List Int → List Int
  | [] => []
  | a :: l => insI a (isortI l)
theorem insI_app {a : Int} {l2 : List Int} (h2 : ∀ b ∈ l2, a ≤ b) : ∀ (l1 : List Int), (∀ b ∈ l1, ¬ a ≤ b) → insI a (l1 ++ l2) = l1 ++ a :: l2
  | [], _ => by
    cases l2 with
    | nil => rfl
    | cons b l => simp [insI, h2 b (List.mem_cons_self ..)]
  | b :: l1, h => by
    have h1 := h b (List.mem_cons_self ..)
    simp only [List.cons_append, insI, if_neg h1, insI_app h2 l1 (fun c hc => h c (List.mem_cons_of_mem _ hc))]
theorem isortI_eq : ∀ (l : List Int), isortI l = l.mergeSort fun x y => decide (x ≤ y)
  | [] => by simp [isortI]
  | a :: l => by
    have ht : ∀ a b c : Int, decide (a ≤ b) = true → decide (b ≤ c) = true → decide (a ≤ c) = true := fun a b c h k => by simp at *; omega
    have hT : ∀ a b : Int, (decide (a ≤ b) || decide (b ≤ a)) = true := fun a b => by simp; omega
    obtain ⟨l1, l2, h1, h2, h3⟩ := List.mergeSort_cons (le := fun x y => decide (x ≤ y)) ht hT a l
    have hs := List.pairwise_mergeSort (le := fun x y => decide (x ≤ y)) ht hT (a :: l)
    rw [h1] at hs ⊢
    rw [isortI, isortI_eq l, h2]
    refine insI_app (fun b hb => ?_) l1 (fun b hb => ?_)
    · have := (List.pairwise_append.1 hs).2.1
      simpa using (List.pairwise_cons.1 this).1 b hb
    · simpa using h3 b hb
end Go.E
end

/- X24 -/
section
/- The decompiled functions that dfa_Of reaches, with rounds that are counted: for the kernel to run. No condition. -/
set_option linter.unusedVariables false
set_option linter.unusedSimpArgs false
namespace Go.Proofs.YtmfclggfajopkaaGreatDoor
open Go Go.E
set_option maxRecDepth 100000
set_option synthInstance.maxHeartbeats 2000000
set_option synthInstance.maxSize 100000
set_option maxHeartbeats 4000000
def compactI_j1_x (n : Nat) (k125 : Nat) (l128 : List Int) (k130 : Nat) : Option (((List Int) × Nat × Nat) ⊕ ((Nat) ⊕ ((List Int)))) :=
  nxt (l128, k130, (k125 + 1))
instance compactI_j1_le {n : Nat} {k125 : Nat} {l128 : List Int} {k130 : Nat} : LeC (compactI_j1_x n k125 l128 k130) (compactI_j1 k125 l128 k130) := by
  unfold compactI_j1_x compactI_j1; infer_instance
def compactI_b2_x (n : Nat) (x0 : List Int) (k105 : Nat) (l122 : List Int) (k124 : Nat) (k125 : Nat) : Option (((List Int) × Nat × Nat) ⊕ ((Nat) ⊕ ((List Int)))) :=
  iteO (decide (((k125 : Nat) : Int) < (((x0.length - k105) : Nat) : Int))) (grd (k125 < (x0.length - k105)) (grd (0 ≤ (IntKind.i64.wrap (((k125 : Nat) : Int) - 1)) ∧ (IntKind.i64.wrap (((k125 : Nat) : Int) - 1)) < ((x0.length - k105) : Nat)) (iteO (decide ((nth l122 (k105 + k125) (0 : Int)) ≠ (nth l122 (k105 + (IntKind.i64.wrap (((k125 : Nat) : Int) - 1)).toNat) (0 : Int)))) (grd (k125 < (x0.length - k105)) (grd (k124 < l122.length) (compactI_j1_x n k125 (l122.set k124 (nth l122 (k105 + k125) (0 : Int))) (k124 + 1)))) (compactI_j1_x n k125 l122 k124)))) (fin (grd (k124 ≤ x0.length) (grd (k124 ≤ (l122.take k124 ++ List.replicate (l122.length - k124) (0 : Int)).length) (fin (some ((l122.take k124 ++ List.replicate (l122.length - k124) (0 : Int)).take k124))))))
instance compactI_b2_le {n : Nat} {x0 : List Int} {k105 : Nat} {l122 : List Int} {k124 : Nat} {k125 : Nat} : LeC (compactI_b2_x n x0 k105 l122 k124 k125) (compactI_b2 x0 k105 l122 k124 k125) := by
  unfold compactI_b2_x compactI_b2; infer_instance
def compactI_b1_x (n : Nat) (x0 : List Int) (k105 : Nat) : Option ((Nat) ⊕ ((List Int))) :=
  iteO (decide (((k105 : Nat) : Int) < ((x0.length : Nat) : Int))) (grd (0 ≤ (IntKind.i64.wrap (((k105 : Nat) : Int) - 1)) ∧ (IntKind.i64.wrap (((k105 : Nat) : Int) - 1)) < (x0.length : Int)) (iteO (decide ((nth x0 k105 (0 : Int)) = (nth x0 ((IntKind.i64.wrap (((k105 : Nat) : Int) - 1)).toNat) (0 : Int)))) (grd (k105 ≤ x0.length) (iterX n (fun q : (List Int) × Nat × Nat => compactI_b2_x n x0 k105 q.1 q.2.1 q.2.2) (x0, k105, 1))) (nxt (k105 + 1)))) (fin (some x0))
instance compactI_b1_le {n : Nat} {x0 : List Int} {k105 : Nat} : LeC (compactI_b1_x n x0 k105) (compactI_b1 x0 k105) := by
  unfold compactI_b1_x compactI_b1; infer_instance
def compactI_x (n : Nat) (x0 : List Int) : Option ((List Int)) :=
  iteO (decide (((x0.length : Nat) : Int) < 2)) (some x0) (iterX n (fun q : Nat => compactI_b1_x n x0 q) 1)
instance compactI_le {n : Nat} {x0 : List Int} : LeC (compactI_x n x0) (compactI x0) := by
  unfold compactI_x compactI; infer_instance
def intern_Sort_x (n : Nat) (x0 : List Int) : Option ((List Int)) :=
  grd (x0.length * 8 ≤ 140737488355328) (bnd (compactI_x n (isortI x0)) (fun v8 => some v8))
instance intern_Sort_le {n : Nat} {x0 : List Int} : LeC (intern_Sort_x n x0) (intern_Sort x0) := by
  unfold intern_Sort_x intern_Sort; simp only [isortI_eq]; infer_instance
def intern_key_b2_x (n : Nat) (x0 : List Int) (k115 : Nat) (l126 : List UInt8) (k129 : Nat) : Option (((List UInt8) × Nat) ⊕ (((List UInt8) × Nat) ⊕ ((List UInt8)))) :=
  iteO (decide (((k129 : Nat) : Int) < 8)) (grd (0 ≤ IntKind.i64.wrap (8 * ((k129 : Nat) : Int))) (grd ((l126.length + [(toU8 (((u64shr (u64of (nth x0 k115 (0 : Int))) ((IntKind.i64.wrap (8 * ((k129 : Nat) : Int))).toNat)) : Nat) : Int))].length) * 1 ≤ 140737488355328) (nxt ((l126 ++ [(toU8 (((u64shr (u64of (nth x0 k115 (0 : Int))) ((IntKind.i64.wrap (8 * ((k129 : Nat) : Int))).toNat)) : Nat) : Int))]), (k129 + 1))))) (fin (nxt (l126, (k115 + 1))))
instance intern_key_b2_le {n : Nat} {x0 : List Int} {k115 : Nat} {l126 : List UInt8} {k129 : Nat} : LeC (intern_key_b2_x n x0 k115 l126 k129) (intern_key_b2 x0 k115 l126 k129) := by
  unfold intern_key_b2_x intern_key_b2; infer_instance
def intern_key_b1_x (n : Nat) (x0 : List Int) (l112 : List UInt8) (k115 : Nat) : Option (((List UInt8) × Nat) ⊕ ((List UInt8))) :=
  iteO (decide (((k115 : Nat) : Int) < ((x0.length : Nat) : Int))) (iterX n (fun q : (List UInt8) × Nat => intern_key_b2_x n x0 k115 q.1 q.2) (l112, 0)) (fin (some l112))
instance intern_key_b1_le {n : Nat} {x0 : List Int} {l112 : List UInt8} {k115 : Nat} : LeC (intern_key_b1_x n x0 l112 k115) (intern_key_b1 x0 l112 k115) := by
  unfold intern_key_b1_x intern_key_b1; infer_instance
def intern_key_x (n : Nat) (x0 : List Int) : Option ((List UInt8)) :=
  grd (0 ≤ IntKind.i64.wrap (8 * ((x0.length : Nat) : Int)) ∧ 1 * (IntKind.i64.wrap (8 * ((x0.length : Nat) : Int))).toNat ≤ 281474976710656) (iterX n (fun q : (List UInt8) × Nat => intern_key_b1_x n x0 q.1 q.2) (([] : List UInt8), 0))
instance intern_key_le {n : Nat} {x0 : List Int} : LeC (intern_key_x n x0) (intern_key x0) := by
  unfold intern_key_x intern_key; infer_instance
def intern_store_string_find_x (n : Nat) (x0 : IStore) (x1 : List UInt8) : Option (Int × Bool) :=
  grd (x1.length ≤ 281474976710656) (some ((x0.places.get x1 0), (x0.places.has x1)))
instance intern_store_string_find_le {n : Nat} {x0 : IStore} {x1 : List UInt8} : LeC (intern_store_string_find_x n x0 x1) (intern_store_string_find x0 x1) := by
  unfold intern_store_string_find_x intern_store_string_find; infer_instance
def intern_store_string_add_x (n : Nat) (x0 : IStore) (x1 : List UInt8) (x2 : List Int) : Option (Int × IStore) :=
  grd (x1.length ≤ 281474976710656) (grd ((x0.rows.length + [x2].length) * 24 ≤ 140737488355328) (some (((x0.rows.length : Nat) : Int), (⟨(x0.rows ++ [x2]), (x0.places.put x1 ((x0.rows.length : Nat) : Int))⟩ : IStore))))
instance intern_store_string_add_le {n : Nat} {x0 : IStore} {x1 : List UInt8} {x2 : List Int} : LeC (intern_store_string_add_x n x0 x1 x2) (intern_store_string_add x0 x1 x2) := by
  unfold intern_store_string_add_x intern_store_string_add; infer_instance
def intern_New_x (n : Nat) : Option (ITable) :=
  some (⟨(⟨([] : List (List Int)), (FM.emp : FM (List UInt8) Int)⟩ : IStore)⟩ : ITable)
instance intern_New_le {n : Nat}  : LeC (intern_New_x n) (intern_New) := by
  unfold intern_New_x intern_New; infer_instance
def intern_Table_Put_x (n : Nat) (x0 : ITable) (x1 : List Int) : Option (Int × Bool × Int × ITable) :=
  bnd (intern_Sort_x n x1) (fun v10 => bnd (intern_key_x n v10) (fun v13 => bnd (intern_store_string_find_x n (⟨x0.of.rows, x0.of.places⟩ : IStore) v13) (fun v19 => iteO v19.2 (some (v19.1, false, 0, (⟨(⟨x0.of.rows, x0.of.places⟩ : IStore)⟩ : ITable))) (iteO (decide (4096 ≤ ((x0.of.rows.length : Nat) : Int))) (some (0, false, 2, (⟨(⟨x0.of.rows, x0.of.places⟩ : IStore)⟩ : ITable))) (bnd (intern_store_string_add_x n (⟨x0.of.rows, x0.of.places⟩ : IStore) v13 v10) (fun v45 => some (v45.1, true, 0, (⟨(⟨v45.2.rows, v45.2.places⟩ : IStore)⟩ : ITable))))))))
instance intern_Table_Put_le {n : Nat} {x0 : ITable} {x1 : List Int} : LeC (intern_Table_Put_x n x0 x1) (intern_Table_Put x0 x1) := by
  unfold intern_Table_Put_x intern_Table_Put; infer_instance
def intern_Table_Row_x (n : Nat) (x0 : ITable) (x1 : Int) : Option ((List Int) × Int) :=
  iteO (decide (x1 < 0)) (some (([] : List Int), 1)) (iteO (decide (((x0.of.rows.length : Nat) : Int) ≤ x1)) (some (([] : List Int), 1)) (grd (0 ≤ x1 ∧ x1 < (x0.of.rows.length : Int)) (grd ((nth x0.of.rows x1.toNat ([] : List Int)).length * 8 ≤ 140737488355328) (some ((nth x0.of.rows x1.toNat ([] : List Int)), 0)))))
instance intern_Table_Row_le {n : Nat} {x0 : ITable} {x1 : Int} : LeC (intern_Table_Row_x n x0 x1) (intern_Table_Row x0 x1) := by
  unfold intern_Table_Row_x intern_Table_Row; infer_instance
def putKeep_x (n : Nat) (x0 : ITable) (x1 : List Int) : Option (Int × Bool × Int × ITable) :=
  bnd (intern_Sort_x n x1) (fun v10 => bnd (intern_key_x n v10) (fun v13 => bnd (intern_store_string_find_x n (⟨x0.of.rows, x0.of.places⟩ : IStore) v13) (fun v19 => iteO v19.2 (some (v19.1, false, 0, (⟨(⟨x0.of.rows, x0.of.places⟩ : IStore)⟩ : ITable))) (iteO (decide (4096 ≤ ((x0.of.rows.length : Nat) : Int))) (some (0, false, 2, (⟨(⟨x0.of.rows, x0.of.places⟩ : IStore)⟩ : ITable))) (bnd (intern_store_string_add_x n (⟨x0.of.rows, x0.of.places⟩ : IStore) v13 v10) (fun v45 => some (v45.1, true, 0, (⟨(⟨v45.2.rows, v45.2.places⟩ : IStore)⟩ : ITable))))))))
instance putKeep_le {n : Nat} {x0 : ITable} {x1 : List Int} : LeC (putKeep_x n x0 x1) (putKeep x0 x1) := by
  unfold putKeep_x putKeep; infer_instance
def intern_Table_Size_x (n : Nat) (x0 : ITable) : Option (Int) :=
  some ((x0.of.rows.length : Nat) : Int)
instance intern_Table_Size_le {n : Nat} {x0 : ITable} : LeC (intern_Table_Size_x n x0) (intern_Table_Size x0) := by
  unfold intern_Table_Size_x intern_Table_Size; infer_instance
def math_bits_TrailingZeros64_x (n : Nat) (x0 : Nat) : Option (Int) :=
  iteO (decide (x0 = 0)) (some 64) (grd ((u64shr (u64mul (u64and x0 (u64of (-((x0 : Nat) : Int)))) 285870213051353865) 58) < 64) (some (((nth deB (u64shr (u64mul (u64and x0 (u64of (-((x0 : Nat) : Int)))) 285870213051353865) 58) (0 : UInt8)).toNat : Nat) : Int)))
instance math_bits_TrailingZeros64_le {n : Nat} {x0 : Nat} : LeC (math_bits_TrailingZeros64_x n x0) (math_bits_TrailingZeros64 x0) := by
  unfold math_bits_TrailingZeros64_x math_bits_TrailingZeros64; infer_instance
def set_First_b1_x (n : Nat) (x0 : BSet) (k105 : Nat) : Option ((Nat) ⊕ (UInt8 × Bool)) :=
  iteO (decide (((k105 : Nat) : Int) < 4)) (grd (k105 < 4) (iteO (decide ((BSet.word x0 k105) ≠ 0)) (bnd (math_bits_TrailingZeros64_x n (BSet.word x0 k105)) (fun v16 => fin (some ((toU8 (IntKind.i64.wrap ((IntKind.i64.wrap (64 * ((k105 : Nat) : Int))) + v16))), true)))) (nxt (k105 + 1)))) (fin (some ((0 : UInt8), false)))
instance set_First_b1_le {n : Nat} {x0 : BSet} {k105 : Nat} : LeC (set_First_b1_x n x0 k105) (set_First_b1 x0 k105) := by
  unfold set_First_b1_x set_First_b1; infer_instance
def set_First_x (n : Nat) (x0 : BSet) : Option (UInt8 × Bool) :=
  iterX n (fun q : Nat => set_First_b1_x n x0 q) 0
instance set_First_le {n : Nat} {x0 : BSet} : LeC (set_First_x n x0) (set_First x0) := by
  unfold set_First_x set_First; infer_instance
def set_Any_b1_x (n : Nat) (x1 : BSet) (z111 : BSet) (k112 : Nat) : Option ((BSet × Nat) ⊕ (BSet)) :=
  iteO (decide (((k112 : Nat) : Int) < 4)) (grd (k112 < 4) (grd (k112 < 4) (grd (k112 < 4) (grd ((u64or (BSet.word z111 k112) (BSet.word x1 k112)) < 18446744073709551616) (nxt ((BSet.setWord z111 k112 (u64or (BSet.word z111 k112) (BSet.word x1 k112))), (k112 + 1))))))) (fin (some z111))
instance set_Any_b1_le {n : Nat} {x1 : BSet} {z111 : BSet} {k112 : Nat} : LeC (set_Any_b1_x n x1 z111 k112) (set_Any_b1 x1 z111 k112) := by
  unfold set_Any_b1_x set_Any_b1; infer_instance
def set_Any_x (n : Nat) (x0 : BSet) (x1 : BSet) : Option (BSet) :=
  iterX n (fun q : BSet × Nat => set_Any_b1_x n x1 q.1 q.2) (x0, 0)
instance set_Any_le {n : Nat} {x0 : BSet} {x1 : BSet} : LeC (set_Any_x n x0 x1) (set_Any x0 x1) := by
  unfold set_Any_x set_Any; infer_instance
def part_key_j1_x (n : Nat) (k112 : Nat) (l115 : List UInt8) : Option (((List UInt8) × Nat) ⊕ ((List UInt8))) :=
  nxt (l115, (k112 + 1))
instance part_key_j1_le {n : Nat} {k112 : Nat} {l115 : List UInt8} : LeC (part_key_j1_x n k112 l115) (part_key_j1 k112 l115) := by
  unfold part_key_j1_x part_key_j1; infer_instance
def part_key_b1_x (n : Nat) (x0 : List BSet) (x1 : UInt8) (l110 : List UInt8) (k112 : Nat) : Option (((List UInt8) × Nat) ⊕ ((List UInt8))) :=
  iteO (decide (((k112 : Nat) : Int) < ((x0.length : Nat) : Int))) (iteO ((nth x0 k112 BSet.zero).has x1.toNat) (grd (k112 < l110.length) (part_key_j1_x n k112 (l110.set k112 (1 : UInt8)))) (part_key_j1_x n k112 l110)) (fin (some l110))
instance part_key_b1_le {n : Nat} {x0 : List BSet} {x1 : UInt8} {l110 : List UInt8} {k112 : Nat} : LeC (part_key_b1_x n x0 x1 l110 k112) (part_key_b1 x0 x1 l110 k112) := by
  unfold part_key_b1_x part_key_b1; infer_instance
def part_key_x (n : Nat) (x0 : List BSet) (x1 : UInt8) : Option ((List UInt8)) :=
  grd (1 * x0.length ≤ 281474976710656) (iterX n (fun q : (List UInt8) × Nat => part_key_b1_x n x0 x1 q.1 q.2) ((List.replicate x0.length (0 : UInt8)), 0))
instance part_key_le {n : Nat} {x0 : List BSet} {x1 : UInt8} : LeC (part_key_x n x0 x1) (part_key x0 x1) := by
  unfold part_key_x part_key; infer_instance
def part_Parts_j1_x (n : Nat) (k121 : Nat) (m125 : FM (List UInt8) Int) (l126 : List BSet) (i129 : Int) : Option (((FM (List UInt8) Int) × (List BSet) × Nat) ⊕ ((List BSet) × Int)) :=
  grd (0 ≤ i129 ∧ i129 < (l126.length : Int)) (grd ([(toU8 ((k121 : Nat) : Int))].length ≤ 1000000000000) (bnd (set_Any_x n (nth l126 i129.toNat BSet.zero) (BSet.ofL [(toU8 ((k121 : Nat) : Int))])) (fun v52 => grd (0 ≤ i129 ∧ i129 < (l126.length : Int)) (nxt (m125, (l126.set i129.toNat v52), (k121 + 1))))))
instance part_Parts_j1_le {n : Nat} {k121 : Nat} {m125 : FM (List UInt8) Int} {l126 : List BSet} {i129 : Int} : LeC (part_Parts_j1_x n k121 m125 l126 i129) (part_Parts_j1 k121 m125 l126 i129) := by
  unfold part_Parts_j1_x part_Parts_j1; infer_instance
def part_Parts_b1_x (n : Nat) (x0 : List BSet) (m116 : FM (List UInt8) Int) (l118 : List BSet) (k121 : Nat) : Option (((FM (List UInt8) Int) × (List BSet) × Nat) ⊕ ((List BSet) × Int)) :=
  iteO (decide (((k121 : Nat) : Int) < 256)) (bnd (part_key_x n x0 (toU8 ((k121 : Nat) : Int))) (fun v18 => iteO (!(m116.has v18)) (grd ((l118.length + [BSet.zero].length) * 32 ≤ 140737488355328) (part_Parts_j1_x n k121 (m116.put v18 ((l118.length : Nat) : Int)) (l118 ++ [BSet.zero]) ((l118.length : Nat) : Int))) (part_Parts_j1_x n k121 m116 l118 (m116.get v18 0)))) (fin (some (l118, 0)))
instance part_Parts_b1_le {n : Nat} {x0 : List BSet} {m116 : FM (List UInt8) Int} {l118 : List BSet} {k121 : Nat} : LeC (part_Parts_b1_x n x0 m116 l118 k121) (part_Parts_b1 x0 m116 l118 k121) := by
  unfold part_Parts_b1_x part_Parts_b1; infer_instance
def part_Parts_x (n : Nat) (x0 : List BSet) : Option ((List BSet) × Int) :=
  iteO (decide (1024 < ((x0.length : Nat) : Int))) (some (([] : List BSet), 2)) (iterX n (fun q : (FM (List UInt8) Int) × (List BSet) × Nat => part_Parts_b1_x n x0 q.1 q.2.1 q.2.2) ((FM.emp : FM (List UInt8) Int), ([] : List BSet), 0))
instance part_Parts_le {n : Nat} {x0 : List BSet} : LeC (part_Parts_x n x0) (part_Parts x0) := by
  unfold part_Parts_x part_Parts; infer_instance
def part_Class_j1_x (n : Nat) (k146 : Nat) (l149 : List Int) : Option (((List Int) × Nat) ⊕ (((List Int) × Int × Nat) ⊕ ((List Int) × Int))) :=
  nxt (l149, (k146 + 1))
instance part_Class_j1_le {n : Nat} {k146 : Nat} {l149 : List Int} : LeC (part_Class_j1_x n k146 l149) (part_Class_j1 k146 l149) := by
  unfold part_Class_j1_x part_Class_j1; infer_instance
def part_Class_b3_x (n : Nat) (x0 : List BSet) (k130 : Nat) (v29 : UInt8 × Bool) (l144 : List Int) (k146 : Nat) : Option (((List Int) × Nat) ⊕ (((List Int) × Int × Nat) ⊕ ((List Int) × Int))) :=
  iteO (decide (((k146 : Nat) : Int) < 256)) (iteO (!((nth x0 k130 BSet.zero).has (toU8 ((k146 : Nat) : Int)).toNat)) (part_Class_j1_x n k146 l144) (grd (k146 < l144.length) (iteO (decide (0 ≤ (nth l144 k146 (0 : Int)))) (fin (fin (some (([] : List Int), 1)))) (grd (k146 < l144.length) (part_Class_j1_x n k146 (l144.set k146 ((k130 : Nat) : Int))))))) (fin (nxt (l144, ((v29.1.toNat : Nat) : Int), (k130 + 1))))
instance part_Class_b3_le {n : Nat} {x0 : List BSet} {k130 : Nat} {v29 : UInt8 × Bool} {l144 : List Int} {k146 : Nat} : LeC (part_Class_b3_x n x0 k130 v29 l144 k146) (part_Class_b3 x0 k130 v29 l144 k146) := by
  unfold part_Class_b3_x part_Class_b3; infer_instance
def part_Class_b4_x (n : Nat) (l127 : List Int) (k165 : Nat) : Option ((Nat) ⊕ ((List Int) × Int)) :=
  iteO (decide (((k165 : Nat) : Int) < (((List.replicate 256 (0 : Int)).length : Nat) : Int))) (grd (k165 < l127.length) (iteO (decide ((nth l127 k165 (0 : Int)) < 0)) (fin (some (([] : List Int), 1))) (nxt (k165 + 1)))) (fin (some (l127, 0)))
instance part_Class_b4_le {n : Nat} {l127 : List Int} {k165 : Nat} : LeC (part_Class_b4_x n l127 k165) (part_Class_b4 l127 k165) := by
  unfold part_Class_b4_x part_Class_b4; infer_instance
def part_Class_b2_x (n : Nat) (x0 : List BSet) (l127 : List Int) (i129 : Int) (k130 : Nat) : Option (((List Int) × Int × Nat) ⊕ ((List Int) × Int)) :=
  iteO (decide (((k130 : Nat) : Int) < ((x0.length : Nat) : Int))) (bnd (set_First_x n (nth x0 k130 BSet.zero)) (fun v29 => iteO (!v29.2) (fin (some (([] : List Int), 1))) (iteO (decide (((v29.1.toNat : Nat) : Int) ≤ i129)) (fin (some (([] : List Int), 1))) (iterX n (fun q : (List Int) × Nat => part_Class_b3_x n x0 k130 v29 q.1 q.2) (l127, 0))))) (fin (iterX n (fun q : Nat => part_Class_b4_x n l127 q) 0))
instance part_Class_b2_le {n : Nat} {x0 : List BSet} {l127 : List Int} {i129 : Int} {k130 : Nat} : LeC (part_Class_b2_x n x0 l127 i129 k130) (part_Class_b2 x0 l127 i129 k130) := by
  unfold part_Class_b2_x part_Class_b2; infer_instance
def part_Class_b1_x (n : Nat) (x0 : List BSet) (l110 : List Int) (k112 : Nat) : Option (((List Int) × Nat) ⊕ ((List Int) × Int)) :=
  iteO (decide (((k112 : Nat) : Int) < (((List.replicate 256 (0 : Int)).length : Nat) : Int))) (grd (k112 < l110.length) (nxt ((l110.set k112 (-1)), (k112 + 1)))) (fin (iterX n (fun q : (List Int) × Int × Nat => part_Class_b2_x n x0 q.1 q.2.1 q.2.2) (l110, (-1), 0)))
instance part_Class_b1_le {n : Nat} {x0 : List BSet} {l110 : List Int} {k112 : Nat} : LeC (part_Class_b1_x n x0 l110 k112) (part_Class_b1 x0 l110 k112) := by
  unfold part_Class_b1_x part_Class_b1; infer_instance
def part_Class_x (n : Nat) (x0 : List BSet) : Option ((List Int) × Int) :=
  iterX n (fun q : (List Int) × Nat => part_Class_b1_x n x0 q.1 q.2) ((List.replicate 256 (0 : Int)), 0)
instance part_Class_le {n : Nat} {x0 : List BSet} : LeC (part_Class_x n x0) (part_Class x0) := by
  unfold part_Class_x part_Class; infer_instance
def dfa_unlike_j1_x (n : Nat) (k120 : Nat) (m124 : FM BSet Int) (l125 : List BSet) : Option (((FM BSet Int) × (List BSet) × Nat) ⊕ ((List BSet))) :=
  nxt (m124, l125, (k120 + 1))
instance dfa_unlike_j1_le {n : Nat} {k120 : Nat} {m124 : FM BSet Int} {l125 : List BSet} : LeC (dfa_unlike_j1_x n k120 m124 l125) (dfa_unlike_j1 k120 m124 l125) := by
  unfold dfa_unlike_j1_x dfa_unlike_j1; infer_instance
def dfa_unlike_b1_x (n : Nat) (x0 : List Arrow) (m115 : FM BSet Int) (l117 : List BSet) (k120 : Nat) : Option (((FM BSet Int) × (List BSet) × Nat) ⊕ ((List BSet))) :=
  iteO (decide (((k120 : Nat) : Int) < ((x0.length : Nat) : Int))) (iteO (!(m115.has ((nth x0 k120 Arrow.zero).set))) (grd ((l117.length + [(nth x0 k120 Arrow.zero).set].length) * 32 ≤ 140737488355328) (dfa_unlike_j1_x n k120 (m115.put ((nth x0 k120 Arrow.zero).set) ((l117.length : Nat) : Int)) (l117 ++ [(nth x0 k120 Arrow.zero).set]))) (dfa_unlike_j1_x n k120 m115 l117)) (fin (some l117))
instance dfa_unlike_b1_le {n : Nat} {x0 : List Arrow} {m115 : FM BSet Int} {l117 : List BSet} {k120 : Nat} : LeC (dfa_unlike_b1_x n x0 m115 l117 k120) (dfa_unlike_b1 x0 m115 l117 k120) := by
  unfold dfa_unlike_b1_x dfa_unlike_b1; infer_instance
def dfa_unlike_x (n : Nat) (x0 : List Arrow) : Option ((List BSet)) :=
  iterX n (fun q : (FM BSet Int) × (List BSet) × Nat => dfa_unlike_b1_x n x0 q.1 q.2.1 q.2.2) ((FM.emp : FM BSet Int), ([] : List BSet), 0)
instance dfa_unlike_le {n : Nat} {x0 : List Arrow} : LeC (dfa_unlike_x n x0) (dfa_unlike x0) := by
  unfold dfa_unlike_x dfa_unlike; infer_instance
def dfa_behind_j1_x (n : Nat) (k133 : Nat) (l136 : List Int) : Option (((List Int) × Nat) ⊕ (((List Int) × Nat) ⊕ ((List Int)))) :=
  nxt (l136, (k133 + 1))
instance dfa_behind_j1_le {n : Nat} {k133 : Nat} {l136 : List Int} : LeC (dfa_behind_j1_x n k133 l136) (dfa_behind_j1 k133 l136) := by
  unfold dfa_behind_j1_x dfa_behind_j1; infer_instance
def dfa_behind_b2_x (n : Nat) (x0 : List (List Arrow)) (x1 : List Int) (k117 : Nat) (v4 : UInt8 × Bool) (l130 : List Int) (k133 : Nat) : Option (((List Int) × Nat) ⊕ (((List Int) × Nat) ⊕ ((List Int)))) :=
  iteO (decide (((k133 : Nat) : Int) < (((nth x0 ((nth x1 k117 (0 : Int)).toNat) ([] : List Arrow)).length : Nat) : Int))) (iteO (((nth (nth x0 ((nth x1 k117 (0 : Int)).toNat) ([] : List Arrow)) k133 Arrow.zero).set).has v4.1.toNat) (grd ((l130.length + [(nth (nth x0 ((nth x1 k117 (0 : Int)).toNat) ([] : List Arrow)) k133 Arrow.zero).to].length) * 8 ≤ 140737488355328) (dfa_behind_j1_x n k133 (l130 ++ [(nth (nth x0 ((nth x1 k117 (0 : Int)).toNat) ([] : List Arrow)) k133 Arrow.zero).to]))) (dfa_behind_j1_x n k133 l130)) (fin (nxt (l130, (k117 + 1))))
instance dfa_behind_b2_le {n : Nat} {x0 : List (List Arrow)} {x1 : List Int} {k117 : Nat} {v4 : UInt8 × Bool} {l130 : List Int} {k133 : Nat} : LeC (dfa_behind_b2_x n x0 x1 k117 v4 l130 k133) (dfa_behind_b2 x0 x1 k117 v4 l130 k133) := by
  unfold dfa_behind_b2_x dfa_behind_b2; infer_instance
def dfa_behind_b1_x (n : Nat) (x1 : List Int) (x0 : List (List Arrow)) (v4 : UInt8 × Bool) (l114 : List Int) (k117 : Nat) : Option (((List Int) × Nat) ⊕ ((List Int))) :=
  iteO (decide (((k117 : Nat) : Int) < ((x1.length : Nat) : Int))) (grd (0 ≤ (nth x1 k117 (0 : Int)) ∧ (nth x1 k117 (0 : Int)) < (x0.length : Int)) (iterX n (fun q : (List Int) × Nat => dfa_behind_b2_x n x0 x1 k117 v4 q.1 q.2) (l114, 0))) (fin (some l114))
instance dfa_behind_b1_le {n : Nat} {x1 : List Int} {x0 : List (List Arrow)} {v4 : UInt8 × Bool} {l114 : List Int} {k117 : Nat} : LeC (dfa_behind_b1_x n x1 x0 v4 l114 k117) (dfa_behind_b1 x1 x0 v4 l114 k117) := by
  unfold dfa_behind_b1_x dfa_behind_b1; infer_instance
def dfa_behind_x (n : Nat) (x0 : List (List Arrow)) (x1 : List Int) (x2 : BSet) : Option ((List Int)) :=
  bnd (set_First_x n x2) (fun v4 => iterX n (fun q : (List Int) × Nat => dfa_behind_b1_x n x1 x0 v4 q.1 q.2) (([] : List Int), 0))
instance dfa_behind_le {n : Nat} {x0 : List (List Arrow)} {x1 : List Int} {x2 : BSet} : LeC (dfa_behind_x n x0 x1 x2) (dfa_behind x0 x1 x2) := by
  unfold dfa_behind_x dfa_behind; infer_instance
def dfa_classes_1_b1_x (n : Nat) {Sy : Type} (x1 : List BSet) (Y : Sy → Int × BSet → Option (Sy × Bool)) (k111 : Nat) (s112 : Sy) : Option ((Nat × Sy) ⊕ (Sy)) :=
  iteO (decide (((k111 : Nat) : Int) < ((x1.length : Nat) : Int))) (bnd (Y s112 (((k111 : Nat) : Int), (nth x1 k111 BSet.zero))) (fun v14 => iteO (!v14.2) (fin (some v14.1)) (nxt ((k111 + 1), v14.1)))) (fin (some s112))
instance dfa_classes_1_b1_le {n : Nat} {Sy : Type} {x1 : List BSet} {Y : Sy → Int × BSet → Option (Sy × Bool)} {k111 : Nat} {s112 : Sy} {Y' : Sy → Int × BSet → Option (Sy × Bool)} [hY : ∀ s x, LeC (Y s x) (Y' s x)] : LeC (dfa_classes_1_b1_x n x1 Y k111 s112) (dfa_classes_1_b1 x1 Y' k111 s112) := by
  unfold dfa_classes_1_b1_x dfa_classes_1_b1; infer_instance
def dfa_classes_1_x (n : Nat) {Sy : Type} (Y : Sy → Int × BSet → Option (Sy × Bool)) (s0 : Sy) (x1 : List BSet) : Option (Sy) :=
  iterX n (fun q : Nat × Sy => dfa_classes_1_b1_x n x1 Y q.1 q.2) (0, s0)
instance dfa_classes_1_le {n : Nat} {Sy : Type} {Y : Sy → Int × BSet → Option (Sy × Bool)} {s0 : Sy} {x1 : List BSet} {Y' : Sy → Int × BSet → Option (Sy × Bool)} [hY : ∀ s x, LeC (Y s x) (Y' s x)] : LeC (dfa_classes_1_x n Y s0 x1) (dfa_classes_1 Y' s0 x1) := by
  unfold dfa_classes_1_x dfa_classes_1; infer_instance
def dfa_classes_x (n : Nat) (x0 : List BSet) : Option ((List BSet)) :=
  some x0
instance dfa_classes_le {n : Nat} {x0 : List BSet} : LeC (dfa_classes_x n x0) (dfa_classes x0) := by
  unfold dfa_classes_x dfa_classes; infer_instance
def dfa_Of_j1_x (n : Nat) (l130 : List (List Arrow)) (x0 : Nfa) (k134 : Nat) : Option (((List (List Arrow)) × Nat) ⊕ (Dfa × Int)) :=
  nxt ((l130.set (((nth x0.edges k134 Arrow.zero).frm).toNat) ((nth l130 (((nth x0.edges k134 Arrow.zero).frm).toNat) ([] : List Arrow)) ++ [(nth x0.edges k134 Arrow.zero)])), (k134 + 1))
instance dfa_Of_j1_le {n : Nat} {l130 : List (List Arrow)} {x0 : Nfa} {k134 : Nat} : LeC (dfa_Of_j1_x n l130 x0 k134) (dfa_Of_j1 l130 x0 k134) := by
  unfold dfa_Of_j1_x dfa_Of_j1; infer_instance
def dfa_Of_j2_x (n : Nat) (k323 : Nat) (t335 : Bool) : Option ((Bool × Nat) ⊕ ((Int × (List (List Int)) × (FM (List UInt8) Int) × (List (List Int)) × (List Bool) × Nat) ⊕ (Dfa × Int))) :=
  nxt (t335, (k323 + 1))
instance dfa_Of_j2_le {n : Nat} {k323 : Nat} {t335 : Bool} : LeC (dfa_Of_j2_x n k323 t335) (dfa_Of_j2 k323 t335) := by
  unfold dfa_Of_j2_x dfa_Of_j2; infer_instance
def dfa_Of_r256_x (n : Nat) (l130 : List (List Arrow)) (v116 : (List Int) × Int) (i388 : Int) (l391 : List (List Int)) (m397 : FM (List UInt8) Int) (l401 : List Int) (y256_0 : Int) (y256_1 : BSet) : Option (Nat × (Int × (List (List Int)) × (FM (List UInt8) Int) × (List Int))) :=
  bnd (dfa_behind_x n l130 v116.1 y256_1) (fun v161 => bnd (putKeep_x n (⟨(⟨l391, m397⟩ : IStore)⟩ : ITable) v161) (fun v162 => iteO (decide (v162.2.2.1 ≠ 0)) (some (1, (v162.2.2.1, v162.2.2.2.of.rows, v162.2.2.2.of.places, l401))) (iteO (decide (1024 ≤ v162.1)) (some (1, (2, v162.2.2.2.of.rows, v162.2.2.2.of.places, l401))) (grd (0 ≤ y256_0 ∧ y256_0 < (l401.length : Int)) (some (0, (i388, v162.2.2.2.of.rows, v162.2.2.2.of.places, (l401.set y256_0.toNat v162.1))))))))
instance dfa_Of_r256_le {n : Nat} {l130 : List (List Arrow)} {v116 : (List Int) × Int} {i388 : Int} {l391 : List (List Int)} {m397 : FM (List UInt8) Int} {l401 : List Int} {y256_0 : Int} {y256_1 : BSet} : LeC (dfa_Of_r256_x n l130 v116 i388 l391 m397 l401 y256_0 y256_1) (dfa_Of_r256 l130 v116 i388 l391 m397 l401 y256_0 y256_1) := by
  unfold dfa_Of_r256_x dfa_Of_r256; infer_instance
def dfa_Of_k256_x (n : Nat) (l277 : List (List Int)) (l283 : List Bool) (t322 : Bool) (k286 : Nat) (jz : Nat) (i388 : Int) (l391 : List (List Int)) (m397 : FM (List UInt8) Int) (l401 : List Int) : Option ((Int × (List (List Int)) × (FM (List UInt8) Int) × (List (List Int)) × (List Bool) × Nat) ⊕ (Dfa × Int)) :=
  jsel jz (grd ((l277.length + [l401].length) * 24 ≤ 140737488355328) (grd ((l283.length + [t322].length) * 1 ≤ 140737488355328) (grd (k286 + 1 ≤ 9223372036854775807) (nxt (i388, l391, m397, (l277 ++ [l401]), (l283 ++ [t322]), (k286 + 1)))))) (fun j_ => jsel j_ (fin (some ((⟨([] : List Int), ([] : List (List Int)), ([] : List Bool)⟩ : Dfa), i388))) (fun _ => none))
instance dfa_Of_k256_le {n : Nat} {l277 : List (List Int)} {l283 : List Bool} {t322 : Bool} {k286 : Nat} {jz : Nat} {i388 : Int} {l391 : List (List Int)} {m397 : FM (List UInt8) Int} {l401 : List Int} : LeC (dfa_Of_k256_x n l277 l283 t322 k286 jz i388 l391 m397 l401) (dfa_Of_k256 l277 l283 t322 k286 jz i388 l391 m397 l401) := by
  unfold dfa_Of_k256_x dfa_Of_k256; infer_instance
def dfa_Of_b4_x (n : Nat) (v116 : (List Int) × Int) (l193 : List Bool) (v13 : (List BSet) × Int) (l130 : List (List Arrow)) (i264 : Int) (l268 : List (List Int)) (m274 : FM (List UInt8) Int) (l277 : List (List Int)) (l283 : List Bool) (k286 : Nat) (t322 : Bool) (k323 : Nat) : Option ((Bool × Nat) ⊕ ((Int × (List (List Int)) × (FM (List UInt8) Int) × (List (List Int)) × (List Bool) × Nat) ⊕ (Dfa × Int))) :=
  iteO (decide (((k323 : Nat) : Int) < ((v116.1.length : Nat) : Int))) (iteO t322 (dfa_Of_j2_x n k323 true) (grd (0 ≤ (nth v116.1 k323 (0 : Int)) ∧ (nth v116.1 k323 (0 : Int)) < (l193.length : Int)) (dfa_Of_j2_x n k323 (nth l193 ((nth v116.1 k323 (0 : Int)).toNat) false)))) (fin (grd (8 * v13.1.length ≤ 281474976710656) (bnd (dfa_classes_x n v13.1) (fun v153 => bnd (dfa_classes_1_x n (stepY (fun (q : Int × (List (List Int)) × (FM (List UInt8) Int) × (List Int)) (x : Int × BSet) => dfa_Of_r256_x n l130 v116 q.1 q.2.1 q.2.2.1 q.2.2.2 x.1 x.2)) (0, (i264, l268, m274, (List.replicate v13.1.length (0 : Int)))) v153) (fun zr256 => dfa_Of_k256_x n l277 l283 t322 k286 zr256.1 zr256.2.1 zr256.2.2.1 zr256.2.2.2.1 zr256.2.2.2.2)))))
instance dfa_Of_b4_le {n : Nat} {v116 : (List Int) × Int} {l193 : List Bool} {v13 : (List BSet) × Int} {l130 : List (List Arrow)} {i264 : Int} {l268 : List (List Int)} {m274 : FM (List UInt8) Int} {l277 : List (List Int)} {l283 : List Bool} {k286 : Nat} {t322 : Bool} {k323 : Nat} : LeC (dfa_Of_b4_x n v116 l193 v13 l130 i264 l268 m274 l277 l283 k286 t322 k323) (dfa_Of_b4 v116 l193 v13 l130 i264 l268 m274 l277 l283 k286 t322 k323) := by
  unfold dfa_Of_b4_x dfa_Of_b4; infer_instance
def dfa_Of_b3_x (n : Nat) (l193 : List Bool) (v13 : (List BSet) × Int) (l130 : List (List Arrow)) (v26 : (List Int) × Int) (i264 : Int) (l268 : List (List Int)) (m274 : FM (List UInt8) Int) (l277 : List (List Int)) (l283 : List Bool) (k286 : Nat) : Option ((Int × (List (List Int)) × (FM (List UInt8) Int) × (List (List Int)) × (List Bool) × Nat) ⊕ (Dfa × Int)) :=
  bnd (intern_Table_Size_x n (⟨(⟨l268, m274⟩ : IStore)⟩ : ITable)) (fun v112 => iteO (decide (((k286 : Nat) : Int) < v112)) (bnd (intern_Table_Row_x n (⟨(⟨l268, m274⟩ : IStore)⟩ : ITable) ((k286 : Nat) : Int)) (fun v116 => iteO (decide (v116.2 ≠ 0)) (fin (some ((⟨([] : List Int), ([] : List (List Int)), ([] : List Bool)⟩ : Dfa), v116.2))) (iterX n (fun q : Bool × Nat => dfa_Of_b4_x n v116 l193 v13 l130 i264 l268 m274 l277 l283 k286 q.1 q.2) (false, 0)))) (fin (some ((⟨v26.1, l277, l283⟩ : Dfa), 0))))
instance dfa_Of_b3_le {n : Nat} {l193 : List Bool} {v13 : (List BSet) × Int} {l130 : List (List Arrow)} {v26 : (List Int) × Int} {i264 : Int} {l268 : List (List Int)} {m274 : FM (List UInt8) Int} {l277 : List (List Int)} {l283 : List Bool} {k286 : Nat} : LeC (dfa_Of_b3_x n l193 v13 l130 v26 i264 l268 m274 l277 l283 k286) (dfa_Of_b3 l193 v13 l130 v26 i264 l268 m274 l277 l283 k286) := by
  unfold dfa_Of_b3_x dfa_Of_b3; infer_instance
def dfa_Of_b2_x (n : Nat) (x0 : Nfa) (v13 : (List BSet) × Int) (l130 : List (List Arrow)) (v26 : (List Int) × Int) (l193 : List Bool) (k195 : Nat) : Option (((List Bool) × Nat) ⊕ (Dfa × Int)) :=
  iteO (decide (((k195 : Nat) : Int) < ((x0.ends.length : Nat) : Int))) (grd (0 ≤ (nth x0.ends k195 (0 : Int)) ∧ (nth x0.ends k195 (0 : Int)) < (l193.length : Int)) (nxt ((l193.set ((nth x0.ends k195 (0 : Int)).toNat) true), (k195 + 1)))) (fin (bnd (intern_New_x n) (fun v85 => bnd (intern_Table_Put_x n (⟨(⟨v85.of.rows, v85.of.places⟩ : IStore)⟩ : ITable) x0.starts) (fun v91 => iteO (decide (v91.2.2.1 ≠ 0)) (some ((⟨([] : List Int), ([] : List (List Int)), ([] : List Bool)⟩ : Dfa), v91.2.2.1)) (iterX n (fun q : Int × (List (List Int)) × (FM (List UInt8) Int) × (List (List Int)) × (List Bool) × Nat => dfa_Of_b3_x n l193 v13 l130 v26 q.1 q.2.1 q.2.2.1 q.2.2.2.1 q.2.2.2.2.1 q.2.2.2.2.2) (0, v91.2.2.2.of.rows, v91.2.2.2.of.places, ([] : List (List Int)), ([] : List Bool), 0))))))
instance dfa_Of_b2_le {n : Nat} {x0 : Nfa} {v13 : (List BSet) × Int} {l130 : List (List Arrow)} {v26 : (List Int) × Int} {l193 : List Bool} {k195 : Nat} : LeC (dfa_Of_b2_x n x0 v13 l130 v26 l193 k195) (dfa_Of_b2 x0 v13 l130 v26 l193 k195) := by
  unfold dfa_Of_b2_x dfa_Of_b2; infer_instance
def dfa_Of_b1_x (n : Nat) (x0 : Nfa) (v13 : (List BSet) × Int) (v26 : (List Int) × Int) (l130 : List (List Arrow)) (k134 : Nat) : Option (((List (List Arrow)) × Nat) ⊕ (Dfa × Int)) :=
  iteO (decide (((k134 : Nat) : Int) < ((x0.edges.length : Nat) : Int))) (grd (0 ≤ ((nth x0.edges k134 Arrow.zero).frm) ∧ ((nth x0.edges k134 Arrow.zero).frm) < (l130.length : Int)) (grd (((nth l130 (((nth x0.edges k134 Arrow.zero).frm).toNat) ([] : List Arrow)).length + [(nth x0.edges k134 Arrow.zero)].length) * 48 ≤ 140737488355328) (grd (0 ≤ ((nth x0.edges k134 Arrow.zero).frm) ∧ ((nth x0.edges k134 Arrow.zero).frm) < (l130.length : Int)) (dfa_Of_j1_x n l130 x0 k134)))) (fin (grd (0 ≤ x0.states ∧ 1 * x0.states.toNat ≤ 281474976710656) (iterX n (fun q : (List Bool) × Nat => dfa_Of_b2_x n x0 v13 l130 v26 q.1 q.2) ((List.replicate x0.states.toNat false), 0))))
instance dfa_Of_b1_le {n : Nat} {x0 : Nfa} {v13 : (List BSet) × Int} {v26 : (List Int) × Int} {l130 : List (List Arrow)} {k134 : Nat} : LeC (dfa_Of_b1_x n x0 v13 v26 l130 k134) (dfa_Of_b1 x0 v13 v26 l130 k134) := by
  unfold dfa_Of_b1_x dfa_Of_b1; infer_instance
def dfa_Of_x (n : Nat) (x0 : Nfa) : Option (Dfa × Int) :=
  iteO (decide ((errB (checkB x0)) ≠ 0)) (some ((⟨([] : List Int), ([] : List (List Int)), ([] : List Bool)⟩ : Dfa), 1)) (bnd (dfa_unlike_x n x0.edges) (fun v12 => bnd (part_Parts_x n v12) (fun v13 => iteO (decide (v13.2 ≠ 0)) (some ((⟨([] : List Int), ([] : List (List Int)), ([] : List Bool)⟩ : Dfa), v13.2)) (bnd (part_Class_x n v13.1) (fun v26 => iteO (decide (v26.2 ≠ 0)) (some ((⟨([] : List Int), ([] : List (List Int)), ([] : List Bool)⟩ : Dfa), v26.2)) (grd (0 ≤ x0.states ∧ 24 * x0.states.toNat ≤ 281474976710656) (iterX n (fun q : (List (List Arrow)) × Nat => dfa_Of_b1_x n x0 v13 v26 q.1 q.2) ((List.replicate x0.states.toNat ([] : List Arrow)), 0))))))))
instance dfa_Of_le {n : Nat} {x0 : Nfa} : LeC (dfa_Of_x n x0) (dfa_Of x0) := by
  unfold dfa_Of_x dfa_Of; infer_instance
end Go.Proofs.YtmfclggfajopkaaGreatDoor
end

/- RwA -/
section
/- Laws on rules: what they ask first; pieces that are the same; places that rise. Plain lemmas, no condition. -/
set_option linter.unusedVariables false
set_option linter.unusedSimpArgs false
namespace Go.Proofs.YtmfclggfajopkaaGreatDoor
open Go Go.E
set_option maxRecDepth 100000

theorem same04_refl (l : List Span) : whittleref04_Same l l = some true := by
  unfold whittleref04_Same
  rw [iteO_df (by omega)]
  obtain ⟨r, h1, rfl⟩ := iter_up (step := fun q : Nat => whittleref04_Same_b1 l l q) (fun (_ : Unit) k => k) l.length (fun _ _ => True) (fun r => r = true)
    (fun k s hk _ => by
      left
      simp only [whittleref04_Same_b1]
      rw [iteO_dt (by omega), grd_mk hk, iteO_df (by simp)]
      exact ⟨(), rfl, trivial⟩)
    (fun s _ => by
      simp only [whittleref04_Same_b1]
      rw [iteO_df (by omega)]; exact ⟨_, rfl, rfl⟩) (s0 := ()) trivial
  exact h1
theorem same24_refl (p : Piece) : whittleref24_Same p p = some true := by
  unfold whittleref24_Same
  rw [iteO_dt rfl, same04_refl, bnd_mk]
theorem few_some (d : Dfa) : ∃ b, whittleref11_Few d = some b := by
  unfold whittleref11_Few
  obtain ⟨r, h1, _⟩ := iter_up (step := fun q : Nat => whittleref11_Few_b1 d q) (fun (_ : Unit) k => k) d.next.length (fun _ _ => True) (fun r => True)
    (fun k s hk _ => by
      simp only [whittleref11_Few_b1, whittleref11_Few_j1]
      rw [iteO_dt (by omega)]
      by_cases c : d.next.length ≤ 40
      · rw [iteO_dt (by omega)]
        by_cases c2 : 20 < (nth d.next k ([] : List Int)).length
        · rw [iteO_dt (by omega)]; right; exact ⟨_, rfl, trivial⟩
        · rw [iteO_df (by omega)]; left; exact ⟨(), rfl, trivial⟩
      · rw [iteO_df (by omega), iteO_df (by omega)]; right; exact ⟨_, rfl, trivial⟩)
    (fun s _ => by
      simp only [whittleref11_Few_b1, whittleref11_Few_j1]
      rw [iteO_df (by omega)]
      by_cases c : d.next.length ≤ 40
      · rw [iteO_dt (by omega)]; exact ⟨_, rfl, trivial⟩
      · rw [iteO_df (by omega)]; exact ⟨_, rfl, trivial⟩) (s0 := ()) trivial
  exact ⟨r, h1⟩
theorem few21_in (q : Seq) (k : Nat) : whittleref21_Few_b1 q k = some (.inl (k + 1)) ∨ ∃ b, whittleref21_Few_b1 q k = some (.inr b) := by
  simp only [whittleref21_Few_b1]
  by_cases c : k < q.outs.length
  · rw [iteO_dt (by omega)]
    by_cases c2 : 300 < (nth q.outs k ([] : List (List UInt8))).length
    · rw [iteO_dt (by omega)]; exact .inr ⟨_, rfl⟩
    · rw [iteO_df (by omega)]
      obtain ⟨r, h1, h2⟩ := iter_up (step := fun z : Int × Nat => whittleref21_Few_b2 q k z.1 z.2) (fun (s : Int) j => (s, j)) (nth q.outs k ([] : List (List UInt8))).length (fun _ _ => True) (fun r => r = .inl (k + 1) ∨ ∃ b, r = .inr b)
        (fun j s hj _ => by
          simp only [whittleref21_Few_b2]
          rw [iteO_dt (by omega)]; left; exact ⟨_, rfl, trivial⟩)
        (fun s _ => by
          simp only [whittleref21_Few_b2]
          rw [iteO_df (by omega)]
          by_cases c3 : 20000 < s
          · rw [iteO_dt c3]; exact ⟨_, rfl, .inr ⟨_, rfl⟩⟩
          · rw [iteO_df c3]; exact ⟨_, rfl, .inl rfl⟩) (s0 := 0) trivial
      rw [h1]
      rcases h2 with rfl | ⟨b, rfl⟩
      · exact .inl rfl
      · exact .inr ⟨b, rfl⟩
  · rw [iteO_df (by omega)]; exact .inr ⟨_, rfl⟩
theorem few21_some (q : Seq) : ∃ b, whittleref21_Few q = some b := by
  unfold whittleref21_Few
  by_cases c1 : 12 < q.next.length
  · rw [iteO_dt (by omega)]; exact ⟨_, rfl⟩
  rw [iteO_df (by omega)]
  by_cases c2 : 13 < q.outs.length
  · rw [iteO_dt (by omega)]; exact ⟨_, rfl⟩
  rw [iteO_df (by omega)]
  by_cases c3 : 5000 < q.front.length
  · rw [iteO_dt (by omega)]; exact ⟨_, rfl⟩
  rw [iteO_df (by omega)]
  obtain ⟨r, h1, _⟩ := iter_up (step := fun k : Nat => whittleref21_Few_b1 q k) (fun (_ : Unit) k => k) q.outs.length (fun _ _ => True) (fun r => True)
    (fun k s hk _ => by
      rcases few21_in q k with h | ⟨b, h⟩
      · left; exact ⟨(), h, trivial⟩
      · right; exact ⟨b, h, trivial⟩)
    (fun s _ => by
      simp only [whittleref21_Few_b1]
      rw [iteO_df (by omega)]; exact ⟨_, rfl, trivial⟩) (s0 := ()) trivial
  exact ⟨r, h1⟩
theorem few24_some (r : Rule) : ∃ b, whittleref24_Few r = some b := by
  unfold whittleref24_Few
  obtain ⟨b1, h1⟩ := few_some r.of
  obtain ⟨b2, h2⟩ := few_some r.left
  obtain ⟨b3, h3⟩ := few_some r.right
  obtain ⟨b4, h4⟩ := few21_some r.by'
  rw [h1, bnd_mk, h2, bnd_mk, h3, bnd_mk, h4, bnd_mk]
  cases b1 <;> cases b2 <;> cases b3 <;> cases b4 <;> exact ⟨_, rfl⟩

def cls1 (n : Nat) : List Int := List.replicate n 0 ++ 1 :: List.replicate (255 - n) 0
def dAll : Dfa := ⟨List.replicate 256 0, [[0]], [true]⟩
end Go.Proofs.YtmfclggfajopkaaGreatDoor
end
