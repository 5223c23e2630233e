/- Parts of a proof, one behind the other: what a machine reaches, functions decompiled, plain lemmas. Conditions stand with each lemma. -/
import Derived.Test.YtcaaiphgikpgjaaGreatDoorB4794d90a5c
import Derived.Test.YtcaaiphgikpgjaaGreatDoorB584ce4a16c
import Derived.Test.YtcaaiphgikpgjaaGreatDoorBcf96c4d630
import Derived.Test.YtcaaiphgikpgjaaGreatDoorB3d81a68174
import Derived.Shelf.SlSortCmp.NoneTotal
import Derived.Shelf.Sort.Plain
import Derived.Shelf.SlLaysZI
import Derived.Test.YtcaaiphgikpgjaaGreatDoorChecked
import Derived.CallsIn
import Derived.RunT
import Derived.Shelf.SlIterI.Sorted
import Derived.Shelf.SlIterI.Nil
import Derived.WideReads
import Derived.KernelRfl

set_option linter.unusedVariables false
set_option linter.unusedSimpArgs false
set_option linter.unusedSectionVars false
set_option maxRecDepth 100000

section
namespace Go.Proofs.YtcaaiphgikpgjaaGreatDoor
open Go Go.E Go.E.OpVal Go.E.OpOk Go.Proofs.Tryz
private theorem ag25 : Go.E.aggOf Tryz.prog 25 = some true := by kernel_rfl
private theorem ag30 : Go.E.aggOf Tryz.prog 30 = some true := by kernel_rfl
private theorem ag9 : Go.E.aggOf Tryz.prog 9 = some false := by kernel_rfl
private theorem by9 : Go.E.byOf Tryz.prog 9 = some 16 := by kernel_rfl
private theorem pf10 : Go.E.plainF Tryz.prog 10 = true := by kernel_rfl
private theorem pf18 : Go.E.plainF Tryz.prog 18 = true := by kernel_rfl
private theorem pf21 : Go.E.plainF Tryz.prog 21 = true := by kernel_rfl
private theorem pf23 : Go.E.plainF Tryz.prog 23 = true := by kernel_rfl
private theorem pf41 : Go.E.plainF Tryz.prog 41 = true := by kernel_rfl
private theorem pf42 : Go.E.plainF Tryz.prog 42 = true := by kernel_rfl
private theorem pf43 : Go.E.plainF Tryz.prog 43 = true := by kernel_rfl
private theorem pf44 : Go.E.plainF Tryz.prog 44 = true := by kernel_rfl
private theorem pf45 : Go.E.plainF Tryz.prog 45 = true := by kernel_rfl
private theorem pf66 : Go.E.plainF Tryz.prog 66 = true := by kernel_rfl
private theorem pf67 : Go.E.plainF Tryz.prog 67 = true := by kernel_rfl
private theorem sz25 : Go.E.szOf Tryz.prog 25 = some 4 := by kernel_rfl
private theorem sz30 : Go.E.szOf Tryz.prog 30 = some 3 := by kernel_rfl
private theorem sz9 : Go.E.szOf Tryz.prog 9 = some 1 := by kernel_rfl
private theorem ze25 : Go.E.zeroOf Tryz.prog 25 = some (.agg #[.int .i64 0, .slice none 0 0, .slice none 0 0, .slice none 0 0]) := by kernel_rfl
private theorem ze30 : Go.E.zeroOf Tryz.prog 30 = some (.agg #[.slice none 0 0, .slice none 0 0, .slice none 0 0]) := by kernel_rfl
private theorem ze5 : Go.E.zeroOf Tryz.prog 5 = some (.int .u8 0) := by kernel_rfl
private theorem ze9 : Go.E.zeroOf Tryz.prog 9 = some (.string ByteArray.empty) := by kernel_rfl
noncomputable def A7_ (x0 : UInt8) : Option (Dfa) :=
 grd ([x0].length ≤ 1000000000000) (bnd (Gv_ (setN (BSet.ofL [x0]))) (fun v6 => some v6.1))
def Hs_ (σ : Store) (r : Dfa) : Value → Store → List Res → Prop := fun v σ' H' =>
 ∃ (a1 : Option Addr), ∃ (c1 : Nat), ∃ (a2 : Option Addr), ∃ (c2 : Nat), ∃ (a3 : Option Addr), ∃ (c3 : Nat),  v = .agg #[.slice a1 r.cls.length c1, .slice a2 r.next.length c2, .slice a3 r.fin.length c3] ∧ RS σ' 1 Go.E.encI (.slice a1 r.cls.length c1) r.cls ∧ RZ σ' (pkSl 1 Go.E.encI Go.E.encI_len) (.slice a2 r.next.length c2) r.next ∧ RS σ' 1 encB (.slice a3 r.fin.length c3) r.fin ∧ H' = []
theorem E7_ {σ : Store} {x0 : UInt8} (hgl : GT σ 1 encU8 deB) {r : Dfa} (hh : A7_ x0 = some r) :
  Con Tryz.prog 42 #[.int .u8 ((x0.toNat : Nat) : Int)] σ [] (Hs_ σ r) := by
 dsimp only [A7_] at hh
 refine Con.mk (n := 14) Tryz.func42 z z z (fun w0 => ?_)
 refine TC.a (TL.op z (OpOk.alloc z ze30 z z (fun b101 => ?_)))
 refine TL.en (TC.a (TL.i z z (TL.op z (OpOk.lit (enc := encU8) [x0] z underlying53 sz5 ze5 z z z encU8_len (by decide) (by decide) (0 : UInt8) z (by decide) z (by decide) encU8_one (fun a103 c104 => ?_)))))
 have u4 := grd_c hh
 replace hh := grd_t hh
 refine TL.op z (callT (of_con _ _ _ [x0] u4) z z pf23 z z z z ?_)
 refine TL.op z (OpOk.call (Jc_ _ (BSet.ofL [x0]) (BSet.isOk _)) z z pf67 z z z z ?_)
 rintro _ τ106 _ hle106 ⟨p106, rfl, hn106, rfl⟩
 replace hgl := hgl.mono hle106
 have hn106sb := hn106.s.rv.big
 have hn106eb := hn106.e.rv.big
 have hn106db := hn106.d.rv.big
 obtain ⟨v6, u6, hh⟩ := bnd_e hh
 refine TL.op z (OpOk.call (Iv_ (x0 := (setN (BSet.ofL [x0]))) hgl hn106.s hn106.e hn106.d u6) z z pf66 z z z z ?_)
 rintro _ τ107 _ hle107 ⟨a107_1, c107_1, a107_2, c107_2, a107_3, c107_3, rfl, hr107_0, hr107_1, hr107_2, rfl⟩
 have hr107_0b := hr107_0.rv.big
 have hr107_1b := hr107_1.big
 have hr107_2b := hr107_2.rv.big
 refine TL.w z (moveT (.inl z) z) (TL.w z (OpVal.extract z z z) (TL.w z (OpVal.extract z z z) (TL.op z (OpOk.alloc z ze30 z z (fun b108 => ?_)))))
 refine TL.op z (storeAll z sz30 z z z z z z ?_)
 refine TL.i z z (TL.en (TC.a (TL.w z (loadAll z ag30 sz30 z (i := 0) z z) (TL.front 1 z z (TL.op z (storeAll z sz30 z z z z z z ?_))))))
 refine TL.en (TC.rt 1 ?_)
 obtain rfl := so hh
 exact ro [] z (RVs.agg ag30 sz30 z (i := 0) z z RVs.nil) ⟨a107_1, c107_1, a107_2, c107_2, a107_3, c107_3, z, hr107_0, hr107_1, hr107_2, z⟩
noncomputable def Aa_ : Option (Bool) :=
 bnd (A7_ (97 : UInt8)) (fun v2 => bnd (F2_ v2 ([120] : List UInt8)) (fun v3 => bnd (A7_ (98 : UInt8)) (fun v10 => bnd (Gw_ v10) (fun v11 => bnd (Dc_ v3.1 v11.1) (fun v20 => bnd (Fp_ v20.1) (fun v28 => bnd (Fo_ v28.1 ([97, 98, 97] : List UInt8)) (fun v36 => iteO (decide (v3.2 = 0)) (iteO (decide (v11.2 = v3.2)) (iteO (decide (v20.2 = v3.2)) (iteO (decide (v28.2 = v3.2)) (iteO (decide (v36.2 = v3.2)) (bnd (Ax_ v36.1 [([120, 98, 120] : List UInt8)]) (fun v67 => some v67)) (some false)) (some false)) (some false)) (some false)) (some false))))))))
theorem Ab_ {σ : Store}  (hgl : GT σ 1 encU8 deB) {r : Bool} (hh : Aa_ = some r) :
  Con Tryz.prog 14 #[] σ [] (PureP (.bool r) σ) := by
 dsimp only [Aa_] at hh
 refine Con.mk (n := 64) Tryz.func14 z z z (fun w0 => ?_)
 refine TC.a (TL.j z z (TL.en (TC.a ?_)))
 obtain ⟨v2, u2, hh⟩ := bnd_e hh
 refine TL.op z (OpOk.call (E7_ hgl u2) z z pf42 z z z z ?_)
 rintro _ τ101 _ hle101 ⟨a101_1, c101_1, a101_2, c101_2, a101_3, c101_3, rfl, hr101_0, hr101_1, hr101_2, rfl⟩
 replace hgl := hgl.mono hle101
 have hr101_0b := hr101_0.rv.big
 have hr101_1b := hr101_1.big
 have hr101_2b := hr101_2.rv.big
 obtain ⟨v3, u3, hh⟩ := bnd_e hh
 refine TL.op z (OpOk.call (H5_ (x0 := v2) hr101_0 hr101_1 hr101_2 u3) z z pf41 z z z z ?_)
 rintro _ τ102 _ hle102 ⟨a102_1, c102_1, a102_2, c102_2, a102_3, c102_3, rfl, hr102_0, hr102_1, hr102_2, rfl⟩
 replace hgl := hgl.mono hle102
 have hr102_0b := hr102_0.rv.big
 have hr102_1b := hr102_1.rv.big
 have hr102_2b := hr102_2.rv.big
 refine TL.w z (moveT (.inl z) z) (TL.w z (OpVal.extract z z z) (TL.w z (OpVal.extract z z z) (TL.op z (OpOk.alloc z ze25 z z (fun b103 => ?_)))))
 refine TL.op z (storeAll z sz25 z z z z z z ?_)
 refine TL.i z z (TL.en (TC.a ?_))
 obtain ⟨v10, u10, hh⟩ := bnd_e hh
 refine TL.op z (OpOk.call (E7_ hgl u10) z z pf42 z z z z ?_)
 rintro _ τ105 _ hle105 ⟨a105_1, c105_1, a105_2, c105_2, a105_3, c105_3, rfl, hr105_0, hr105_1, hr105_2, rfl⟩
 replace hr102_0 := hr102_0.mono hle105
 replace hr102_1 := hr102_1.mono hle105
 replace hr102_2 := hr102_2.mono hle105
 have hr105_0b := hr105_0.rv.big
 have hr105_1b := hr105_1.big
 have hr105_2b := hr105_2.rv.big
 obtain ⟨v11, u11, hh⟩ := bnd_e hh
 refine TL.op z (OpOk.call (If_ (x0 := v10) hr105_0 hr105_1 hr105_2 u11) z z pf43 z z z z ?_)
 rintro _ τ106 _ hle106 ⟨a106_1, c106_1, a106_2, c106_2, a106_3, c106_3, rfl, hr106_0, hr106_1, hr106_2, rfl⟩
 replace hr102_0 := hr102_0.mono hle106
 replace hr102_1 := hr102_1.mono hle106
 replace hr102_2 := hr102_2.mono hle106
 have hr106_0b := hr106_0.rv.big
 have hr106_1b := hr106_1.rv.big
 have hr106_2b := hr106_2.rv.big
 refine TL.w z (moveT (.inl z) z) (TL.w z (OpVal.extract z z z) (TL.w z (OpVal.extract z z z) (TL.op z (OpOk.alloc z ze25 z z (fun b107 => ?_)))))
 refine TL.op z (storeAll z sz25 z z z z z z ?_)
 refine TL.i z z (TL.en (TC.a (TL.w z (loadAll z ag25 sz25 z (i := 1) z z) (TL.w z (loadAll z ag25 sz25 z (i := 0) z z) ?_))))
 obtain ⟨v20, u20, hh⟩ := bnd_e hh
 refine TL.op z (OpOk.call (Hy_ (x0 := v3.1) (x1 := v11.1) hr102_0 hr102_1 hr102_2 hr106_0 hr106_1 hr106_2 u20) z z pf10 z z z z ?_)
 rintro _ τ109 _ hle109 ⟨a109_1, c109_1, a109_2, c109_2, a109_3, c109_3, rfl, hr109_0, hr109_1, hr109_2, rfl⟩
 have hr109_0b := hr109_0.rv.big
 have hr109_1b := hr109_1.rv.big
 have hr109_2b := hr109_2.rv.big
 refine TL.w z (moveT (.inl z) z) (TL.w z (OpVal.extract z z z) (TL.w z (OpVal.extract z z z) (TL.op z (OpOk.alloc z ze25 z z (fun b110 => ?_)))))
 refine TL.op z (storeAll z sz25 z z z z z z ?_)
 refine TL.i z z (TL.en (TC.a (TL.w z (loadAll z ag25 sz25 z (i := 0) z z) ?_)))
 obtain ⟨v28, u28, hh⟩ := bnd_e hh
 refine TL.op z (OpOk.call (Id_ (x0 := v20.1) hr109_0 hr109_1 hr109_2 u28) z z pf44 z z z z ?_)
 rintro _ τ112 _ hle112 ⟨a112_1, c112_1, a112_2, c112_2, a112_3, c112_3, rfl, hr112_0, hr112_1, hr112_2, rfl⟩
 have hr112_0b := hr112_0.rv.big
 have hr112_1b := hr112_1.rv.big
 have hr112_2b := hr112_2.rv.big
 refine TL.w z (moveT (.inl z) z) (TL.w z (OpVal.extract z z z) (TL.w z (OpVal.extract z z z) (TL.op z (OpOk.alloc z ze25 z z (fun b113 => ?_)))))
 refine TL.op z (storeAll z sz25 z z z z z z ?_)
 refine TL.i z z (TL.en (TC.a (TL.w z (loadAll z ag25 sz25 z (i := 0) z z) ?_)))
 obtain ⟨v36, u36, hh⟩ := bnd_e hh
 refine TL.op z (OpOk.call (Ht_ (x0 := v28.1) hr112_0 hr112_1 hr112_2 u36) z z pf45 z z z z ?_)
 rintro _ τ115 _ hle115 ⟨a115_1, c115_1, rfl, hr115_0, rfl⟩
 have hr115_0b := hr115_0.rv.big
 refine TL.w z (moveT (.inl z) z) (TL.w z (OpVal.extract z z z) (TL.w z (OpVal.extract z z z) (TL.s z z (TL.i z z (TL.en (TC.a (TL.i z z (TL.w z (OpVal.eql z z z) (TL.j z z (TL.split 39 z (fun h116 => ?_) (fun h116 => ?_)))))))))))
 ·replace hh := iteO_t h116 hh
  replace h116 := of_decide_eq_true h116
  refine TL.g z (moveI (.inl z) z) (TL.g z (moveI (.inl z) z) (TL.g z (OpVal.eql z z z) (TL.w z (pickTB z z z) (TL.j z z (TL.split 44 z (fun h117 => ?_) (fun h117 => ?_))))))
  ·replace hh := iteO_t h117 hh
   replace h117 := of_decide_eq_true h117
   refine TL.g z (moveI (.inl z) z) (TL.g z (moveI (.inl z) z) (TL.g z (OpVal.eql z z z) (TL.w z (pickTB z z z) (TL.j z z (TL.split 49 z (fun h118 => ?_) (fun h118 => ?_))))))
   ·replace hh := iteO_t h118 hh
    replace h118 := of_decide_eq_true h118
    refine TL.g z (moveI (.inl z) z) (TL.g z (moveI (.inl z) z) (TL.g z (OpVal.eql z z z) (TL.w z (pickTB z z z) (TL.j z z (TL.split 54 z (fun h119 => ?_) (fun h119 => ?_))))))
    ·replace hh := iteO_t h119 hh
     replace h119 := of_decide_eq_true h119
     refine TL.g z (moveI (.inl z) z) (TL.g z (moveI (.inl z) z) (TL.g z (OpVal.eql z z z) (TL.w z (pickTB z z z) (TL.j z z (TL.split 59 z (fun h120 => ?_) (fun h120 => ?_))))))
     ·replace hh := iteO_t h120 hh
      replace h120 := of_decide_eq_true h120
      refine TL.g z (moveSl (.inl z) z) (TL.gon z z z z z (OpOk.lit (enc := Go.E.encS) [([120, 98, 120] : List UInt8)] z underlying45 sz9 ze9 z z z Go.E.encS_len (by decide) (by decide) ([] : List UInt8) z (by decide) z (by decide) Go.E.encS_one (fun a121 c122 => ?_)))
      obtain ⟨v67, u67, hh⟩ := bnd_e hh
      refine TL.gon z z z z z (callK (Con.lend Go.E.encS_len (fun _ hle125 hr124 => By_ (hr115_0.mono hle125) hr124 u67)) z z pf18 z z z z ?_)
      refine TL.w z (pickTB z z z) (TL.j z z (TL.en (TC.ofSub (Sub.pre 0 z) (TC.back (TC.ret ?_)))))
      obtain rfl := so hh
      exact rq [0] ⟨z, z, z⟩
     ·replace hh := iteO_f h120 hh
      replace h120 := of_decide_eq_false h120
      refine TL.f z (TL.f z (TL.f z (TL.w z (pickFB z z z) (TL.j z z (TL.en (TC.ofSub (Sub.pre 0 z) (TC.back (TC.ret ?_))))))))
      obtain rfl := so hh
      exact rq [0] ⟨z, z, z⟩
    ·replace hh := iteO_f h119 hh
     replace h119 := of_decide_eq_false h119
     refine TL.f z (TL.f z (TL.f z (TL.w z (pickFB z z z) (TL.j z z (TL.f z (TL.f z (TL.f z (TL.w z (pickFB z z z) (TL.j z z (TL.en (TC.ofSub (Sub.pre 0 z) (TC.back (TC.ret ?_)))))))))))))
     obtain rfl := so hh
     exact rq [0] ⟨z, z, z⟩
   ·replace hh := iteO_f h118 hh
    replace h118 := of_decide_eq_false h118
    refine TL.f z (TL.f z (TL.f z (TL.w z (pickFB z z z) (TL.j z z (TL.f z (TL.f z (TL.f z (TL.w z (pickFB z z z) (TL.j z z (TL.f z (TL.f z (TL.f z (TL.w z (pickFB z z z) (TL.j z z (TL.en (TC.ofSub (Sub.pre 0 z) (TC.back (TC.ret ?_))))))))))))))))))
    obtain rfl := so hh
    exact rq [0] ⟨z, z, z⟩
  ·replace hh := iteO_f h117 hh
   replace h117 := of_decide_eq_false h117
   refine TL.f z (TL.f z (TL.f z (TL.w z (pickFB z z z) (TL.j z z (TL.f z (TL.f z (TL.f z (TL.w z (pickFB z z z) (TL.j z z (TL.f z (TL.f z (TL.f z (TL.w z (pickFB z z z) (TL.j z z (TL.f z (TL.f z (TL.f z (TL.w z (pickFB z z z) (TL.j z z (TL.en (TC.ofSub (Sub.pre 0 z) (TC.back (TC.ret ?_)))))))))))))))))))))))
   obtain rfl := so hh
   exact rq [0] ⟨z, z, z⟩
 ·replace hh := iteO_f h116 hh
  replace h116 := of_decide_eq_false h116
  refine TL.f z (TL.f z (TL.f z (TL.w z (pickFB z z z) (TL.j z z (TL.f z (TL.f z (TL.f z (TL.w z (pickFB z z z) (TL.j z z (TL.f z (TL.f z (TL.f z (TL.w z (pickFB z z z) (TL.j z z (TL.f z (TL.f z (TL.f z (TL.w z (pickFB z z z) (TL.j z z (TL.f z (TL.f z (TL.f z (TL.w z (pickFB z z z) (TL.j z z (TL.en (TC.ofSub (Sub.pre 0 z) (TC.back (TC.ret ?_))))))))))))))))))))))))))))
  obtain rfl := so hh
  exact rq [0] ⟨z, z, z⟩
noncomputable def Dk_ (x0 : Fst) (x1 : Fst) : Option (Bool) :=
 bnd (Bw_ x0) (fun v5 => iteO v5 (bnd (Bw_ x1) (fun v8 => some v8)) (some false))
theorem Hd_ {σ : Store} {x0 : Fst} {a0_0 : Option Addr} {c0_0 : Nat} {a0_1 : Option Addr} {c0_1 : Nat} {a0_2 : Option Addr} {c0_2 : Nat} {x1 : Fst} {a1_0 : Option Addr} {c1_0 : Nat} {a1_1 : Option Addr} {c1_1 : Nat} {a1_2 : Option Addr} {c1_2 : Nat} (f0_0 : RS σ 2 encTip (.slice a0_0 x0.starts.length c0_0) x0.starts) (f0_1 : RS σ 2 encTip (.slice a0_1 x0.ends.length c0_1) x0.ends) (f0_2 : RS σ 8 encArc (.slice a0_2 x0.arcs.length c0_2) x0.arcs) (f1_0 : RS σ 2 encTip (.slice a1_0 x1.starts.length c1_0) x1.starts) (f1_1 : RS σ 2 encTip (.slice a1_1 x1.ends.length c1_1) x1.ends) (f1_2 : RS σ 8 encArc (.slice a1_2 x1.arcs.length c1_2) x1.arcs) {r : Bool} (hh : Dk_ x0 x1 = some r) :
  Con Tryz.prog 12 #[.agg #[.int .i64 x0.states, .slice a0_0 x0.starts.length c0_0, .slice a0_1 x0.ends.length c0_1, .slice a0_2 x0.arcs.length c0_2], .agg #[.int .i64 x1.states, .slice a1_0 x1.starts.length c1_0, .slice a1_1 x1.ends.length c1_1, .slice a1_2 x1.arcs.length c1_2]] σ [] (PureP (.bool r) σ) := by
 dsimp only [Dk_] at hh
 have f0_0b := f0_0.rv.big
 have f0_1b := f0_1.rv.big
 have f0_2b := f0_2.rv.big
 have f1_0b := f1_0.rv.big
 have f1_1b := f1_1.rv.big
 have f1_2b := f1_2.rv.big
 refine Con.mk (n := 11) Tryz.func12 z z z (fun w0 => ?_)
 refine TC.a (TL.op z (boxA z z z z (fun b101 => ?_)))
 refine TL.op z (boxA z z z z (fun b103 => ?_))
 refine TL.j z z (TL.en (TC.a (TL.w z (loadAll z ag25 sz25 z (i := 1) z z) ?_)))
 obtain ⟨v5, u5, hh⟩ := bnd_e hh
 refine TL.op z (callP (E3_ (x0 := x0) f0_0 f0_1 f0_2 u5) z z pf21 z z z ?_)
 refine TL.j z z (TL.split 7 z (fun h105 => ?_) (fun h105 => ?_))
 ·replace hh := iteO_t h105 hh
  refine TL.g z (loadAll z ag25 sz25 z (i := 0) z z) ?_
  obtain ⟨v8, u8, hh⟩ := bnd_e hh
  refine TL.gon z z z z z (callP (E3_ (x0 := x1) f1_0 f1_1 f1_2 u8) z z pf21 z z z ?_)
  refine TL.w z (pickTB z z z) (TL.j z z (TL.en (TC.rt 0 ?_)))
  obtain rfl := so hh
  exact rq [4] ⟨z, z, z⟩
 ·replace hh := iteO_f h105 hh
  refine TL.f z (TL.f z (TL.w z (pickFB z z z) (TL.j z z (TL.en (TC.rt 0 ?_)))))
  obtain rfl := so hh
  exact rq [4] ⟨z, z, z⟩
noncomputable def Am_ (x0 : Fst) (x1 : List UInt8) : Option ((List (List UInt8)) × Bool) :=
 grd (x1.length ≤ 281474976710656) (bnd (Fo_ x0 x1) (fun v6 => some (v6.1, decide (v6.2 = 0))))
def Hm_ (σ : Store) (r : (List (List UInt8)) × Bool) : Value → Store → List Res → Prop := fun v σ' H' =>
 ∃ (a1 : Option Addr), ∃ (c1 : Nat),  v = .tuple #[.slice a1 r.1.length c1, .bool r.2] ∧ RS σ' 1 Go.E.encS (.slice a1 r.1.length c1) r.1 ∧ H' = []
theorem At_ {σ : Store} {x0 : Fst} {a0_0 : Option Addr} {c0_0 : Nat} {a0_1 : Option Addr} {c0_1 : Nat} {a0_2 : Option Addr} {c0_2 : Nat} {x1 : List UInt8} (f0_0 : RS σ 2 encTip (.slice a0_0 x0.starts.length c0_0) x0.starts) (f0_1 : RS σ 2 encTip (.slice a0_1 x0.ends.length c0_1) x0.ends) (f0_2 : RS σ 8 encArc (.slice a0_2 x0.arcs.length c0_2) x0.arcs) {r : (List (List UInt8)) × Bool} (hh : Am_ x0 x1 = some r) :
  Con Tryz.prog 15 #[.agg #[.int .i64 x0.states, .slice a0_0 x0.starts.length c0_0, .slice a0_1 x0.ends.length c0_1, .slice a0_2 x0.arcs.length c0_2], .string (bs x1)] σ [] (Hm_ σ r) := by
 dsimp only [Am_] at hh
 have f0_0b := f0_0.rv.big
 have f0_1b := f0_1.rv.big
 have f0_2b := f0_2.rv.big
 refine Con.mk (n := 17) Tryz.func15 z z z (fun w0 => ?_)
 have x1b := grd_c hh
 replace hh := grd_t hh
 refine TC.a (TL.op z (boxA z z z z (fun b101 => ?_)))
 refine TL.s z z (TL.j z z (TL.en (TC.a (TL.w z (loadAll z ag25 sz25 z (i := 0) z z) (TL.w z (moveStr (.inl z) z) ?_)))))
 obtain ⟨v6, u6, hh⟩ := bnd_e hh
 refine TL.op z (OpOk.call (Ht_ (x0 := x0) f0_0 f0_1 f0_2 u6) z z pf45 z z z z ?_)
 rintro _ τ103 _ hle103 ⟨a103_1, c103_1, rfl, hr103_0, rfl⟩
 have hr103_0b := hr103_0.rv.big
 refine TL.w z (moveT (.inl z) z) (TL.w z (OpVal.extract z z z) (TL.w z (OpVal.extract z z z) (TL.s z z (TL.i z z (TL.en (TC.a (TL.s z z (TL.i z z (TL.w z (OpVal.eql z z z) (TL.s z z (TL.j z z (TL.en (TC.rt 0 ?_)))))))))))))
 obtain rfl := so hh
 exact rq [4, 5] ⟨a103_1, c103_1, z, hr103_0, z⟩
noncomputable def Ag_ (x1 : List (List UInt8)) (x0 : List (List UInt8)) (k115 : Nat) (l127 : List (List UInt8)) (k130 : Nat) : Option (((List (List UInt8)) × Nat) ⊕ (((List (List UInt8)) × Nat) ⊕ ((List (List UInt8))))) :=
 iteO (decide (((k130 : Nat) : Int) < ((x1.length : Nat) : Int))) (grd ((nth x0 k115 ([] : List UInt8)).length + (nth x1 k130 ([] : List UInt8)).length ≤ 9223372036854775807) (grd ((l127.length + [((nth x0 k115 ([] : List UInt8)) ++ (nth x1 k130 ([] : List UInt8)))].length) * 16 ≤ 140737488355328) (nxt ((l127 ++ [((nth x0 k115 ([] : List UInt8)) ++ (nth x1 k130 ([] : List UInt8)))]), (k130 + 1))))) (fin (nxt (l127, (k115 + 1))))
noncomputable def Ah_ (x0 : List (List UInt8)) (x1 : List (List UInt8)) (l112 : List (List UInt8)) (k115 : Nat) : Option (((List (List UInt8)) × Nat) ⊕ ((List (List UInt8)))) :=
 iteO (decide (((k115 : Nat) : Int) < ((x0.length : Nat) : Int))) (iter (fun q : (List (List UInt8)) × Nat => Ag_ x1 x0 k115 q.1 q.2) (l112, 0)) (fin (some l112))
noncomputable def B5_ (x0 : List (List UInt8)) (x1 : List (List UInt8)) : Option ((List (List UInt8))) :=
 iter (fun q : (List (List UInt8)) × Nat => Ah_ x0 x1 q.1 q.2) (([] : List (List UInt8)), 0)
def Hf_ (σ : Store) (r : (List (List UInt8))) : Value → Store → List Res → Prop := fun v σ' H' =>
 ∃ (a1 : Option Addr), ∃ (c1 : Nat),  v = .slice a1 r.length c1 ∧ RS σ' 1 Go.E.encS (.slice a1 r.length c1) r ∧ H' = []
theorem G7_ {σ : Store} {x0 : List (List UInt8)} {a0_0 : Option Addr} {c0_0 : Nat} {x1 : List (List UInt8)} {a1_0 : Option Addr} {c1_0 : Nat} (f0_0 : RS σ 1 Go.E.encS (.slice a0_0 x0.length c0_0) x0) (f1_0 : RS σ 1 Go.E.encS (.slice a1_0 x1.length c1_0) x1) {r : (List (List UInt8))} (hh : B5_ x0 x1 = some r) :
  Con Tryz.prog 16 #[.slice a0_0 x0.length c0_0, .slice a1_0 x1.length c1_0] σ [] (Hf_ σ r) := by
 dsimp only [B5_] at hh
 have f0_0b := f0_0.rv.big
 have f1_0b := f1_0.rv.big
 refine Con.mk (n := 33) Tryz.func16 z z z (fun w0 => ?_)
 refine TC.a (TL.s z z (TL.en (TC.a (TL.s z z (TL.en (TC.seq (TC.a (TL.i z z (TL.en (TC.block (TC.nilS 9 1 Go.E.encS (TC.loopG (α := ((List (List UInt8)) × Nat) × ((Option Addr) × Nat)) (rgs [(5, 27)]) (fun g => [(5, .slice g.2.1 g.1.1.length g.2.2), (6, .int .i64 ((g.1.2 : Nat) : Int))]) (fun g => [Res.rowS 9 1 Go.E.encS (.slice g.2.1 g.1.1.length g.2.2) g.1.1]) (fun g => σ) (fun g => iter (fun q : (List (List UInt8)) × Nat => Ah_ x0 x1 q.1 q.2) g.1 = some r) (fun g => rounds (fun q : (List (List UInt8)) × Nat => Ah_ x0 x1 q.1 q.2) g.1) ((([] : List (List UInt8)), 0), (none, 0)) (Sub.pre 1 z) z (by repeat (first | exact trivial | refine ⟨z, ?_⟩)) hh (fun g1 j1 hg1 => ?_)))))))))))))
 obtain ⟨⟨l112, k115⟩, ⟨a113, c114⟩⟩ := g1
 have hh := hg1; clear hg1
 try dsimp only
 obtain ⟨z1, hh, hR1⟩ := iter_e hh
 dsimp only [Ah_] at hh
 refine TC.isSl (i := 0) z (fun _ hb117 _ => ?_)
 refine TC.seq (TC.a (TL.i z z (TL.s z z (TL.w z (lenC z underlying45 z) (TL.w z (OpVal.lss z z z) (TL.en (TC.cD z hh (fun h118 hh => ?_) (fun h118 hh => ?_))))))))
 ·refine TC.skip (S.n (TC.seq (TC.block (TC.a (TL.i z z (TL.en (TC.block (TC.loopG (α := ((List (List UInt8)) × Nat) × ((Option Addr) × Nat)) (rgs [(5, 1), (7, 1), (14, 18)]) (fun g => [(5, .slice g.2.1 g.1.1.length g.2.2), (7, .int .i64 ((g.1.2 : Nat) : Int))]) (fun g => [Res.rowS 9 1 Go.E.encS (.slice g.2.1 g.1.1.length g.2.2) g.1.1]) (fun g => σ) (fun g => iter (fun q : (List (List UInt8)) × Nat => Ag_ x1 x0 k115 q.1 q.2) g.1 = some z1) (fun g => rounds (fun q : (List (List UInt8)) × Nat => Ag_ x1 x0 k115 q.1 q.2) g.1) ((l112, 0), (a113, c114)) (Sub.pre 1 z) z (by repeat (first | exact trivial | refine ⟨z, ?_⟩)) hh (fun g2 j2 hg2 => ?_)))))))))
  obtain ⟨⟨l127, k130⟩, ⟨a128, c129⟩⟩ := g2
  have hh := hg2; clear hg2
  try dsimp only
  obtain ⟨z2, hh, hR2⟩ := iter_e hh
  dsimp only [Ag_] at hh
  refine TC.isSl (i := 0) z (fun _ hb131 _ => ?_)
  refine TC.seq (TC.a (TL.i z z (TL.s z z (TL.w z (lenC z underlying45 z) (TL.w z (OpVal.lss z z z) (TL.en (TC.cD z hh (fun h132 hh => ?_) (fun h132 hh => ?_))))))))
  ·refine TC.skip (S.n (TC.seq (TC.block ?_)))
   have u22 := grd_c hh
   replace hh := grd_t hh
   have u24 := grd_c hh
   replace hh := grd_t hh
   refine TC.draw [11, 12] (by kernel_rfl) (TA.a 0 z (moveSl (.inl z) z) z (TA.a 1 z (moveSl (.inl z) z) z (TA.a 2 z (moveI (.inl z) z) z (TA.b 3 z (indexN z underlying45 sz9 z z f0_0.rv.sl (by omega)) z (TA.b 4 z (loadS1 ([] : List UInt8) z ag9 z f0_0 (by omega) z) z (TA.a 5 z (moveSl (.inl z) z) z (TA.a 6 z (moveI (.inl z) z) z (TA.b 7 z (indexN z underlying45 sz9 z z f1_0.rv.sl (by omega)) z (TA.b 8 z (loadS1 ([] : List UInt8) z ag9 z f1_0 (by omega) z) z (TA.a 9 z (catBs z z z u22) z (TA.ac 10 z (OpOk.lit (enc := Go.E.encS) [((nth x0 k115 ([] : List UInt8)) ++ (nth x1 k130 ([] : List UInt8)))] z underlying45 sz9 ze9 z z z Go.E.encS_len (by decide) (by decide) ([] : List UInt8) z (by decide) z (by decide) Go.E.encS_one (fun a138 c139 => (k1 ?_))))))))))))))
   refine TA.front 1 z z (TA.last 11 (by kernel_rfl) z z z (appendS z z underlying45 sz9 by9 ze9 z z (by decide) z z z (.inr ⟨_, 0, z⟩) (by simpa using u24) (by decide) (fun a141 c142 => ?_)))
   refine TZ.v 12 (by kernel_rfl) z z z (moveSl (.inr z) z) z z (TZ.done (by kernel_rfl) (B.n (S.n (TC.region (TL.i z z (TL.w z (OpVal.succ z z z (by omega)) (TL.i z z (TL.en ?_))))))))
   obtain ⟨hh, hlt143⟩ := nxt_x hR2 hh
   exact lf (((l127 ++ [((nth x0 k115 ([] : List UInt8)) ++ (nth x1 k130 ([] : List UInt8)))]), (k130 + 1)), (a141, c142)) hlt143 hh (Sub.pre 1 z)
  ·refine TC.exit (S.x (S.x ?_))
   replace hh := fin_x hR2 hh
   refine TC.exitHere (B.n (S.n (TC.region (TL.i z z (TL.w z (OpVal.succ z z z (by omega)) (TL.i z z (TL.en ?_)))))))
   obtain ⟨hh, hlt144⟩ := nxt_x hR1 hh
   exact lf ((l127, (k115 + 1)), (a128, c129)) hlt144 hh (Sub.pre 1 z)
 ·refine TC.exit (S.x (S.x ?_))
  replace hh := fin_x hR1 hh
  refine TC.exitHere (S.n (TC.a (TL.s z z (TL.s z z (TL.en (TC.sealS Go.E.encS_len (fun τ147 hle146 hr145 => ?_)))))))
  have hr145b := hr145.rv.big
  refine TC.ret ?_
  obtain rfl := so hh
  exact rq [4] ⟨a113, c114, z, hr145, z⟩
end Go.Proofs.YtcaaiphgikpgjaaGreatDoor
end

section
namespace Go.Proofs.YtcaaiphgikpgjaaGreatDoor
open Go Go.E Go.E.OpVal Go.E.OpOk
end Go.Proofs.YtcaaiphgikpgjaaGreatDoor
end

section
namespace Go.Proofs.YtcaaiphgikpgjaaGreatDoor
open Go Go.E
theorem ex_ite {α : Type} {b : Bool} {x y : Option α} (h1 : b = true → ∃ r, x = some r) (h2 : b = false → ∃ r, y = some r) : ∃ r, iteO b x y = some r := by
  cases b with
  | true => exact h1 rfl
  | false => exact h2 rfl
theorem ex_some {α : Type} (x : α) : ∃ r, some x = some r := ⟨x, rfl⟩
theorem few15_j3 (t : Fst) (i : Int) : ∃ r, Bb_ t i = some r := by
  unfold Bb_
  exact ex_ite (fun _ => ex_ite (fun _ => ex_some _) (fun _ => ex_some _)) (fun _ => ex_some _)
theorem few15_j2 (t : Fst) (i : Int) : ∃ r, Ba_ t i = some r := by
  unfold Ba_
  obtain ⟨r, h, -⟩ := iter_up (step := fun q : Int × Nat => Ai_ t q.1 q.2) (fun (s : Int) k => (s, k)) t.arcs.length (fun _ _ => True) (fun _ => True)
    (fun k s hk _ => by
      show (∃ s', Ai_ t s k = _ ∧ _) ∨ ∃ r, Ai_ t s k = _ ∧ _
      unfold Ai_
      rw [iteO_dt (by omega)]
      by_cases h : s ≤ 60
      · rw [iteO_dt h]; exact .inl ⟨_, rfl, trivial⟩
      · rw [iteO_df h]; obtain ⟨r, hr⟩ := few15_j3 t s; exact .inr ⟨r, by rw [hr]; rfl, trivial⟩)
    (fun s _ => by
      show ∃ r, Ai_ t s _ = _ ∧ _
      unfold Ai_
      rw [iteO_df (by omega)]
      obtain ⟨r, hr⟩ := few15_j3 t s; exact ⟨r, by rw [hr]; rfl, trivial⟩) (s0 := i) trivial
  exact ⟨r, h⟩
theorem few15_j1 (t : Fst) (i : Int) : ∃ r, A9_ t i = some r := by
  unfold A9_
  obtain ⟨r, h, -⟩ := iter_up (step := fun q : Int × Nat => Ak_ t q.1 q.2) (fun (s : Int) k => (s, k)) t.ends.length (fun _ _ => True) (fun _ => True)
    (fun k s hk _ => by
      show (∃ s', Ak_ t s k = _ ∧ _) ∨ ∃ r, Ak_ t s k = _ ∧ _
      unfold Ak_
      rw [iteO_dt (by omega)]
      by_cases h : s ≤ 60
      · rw [iteO_dt h]; exact .inl ⟨_, rfl, trivial⟩
      · rw [iteO_df h]; obtain ⟨r, hr⟩ := few15_j2 t s; exact .inr ⟨r, by rw [hr]; rfl, trivial⟩)
    (fun s _ => by
      show ∃ r, Ak_ t s _ = _ ∧ _
      unfold Ak_
      rw [iteO_df (by omega)]
      obtain ⟨r, hr⟩ := few15_j2 t s; exact ⟨r, by rw [hr]; rfl, trivial⟩) (s0 := i) trivial
  exact ⟨r, h⟩
theorem few15_total (t : Fst) : ∃ r, Bw_ t = some r := by
  unfold Bw_
  obtain ⟨r, h, -⟩ := iter_up (step := fun q : Int × Nat => Aj_ t q.1 q.2) (fun (s : Int) k => (s, k)) t.starts.length (fun _ _ => True) (fun _ => True)
    (fun k s hk _ => by
      show (∃ s', Aj_ t s k = _ ∧ _) ∨ ∃ r, Aj_ t s k = _ ∧ _
      unfold Aj_
      rw [iteO_dt (by omega)]
      by_cases h : s ≤ 60
      · rw [iteO_dt h]; exact .inl ⟨_, rfl, trivial⟩
      · rw [iteO_df h]; obtain ⟨r, hr⟩ := few15_j1 t s; exact .inr ⟨r, by rw [hr]; rfl, trivial⟩)
    (fun s _ => by
      show ∃ r, Aj_ t s _ = _ ∧ _
      unfold Aj_
      rw [iteO_df (by omega)]
      obtain ⟨r, hr⟩ := few15_j1 t s; exact ⟨r, by rw [hr]; rfl, trivial⟩) trivial
  exact ⟨r, h⟩
end Go.Proofs.YtcaaiphgikpgjaaGreatDoor
end

section
namespace Go.Proofs.YtcaaiphgikpgjaaGreatDoor
open Go Go.E
theorem iteO_any {α : Type} {b : Bool} {x y : Option α} {z : Option α} (h1 : b = true → x = z) (h2 : b = false → y = z) : iteO b x y = z := by
  cases b with
  | true => exact h1 rfl
  | false => exact h2 rfl
theorem alt_ok {a b : Fst} (ha : FstOk a) (hb : FstOk b) (h : GB (fAlt a b)) (hn : (fAlt a b).states ≤ 1024) : FstOk (fAlt a b) := by
  have a0 := ha.st0
  have b0 := hb.st0
  refine ⟨by show 0 ≤ a.states + b.states; omega, hn, h.aN, h.sN, h.eN, fun x hx => ⟨?_, h.s x hx⟩, fun x hx => ⟨?_, h.e x hx⟩, fun x hx => ?_⟩
  · show 0 ≤ x.state ∧ x.state < a.states + b.states
    rcases List.mem_append.1 hx with hx | hx
    · have := ha.starts x hx; omega
    · obtain ⟨y, hy, rfl⟩ := mem_shT.1 hx
      have := hb.starts y hy; dsimp only; omega
  · show 0 ≤ x.state ∧ x.state < a.states + b.states
    rcases List.mem_append.1 hx with hx | hx
    · have := ha.ends x hx; omega
    · obtain ⟨y, hy, rfl⟩ := mem_shT.1 hx
      have := hb.ends y hy; dsimp only; omega
  · show (0 ≤ x.frm ∧ x.frm < a.states + b.states) ∧ (0 ≤ x.to ∧ x.to < a.states + b.states) ∧ x.set ≠ BSet.zero ∧ x.out.length ≤ 1024
    have hl := h.a x hx
    rcases List.mem_append.1 hx with hx | hx
    · have := ha.arcs x hx; exact ⟨by omega, by omega, this.2.2.1, hl⟩
    · obtain ⟨y, hy, rfl⟩ := mem_shA.1 hx
      have := hb.arcs y hy; exact ⟨by dsimp only; omega, by dsimp only; omega, this.2.2.1, hl⟩
theorem cat_ok {a b : Fst} (ha : FstOk a) (hb : FstOk b) (h : GB (fCat a b)) (hn : (fCat a b).states ≤ 1024) : FstOk (fCat a b) := by
  have a0 := ha.st0
  have b0 := hb.st0
  refine ⟨by show 0 ≤ a.states + b.states; omega, hn, h.aN, h.sN, h.eN, fun x hx => ⟨?_, h.s x hx⟩, fun x hx => ⟨?_, h.e x hx⟩, fun x hx => ?_⟩
  · show 0 ≤ x.state ∧ x.state < a.states + b.states
    have := ha.starts x hx; omega
  · show 0 ≤ x.state ∧ x.state < a.states + b.states
    rcases List.mem_append.1 hx with hx | hx
    · obtain ⟨y, hy, rfl⟩ := mem_shT.1 hx
      have := hb.ends y hy; dsimp only; omega
    · obtain ⟨p, hp, q, hq, z, hz, -, rfl⟩ := mem_catE.1 hx
      have := ha.ends p hp; dsimp only; omega
  · show (0 ≤ x.frm ∧ x.frm < a.states + b.states) ∧ (0 ≤ x.to ∧ x.to < a.states + b.states) ∧ x.set ≠ BSet.zero ∧ x.out.length ≤ 1024
    have hl := h.a x hx
    rcases List.mem_append.1 hx with hx | hx
    · rcases List.mem_append.1 hx with hx | hx
      · have := ha.arcs x hx; exact ⟨by omega, by omega, this.2.2.1, hl⟩
      · obtain ⟨y, hy, rfl⟩ := mem_shA.1 hx
        have := hb.arcs y hy; exact ⟨by dsimp only; omega, by dsimp only; omega, this.2.2.1, hl⟩
    · obtain ⟨p, hp, q, hq, y, hy, -, rfl⟩ := mem_catA.1 hx
      have h1 := ha.ends p hp
      have h2 := hb.arcs y hy
      exact ⟨by dsimp only; omega, by dsimp only; omega, h2.2.2.1, hl⟩
def zF : Fst := ⟨0, [], [], []⟩
theorem zF_ok : FstOk zF := ⟨by decide, by decide, by decide, by decide, by decide, fun _ h => (by cases h), fun _ h => (by cases h), fun _ h => (by cases h)⟩
theorem cat_any (a b : Fst) : ∃ r, Fn_ a b = some r ∧ FstOk r.1 ∧ (r.2 ≠ 0 ∨ FstOk a ∧ FstOk b ∧ r = (fCat a b, 0) ∧ FstOk (fCat a b)) := by
  by_cases h : fstB a = true ∧ fstB b = true
  · have ha := (fstB_iff a).1 h.1
    have hb := (fstB_iff b).1 h.2
    obtain ⟨r, e, hr⟩ := cat_go ha hb
    refine ⟨r, e, ?_⟩
    rcases hr with rfl | ⟨rfl, h1, h2⟩
    · exact ⟨zF_ok, .inl (by decide)⟩
    · exact ⟨cat_ok ha hb h1 h2, .inr ⟨ha, hb, rfl, cat_ok ha hb h1 h2⟩⟩
  · refine ⟨(zF, 1), ?_, zF_ok, .inl (by decide)⟩
    unfold Fn_
    rw [both_go, bnd_mk]
    have : (fstB a && fstB b) = false := by
      rw [Bool.and_eq_false_iff]
      cases ha : fstB a
      · exact .inl rfl
      · right
        cases hb : fstB b
        · rfl
        · exact absurd ⟨ha, hb⟩ h
    rw [this]; rfl
theorem alt_any (a b : Fst) : ∃ r, Dc_ a b = some r ∧ FstOk r.1 ∧ (r.2 ≠ 0 ∨ FstOk a ∧ FstOk b ∧ r = (fAlt a b, 0) ∧ FstOk (fAlt a b)) := by
  by_cases h : fstB a = true ∧ fstB b = true
  · have ha := (fstB_iff a).1 h.1
    have hb := (fstB_iff b).1 h.2
    obtain ⟨r, e, hr⟩ := alt_go ha hb
    refine ⟨r, e, ?_⟩
    rcases hr with rfl | ⟨rfl, h1, h2⟩
    · exact ⟨zF_ok, .inl (by decide)⟩
    · exact ⟨alt_ok ha hb h1 h2, .inr ⟨ha, hb, rfl, alt_ok ha hb h1 h2⟩⟩
  · refine ⟨(zF, 1), ?_, zF_ok, .inl (by decide)⟩
    unfold Dc_
    rw [both_go, bnd_mk]
    have : (fstB a && fstB b) = false := by
      rw [Bool.and_eq_false_iff]
      cases ha : fstB a
      · exact .inl rfl
      · right
        cases hb : fstB b
        · rfl
        · exact absurd ⟨ha, hb⟩ h
    rw [this]; rfl
theorem outs16_eq (t : Fst) (w : List UInt8) (hw : w.length ≤ 256) : Am_ t w = some (if fstB t = true ∧ fitsB t w = true then (outsL t w, true) else ([], false)) := by
  unfold Am_
  rw [grd_mk (by omega), outs_eq t w (by omega), bnd_mk, if_pos hw]
  by_cases h : fstB t = true
  · by_cases h2 : fitsB t w = true
    · rw [if_pos h, if_pos h2, if_pos ⟨h, h2⟩]; rfl
    · rw [if_pos h, if_neg h2, if_neg (fun c => h2 c.2)]; rfl
  · rw [if_neg h, if_neg (fun c => h c.1)]; rfl
theorem pairs_eq (x y : List (List UInt8)) (hx : ∀ o ∈ x, o.length ≤ 1000000) (hy : ∀ o ∈ y, o.length ≤ 1000000) (hxy : x.length * y.length ≤ 1000) :
    B5_ x y = some (x.flatMap fun p => y.map fun q => p ++ q) := by
  unfold B5_
  have hlen : ∀ k, ((x.take k).flatMap fun p => y.map fun q => p ++ q).length = (x.take k).length * y.length := fun k => by
    rw [List.length_flatMap]
    have h1 : (List.map (fun p : List UInt8 => (y.map fun q => p ++ q).length) (x.take k)) = List.map (fun _ => y.length) (x.take k) := by
      refine List.map_congr_left fun p _ => ?_
      rw [List.length_map]
    rw [h1, List.map_const', List.sum_replicate_nat]
  obtain ⟨r, e, rfl⟩ := iter_up (step := fun q : (List (List UInt8)) × Nat => Ah_ x y q.1 q.2) (fun (s : List (List UInt8)) k => (s, k)) x.length (fun k s => s = (x.take k).flatMap fun p => y.map fun q => p ++ q) (fun r => r = x.flatMap fun p => y.map fun q => p ++ q)
    (fun k s hk hI => by
      subst hI
      have hp := hx _ (nth_mem' hk [])
      have h0 := hlen k
      have h2 := hlen (k + 1)
      have h3 : (x.take (k + 1)).length * y.length ≤ x.length * y.length := Nat.mul_le_mul_right _ (by rw [List.length_take]; omega)
      have h4 : (x.take k).length * y.length + y.length = (x.take (k + 1)).length * y.length := by
        rw [List.length_take, List.length_take, Nat.min_eq_left (by omega), Nat.min_eq_left (by omega), Nat.add_mul]; omega
      refine .inl ⟨_, ?_, rfl⟩
      show Ah_ x y _ k = _
      unfold Ah_
      rw [iteO_dt (by omega)]
      obtain ⟨r, e, rfl⟩ := iter_up (step := fun q : (List (List UInt8)) × Nat => Ag_ y x k q.1 q.2) (fun (s : List (List UInt8)) j => (s, j)) y.length (fun j s => s = ((x.take k).flatMap fun p => y.map fun q => p ++ q) ++ (y.take j).map fun q => nth x k [] ++ q)
        (fun r => r = .inl ((x.take (k + 1)).flatMap (fun p => y.map fun q => p ++ q), k + 1))
        (fun j s hj hI => by
          subst hI
          have hq := hy _ (nth_mem' hj [])
          refine .inl ⟨_, ?_, rfl⟩
          show Ag_ y x k _ j = _
          unfold Ag_
          rw [iteO_dt (by omega), grd_mk (by omega), grd_mk (by rw [List.length_append, List.length_map, List.length_take, List.length_singleton]; omega), take_snoc y hj []]
          simp [nxt])
        (fun s hI => by
          subst hI
          refine ⟨_, ?_, rfl⟩
          show Ag_ y x k _ y.length = _
          unfold Ag_
          rw [iteO_df (by omega), List.take_length, take_snoc x hk []]
          simp [nxt, fin]) (s0 := (x.take k).flatMap fun p => y.map fun q => p ++ q) (by simp)
      exact e)
    (fun s hI => by
      subst hI
      refine ⟨_, ?_, rfl⟩
      show Ah_ x y _ x.length = _
      unfold Ah_
      rw [iteO_df (by omega), List.take_length]; rfl) (s0 := []) rfl
  exact e
theorem outsL_small {t : Fst} (ht : FstOk t) {w : List UInt8} (hw : w.length ≤ 256) : ∀ o ∈ outsL t w, o.length ≤ 300000 := fun o ho => by
  have := (mem_outs_rel.1 ho).len ht
  have := Nat.mul_le_mul_right 1025 hw
  omega
theorem fits_card {t : Fst} (ht : FstOk t) {w : List UInt8} (h : fitsB t w = true) : card (pairsL t w) ≤ 4096 := by
  by_cases h0 : w.length = 0
  · rw [List.length_eq_zero_iff.1 h0]; exact card_start ht
  · rw [fitsB, List.all_eq_true] at h
    have := of_decide_eq_true (h (w.length - 1) (List.mem_range.2 (by omega)))
    rwa [show w.length - 1 + 1 = w.length by omega, List.take_length] at this
theorem outsL_len {t : Fst} (ht : FstOk t) {w : List UInt8} (h : fitsB t w = true) : (outsL t w).length ≤ 4194304 := by
  obtain ⟨l, h1, h2, h3⟩ := FM.ofL_len (pairsL t w)
  have hn : (outsL t w).Nodup := List.nodup_iff_pairwise_ne.2 ((outsL_rise t w).imp fun {x y} hlt e => by
    subst e
    have := (cmpB_good.eq x x).2 rfl
    omega)
  have h4 := len_of_sub (m := l.flatMap fun p => t.ends.map fun e => p.out ++ e.out) hn (fun o ho => by
    obtain ⟨p, hp, e, he, -, rfl⟩ := mem_outsL.1 ho
    exact List.mem_flatMap.2 ⟨p, (h2 p).2 hp, List.mem_map.2 ⟨e, he, rfl⟩⟩)
  have h5 : (l.flatMap fun p => t.ends.map fun e => p.out ++ e.out).length = l.length * t.ends.length := by
    rw [List.length_flatMap]
    have : (List.map (fun p : FPair => (t.ends.map fun e => p.out ++ e.out).length) l) = List.map (fun _ => t.ends.length) l := by
      refine List.map_congr_left fun p _ => ?_
      rw [List.length_map]
    rw [this, List.map_const', List.sum_replicate_nat]
  have h6 := Nat.mul_le_mul (show l.length ≤ 4096 from h3 ▸ fits_card ht h) ht.endsN
  omega
theorem wrap_mul {a b : Nat} (ha : a ≤ 4194304) (hb : b ≤ 4194304) : IntKind.i64.wrap (((a : Nat) : Int) * ((b : Nat) : Int)) = ((a * b : Nat) : Int) := by
  have h := Nat.mul_le_mul ha hb
  rw [← Int.natCast_mul]
  exact wrap64_of (by omega) (by omega)
end Go.Proofs.YtcaaiphgikpgjaaGreatDoor
end

section
namespace Go.Proofs.YtcaaiphgikpgjaaGreatDoor
open Go Go.E
def dltN (d : Dfa) (s : Int) (b : Nat) : Int := nth (nth d.next s.toNat ([] : List Int)) ((nth d.cls b (0 : Int)).toNat) (0 : Int)
theorem dlt_N (d : Dfa) (s : Int) (b : UInt8) : dltN d s b.toNat = dlt d s b := rfl
def lset (d : Dfa) (y : Int) (s : BSet) (z : Int) : BSet := BSet.make fun b => s.has b && decide (dltN d y b = z)
theorem lset_has {d : Dfa} {y z : Int} {s : BSet} {b : UInt8} : (lset d y s z).has b.toNat = true ↔ s.has b.toNat = true ∧ dlt d y b = z := by
  unfold lset
  rw [BSet.make_has _ (UInt8.toNat_lt b), dlt_N, Bool.and_eq_true, decide_eq_true_eq]
theorem hasZ (b : Nat) (hb : b < 256) : BSet.zero.has b = false := by
  rw [← BSet.make_zero, BSet.make_has _ hb]
theorem lset_ne {d : Dfa} {y z : Int} {s : BSet} {b : UInt8} (h : s.has b.toNat = true) (h2 : dlt d y b = z) : lset d y s z ≠ BSet.zero := fun e => by
  have h3 := lset_has.2 ⟨h, h2⟩
  rw [e, hasZ _ (UInt8.toNat_lt b)] at h3; cases h3
def limS (n : Nat) (l : List Tip) : List Tip := l.map fun x => ⟨x.state * ((n : Nat) : Int), x.out⟩
def limE1 (d : Dfa) (x : Tip) : List Tip := ((List.range d.next.length).filter fun y => nth d.fin y false).map fun y => ⟨x.state * ((d.next.length : Nat) : Int) + ((y : Nat) : Int), x.out⟩
def limE (d : Dfa) (l : List Tip) : List Tip := l.flatMap (limE1 d)
def limZ (d : Dfa) (x : Arc) (y : Nat) : List Arc := ((List.range d.next.length).filter fun z => decide (lset d ((y : Nat) : Int) x.set ((z : Nat) : Int) ≠ BSet.zero)).map fun z =>
  ⟨x.frm * ((d.next.length : Nat) : Int) + ((y : Nat) : Int), x.to * ((d.next.length : Nat) : Int) + ((z : Nat) : Int), lset d ((y : Nat) : Int) x.set ((z : Nat) : Int), x.out, x.copy⟩
def limY (d : Dfa) (x : Arc) (k : Nat) : List Arc := (List.range k).flatMap (limZ d x)
def limA (d : Dfa) (l : List Arc) : List Arc := l.flatMap fun x => limY d x d.next.length
def fLim (t : Fst) (d : Dfa) : Fst := ⟨t.states * ((d.next.length : Nat) : Int), limS d.next.length t.starts, limE d t.ends, limA d t.arcs⟩
theorem mem_limS {n : Nat} {l : List Tip} {a : Tip} : a ∈ limS n l ↔ ∃ x ∈ l, a = ⟨x.state * ((n : Nat) : Int), x.out⟩ := by
  unfold limS; rw [List.mem_map]
  exact ⟨fun ⟨x, h, e⟩ => ⟨x, h, e.symm⟩, fun ⟨x, h, e⟩ => ⟨x, h, e.symm⟩⟩
theorem mem_limE {d : Dfa} {l : List Tip} {a : Tip} : a ∈ limE d l ↔ ∃ x ∈ l, ∃ y : Nat, y < d.next.length ∧ nth d.fin y false = true ∧ a = ⟨x.state * ((d.next.length : Nat) : Int) + ((y : Nat) : Int), x.out⟩ := by
  unfold limE limE1
  simp only [List.mem_flatMap, List.mem_map, List.mem_filter, List.mem_range]
  exact ⟨fun ⟨x, hx, y, ⟨h1, h2⟩, e⟩ => ⟨x, hx, y, h1, h2, e.symm⟩, fun ⟨x, hx, y, h1, h2, e⟩ => ⟨x, hx, y, ⟨h1, h2⟩, e.symm⟩⟩
theorem mem_limA {d : Dfa} {l : List Arc} {a : Arc} : a ∈ limA d l ↔ ∃ x ∈ l, ∃ y : Nat, y < d.next.length ∧ ∃ z : Nat, z < d.next.length ∧ lset d ((y : Nat) : Int) x.set ((z : Nat) : Int) ≠ BSet.zero ∧
    a = ⟨x.frm * ((d.next.length : Nat) : Int) + ((y : Nat) : Int), x.to * ((d.next.length : Nat) : Int) + ((z : Nat) : Int), lset d ((y : Nat) : Int) x.set ((z : Nat) : Int), x.out, x.copy⟩ := by
  unfold limA limY limZ
  simp only [List.mem_flatMap, List.mem_map, List.mem_filter, List.mem_range, decide_eq_true_eq]
  exact ⟨fun ⟨x, hx, y, hy, z, ⟨h1, h2⟩, e⟩ => ⟨x, hx, y, hy, z, h1, h2, e.symm⟩, fun ⟨x, hx, y, hy, z, h1, h2, e⟩ => ⟨x, hx, y, hy, z, ⟨h1, h2⟩, e.symm⟩⟩
theorem two_inj {n s s' y y' : Int} (h0 : 0 ≤ y ∧ y < n) (h1 : 0 ≤ y' ∧ y' < n) (h : s * n + y = s' * n + y') : s = s' ∧ y = y' := by
  have hn : n ≠ 0 := by omega
  have e1 : (y + s * n) / n = s := by rw [Int.add_mul_ediv_right _ _ hn, Int.ediv_eq_zero_of_lt h0.1 h0.2, Int.zero_add]
  have e2 : (y' + s' * n) / n = s' := by rw [Int.add_mul_ediv_right _ _ hn, Int.ediv_eq_zero_of_lt h1.1 h1.2, Int.zero_add]
  have e3 : s = s' := by rw [← e1, ← e2, Int.add_comm y, Int.add_comm y', h]
  subst e3
  exact ⟨rfl, by omega⟩
theorem okS_nat {d : Dfa} {y : Int} (h : okS d y) : ∃ k : Nat, y = ((k : Nat) : Int) ∧ k < d.next.length := by
  obtain ⟨h1, h2⟩ := h
  exact ⟨y.toNat, by omega, by omega⟩
theorem runD_cons (d : Dfa) (y : Int) (b : UInt8) (w : List UInt8) : runD d y (b :: w) = runD d (dlt d y b) w := rfl
theorem lim_fwd {t : Fst} {d : Dfa} (hd : rightD d = true) {s q : Int} {w o : List UInt8} (h : Wy t s w o q) : ∀ y, okS d y → Wy (fLim t d) (s * ((d.next.length : Nat) : Int) + y) w o (q * ((d.next.length : Nat) : Int) + runD d y w) := by
  induction h with
  | nil s => exact fun y _ => .nil _
  | @cons w o q a b ha hb hw ih =>
    intro y hy
    have hs := (dlt_ok hd hy b).nx
    have k := ih _ hs
    obtain ⟨i, rfl, hi⟩ := okS_nat hy
    obtain ⟨j, ej, hj⟩ := okS_nat hs
    rw [runD_cons]
    have hA : (⟨a.frm * ((d.next.length : Nat) : Int) + ((i : Nat) : Int), a.to * ((d.next.length : Nat) : Int) + dlt d ((i : Nat) : Int) b, lset d ((i : Nat) : Int) a.set (dlt d ((i : Nat) : Int) b), a.out, a.copy⟩ : Arc) ∈ (fLim t d).arcs :=
      mem_limA.2 ⟨a, ha, i, hi, j, hj, by rw [← ej]; exact lset_ne hb rfl, by rw [ej]⟩
    exact Wy.cons (t := fLim t d) _ b hA (lset_has.2 ⟨hb, rfl⟩) k
theorem lim_back {t : Fst} {d : Dfa} {s' q' : Int} {w o : List UInt8} (h : Wy (fLim t d) s' w o q') : ∀ s y, okS d y → s' = s * ((d.next.length : Nat) : Int) + y → okS d (runD d y w) ∧ ∃ q, q' = q * ((d.next.length : Nat) : Int) + runD d y w ∧ Wy t s w o q := by
  induction h with
  | nil s' => exact fun s y hy e => ⟨hy, s, e, .nil s⟩
  | @cons w o q' a b ha hb hw ih =>
    intro s y hy e
    obtain ⟨x, hx, i, hi, j, hj, hz, rfl⟩ := mem_limA.1 ha
    dsimp only at hb ih e
    obtain ⟨h1, h2⟩ := lset_has.1 hb
    obtain ⟨rfl, rfl⟩ := two_inj ⟨Int.natCast_nonneg i, by omega⟩ hy e
    obtain ⟨h3, q, h4, h5⟩ := ih x.to ((j : Nat) : Int) ⟨Int.natCast_nonneg j, by omega⟩ rfl
    rw [runD_cons, h2]
    exact ⟨h3, q, h4, Wy.cons x b hx h1 h5⟩
theorem rel_lim {t : Fst} {d : Dfa} (hd : rightD d = true) {w o : List UInt8} : Rel (fLim t d) w o ↔ Rel t w o ∧ nth d.fin (runD d 0 w).toNat false = true := by
  have h0 := ok0 hd
  constructor
  · rintro ⟨x', hx', e', he', m, hw, rfl⟩
    obtain ⟨x, hx, rfl⟩ := mem_limS.1 hx'
    obtain ⟨e, he, y, hy, hf, rfl⟩ := mem_limE.1 he'
    dsimp only at hw ⊢
    obtain ⟨h1, q, h2, h3⟩ := lim_back hw x.state 0 h0 (by omega)
    obtain ⟨rfl, h5⟩ := two_inj ⟨Int.natCast_nonneg y, by omega⟩ h1 h2
    refine ⟨⟨x, hx, e, he, m, h3, rfl⟩, ?_⟩
    rw [← h5, Int.toNat_natCast]; exact hf
  · rintro ⟨⟨x, hx, e, he, m, hw, rfl⟩, hf⟩
    have k := lim_fwd hd hw 0 h0
    rw [Int.add_zero] at k
    obtain ⟨j, ej, hj⟩ := okS_nat (runD_ok hd w h0)
    rw [ej] at hf k
    rw [Int.toNat_natCast] at hf
    exact ⟨_, mem_limS.2 ⟨x, hx, rfl⟩, _, mem_limE.2 ⟨e, he, j, hj, hf, rfl⟩, m, k, rfl⟩
theorem in_two {n s y m : Int} (hs : 0 ≤ s ∧ s < m) (hy : 0 ≤ y ∧ y < n) : 0 ≤ s * n + y ∧ s * n + y < m * n := by
  have h1 : 0 ≤ s * n := Int.mul_nonneg hs.1 (by omega)
  have h2 : (s + 1) * n ≤ m * n := Int.mul_le_mul_of_nonneg_right (by omega) (by omega)
  rw [Int.add_mul, Int.one_mul] at h2
  omega
end Go.Proofs.YtcaaiphgikpgjaaGreatDoor
end

section
namespace Go.Proofs.YtcaaiphgikpgjaaGreatDoor
open Go Go.E Go.E.OpVal Go.E.OpOk Go.Proofs.Tryz
private theorem ag27 : Go.E.aggOf Tryz.prog 27 = some false := by kernel_rfl
private theorem fo30_0 : Go.E.foOf Tryz.prog 30 0 = some 0 := by kernel_rfl
private theorem fo30_1 : Go.E.foOf Tryz.prog 30 1 = some 1 := by kernel_rfl
private theorem pf54 : Go.E.plainF Tryz.prog 54 = true := by kernel_rfl
private theorem pf55 : Go.E.plainF Tryz.prog 55 = true := by kernel_rfl
private theorem sz26 : Go.E.szOf Tryz.prog 26 = some 1 := by kernel_rfl
noncomputable def Ej_ (k113 : Nat) (m115 : FM Int BSet) : Option (((FM Int BSet) × Nat) ⊕ ((FM Int BSet))) :=
 nxt (m115, (k113 + 1))
noncomputable def Bt_ (x0 : Dfa) (x2 : BSet) (x1 : Int) (m112 : FM Int BSet) (k113 : Nat) : Option (((FM Int BSet) × Nat) ⊕ ((FM Int BSet))) :=
 iteO (decide (((k113 : Nat) : Int) < ((x0.cls.length : Nat) : Int))) (iteO (x2.has (toU8 ((k113 : Nat) : Int)).toNat) (grd (0 ≤ x1 ∧ x1 < (x0.next.length : Int)) (grd (0 ≤ (nth x0.cls k113 (0 : Int)) ∧ (nth x0.cls k113 (0 : Int)) < ((nth x0.next x1.toNat ([] : List Int)).length : Int)) (grd ([(toU8 ((k113 : Nat) : Int))].length ≤ 1000000000000) (bnd (Df_ (m112.get (nth (nth x0.next x1.toNat ([] : List Int)) ((nth x0.cls k113 (0 : Int)).toNat) (0 : Int)) BSet.zero) (BSet.ofL [(toU8 ((k113 : Nat) : Int))])) (fun v38 => Ej_ k113 (m112.put (nth (nth x0.next x1.toNat ([] : List Int)) ((nth x0.cls k113 (0 : Int)).toNat) (0 : Int)) v38)))))) (Ej_ k113 m112)) (fin (some m112))
noncomputable def F3_ (x0 : Dfa) (x1 : Int) (x2 : BSet) : Option ((FM Int BSet)) :=
 iter (fun q : (FM Int BSet) × Nat => Bt_ x0 x2 x1 q.1 q.2) ((FM.emp : FM Int BSet), 0)
theorem H7_ {σ : Store} {x0 : Dfa} {a0_0 : Option Addr} {c0_0 : Nat} {a0_1 : Option Addr} {c0_1 : Nat} {a0_2 : Option Addr} {c0_2 : Nat} {x1 : Int} {x2 : BSet} (f0_0 : RS σ 1 Go.E.encI (.slice a0_0 x0.cls.length c0_0) x0.cls) (f0_1 : RZ σ (pkSl 1 Go.E.encI Go.E.encI_len) (.slice a0_1 x0.next.length c0_1) x0.next) (f0_2 : RS σ 1 encB (.slice a0_2 x0.fin.length c0_2) x0.fin) {r : (FM Int BSet)} (hh : F3_ x0 x1 x2 = some r) :
  Con Tryz.prog 29 #[.agg #[.slice a0_0 x0.cls.length c0_0, .slice a0_1 x0.next.length c0_1, .slice a0_2 x0.fin.length c0_2], .int .i64 x1, setV x2] σ [] (fun v σ' H' => ∃ (br1 : Option Nat), v = .map br1 ∧ σ = σ' ∧ H' = [Res.mapB keyI setV br1 r]) := by
 dsimp only [F3_] at hh
 have f0_0b := f0_0.rv.big
 have f0_1b := f0_1.big
 have f0_2b := f0_2.rv.big
 refine Con.mk (n := 44) Tryz.func29 z z z (fun w0 => ?_)
 refine TC.a (TL.op z (boxA z z z z (fun b102 => ?_)))
 refine TL.op z (boxA z z z z (fun b104 => ?_))
 refine TL.w z (moveMap (.inr z) z) (TL.en (TC.a (TL.op z (makeMapB (enc := keyI) (encV := setV) z z z (fun b106 => ?_)))))
 refine TL.w z (moveMap (.inr z) z) (TL.en (TC.seq (TC.a (TL.w z (fieldLoc z fo30_0 z) (TL.w z (loadLoc z ag26 z (i := 2) z z) (TL.w z (lenC z underlying26 z) (TL.i z z (TL.en (TC.block (TC.loopG (α := ((FM Int BSet) × Nat) × (Unit)) (rgs [(8, 3), (15, 28)]) (fun g => [(15, .int .i64 ((g.1.2 : Nat) : Int))]) (fun g => [Res.cells b102 #[.slice a0_0 x0.cls.length c0_0, .slice a0_1 x0.next.length c0_1, .slice a0_2 x0.fin.length c0_2] 30, Res.cells b104 (setA x2) 57, Res.mapB keyI setV (some b106) g.1.1]) (fun g => σ) (fun g => iter (fun q : (FM Int BSet) × Nat => Bt_ x0 x2 x1 q.1 q.2) g.1 = some r) (fun g => rounds (fun q : (FM Int BSet) × Nat => Bt_ x0 x2 x1 q.1 q.2) g.1) (((FM.emp : FM Int BSet), 0), ()) (Sub.f [1, 2] 3) z (by repeat (first | exact trivial | refine ⟨z, ?_⟩)) hh (fun g1 j1 hg1 => ?_)))))))))))
 obtain ⟨⟨m112, k113⟩, _⟩ := g1
 have hh := hg1; clear hg1
 try dsimp only
 obtain ⟨z1, hh, hR1⟩ := iter_e hh
 dsimp only [Bt_] at hh
 refine TC.a (TL.w z (OpVal.lss z z z) (TL.en (TC.seq (TC.cD z hh (fun h114 hh => ?_) (fun h114 hh => ?_)))))
 ·refine TC.skip (S.n (TC.cutG (α := ((FM Int BSet)) × (Unit)) (rgs [(8, 3), (17, 25)]) (fun g => []) (fun g => [Res.cells b102 #[.slice a0_0 x0.cls.length c0_0, .slice a0_1 x0.next.length c0_1, .slice a0_2 x0.fin.length c0_2] 30, Res.cells b104 (setA x2) 57, Res.mapB keyI setV (some b106) g.1]) (fun g => σ) (fun g => Ej_ k113 g.1 = some z1) ?_ (fun g j hg => ?_)))
  ·skip
   refine TC.block (TC.a (TL.i z z (TL.w z (indexN z underlying26 sz3 z z f0_0.rv.sl (by omega)) (TL.w z (loadS1 (0 : Int) z ag3 z f0_0 (by omega) z) (TL.i z z (TL.i z z (TL.en (TC.a (TL.w z (loadAll z ag57 sz57 z (i := 1) z z) (TL.i z z (TL.w z (convU8 z underlying3 underlying5 z) (TL.op z (callP (has_con _ x2 (toU8 ((k113 : Nat) : Int)).toNat (BSet.isOk _) (UInt8.toNat_lt _)) z z pf54 z z z ?_)))))))))))))
   refine TL.en (TC.cB z hh (fun h116 hh => ?_) (fun h116 hh => ?_))
   ·refine TC.a (TL.w z (fieldLoc z fo30_1 z) (TL.w z (loadLoc z ag27 z (i := 0) z z) (TL.i z z ?_)))
    have u23 := grd_c hh
    replace hh := grd_t hh
    refine TL.w z (OpVal.index z underlying27 sz26 z z f0_1.isSl u23.1 u23.2) ?_
    obtain ⟨p117, hk117, hg117⟩ := RZ.seg f0_1 x1.toNat (by omega)
    replace hk117 : RS _ 1 Go.E.encI (.slice p117.1 (nth x0.next x1.toNat ([] : List Int)).length p117.2) (nth x0.next x1.toNat ([] : List Int)) := hk117
    have hk117b := hk117.rv.big
    refine TL.w z (OpVal.of (loadSeg0 z ag26 z hg117 z) (v' := .slice p117.1 ((nth x0.next x1.toNat ([] : List Int)).length) p117.2) z) (TL.i z z ?_)
    have u26 := grd_c hh
    replace hh := grd_t hh
    refine TL.w z (OpVal.index z underlying26 sz3 z z hk117.rv.sl u26.1 u26.2) (TL.w z (loadS1 (0 : Int) z ag3 z hk117 (by omega) z) (TL.i z z (TL.en ?_)))
    have u37 := grd_c hh
    replace hh := grd_t hh
    obtain ⟨v38, u38, hh⟩ := bnd_e hh
    refine TC.draw [10] (by kernel_rfl) (TA.a 0 z (moveMap (.inl z) z) z (TA.a 1 z (moveI (.inl z) z) z (TA.a 2 z (moveMap (.inl z) z) z (TA.a 3 z (moveI (.inl z) z) z (TA.b 4 z (OpVal.of (lookB1 BSet.zero (q := (nth (nth x0.next x1.toNat ([] : List Int)) ((nth x0.cls k113 (0 : Int)).toNat) (0 : Int))) z underlying72 ze57 z (i := 2) z z (keyL_int underlying3)) (v' := setV (m112.get (nth (nth x0.next x1.toNat ([] : List Int)) ((nth x0.cls k113 (0 : Int)).toNat) (0 : Int)) BSet.zero)) z) z (TA.a 5 z (moveI (.inl z) z) z (TA.a 6 z (convU8 z underlying3 underlying5 z) z (TA.ac 7 z (OpOk.lit (enc := encU8) [(toU8 ((k113 : Nat) : Int))] z underlying53 sz5 ze5 z z z encU8_len (by decide) (by decide) (0 : UInt8) z (by decide) z (by decide) encU8_one (fun a121 c122 => (k1 ?_)))))))))))
    refine TA.ac 8 z (callT (of_con _ _ _ [(toU8 ((k113 : Nat) : Int))] u37) z z pf23 z z z z (k0 ?_))
    refine TA.ac 9 z (callP (F0_ u38) z z pf55 z z z (k0 ?_))
    refine TA.front 2 z z (TA.last 10 (by kernel_rfl) z z z (updB (nth (nth x0.next x1.toNat ([] : List Int)) ((nth x0.cls k113 (0 : Int)).toNat) (0 : Int)) v38 z underlying72 z z z z (keyL_int underlying3) ?_))
    exact TZ.done (by kernel_rfl) (B.n (S.n (cf ((m112.put (nth (nth x0.next x1.toNat ([] : List Int)) ((nth x0.cls k113 (0 : Int)).toNat) (0 : Int)) v38), ()) hh (Sub.f [2, 2] 3))))
   ·exact TC.skip (B.n (S.n (cf (m112, ()) hh (Sub.f [2, 2, 2] 3))))
  ·skip
   obtain ⟨m115, _⟩ := g
   have hh := hg; clear hg
   try dsimp only
   dsimp only [Ej_] at hh
   refine TC.region (TL.w z (OpVal.succ z z z (by omega)) (TL.i z z (TL.en ?_)))
   obtain ⟨hh, hlt124⟩ := nxt_x hR1 hh
   exact lf ((m115, (k113 + 1)), ()) hlt124 hh (Sub.f [2, 2, 2] 3)
 ·refine TC.exit (S.x (S.x ?_))
  replace hh := fin_x hR1 hh
  refine TC.exitHere (S.n (TC.a (TL.w z (moveMap (.inl z) z) (TL.w z (moveMap (.inr z) z) (TL.en (TC.ofSub (Sub.f [2] 1) (TC.ret ?_)))))))
  obtain rfl := so hh
  exact ro [Res.mapB keyI setV (some b106) m112] z (RVs.tmp z RVs.nil) ⟨(some b106), z, z, z⟩
end Go.Proofs.YtcaaiphgikpgjaaGreatDoor
end

section
namespace Go.Proofs.YtcaaiphgikpgjaaGreatDoor
open Go Go.Shelf
def layK_ren : Go.Shelf.Ren := ⟨fun | 7 => 31 | 10 => 58 | n => n, fun | 23 => 72 | 26 => 3 | 3 => 57 | 28 => 76 | 0 => 0 | 27 => 75 | 33 => 113 | 4 => 4 | n => n, fun | n => n⟩
theorem layK : Go.Proofs.SlLaysZI.n7 Tryz.prog layK_ren := {
  mixed := by kernel_rfl,
  f7 := ⟨Tryz.f31.name, by decide, Tryz.func31.trans (congrArg some (by kernel_rfl))⟩,
  f10 := ⟨Tryz.f58.name, by decide, Tryz.func58.trans (congrArg some (by kernel_rfl))⟩,
  t0 := Tryz.underlying0,
  a0 := Tryz.isAgg0,
  z0 := Tryz.sizeOf0,
  v0 := Tryz.zeroValue0,
  t4 := Tryz.underlying4,
  a4 := Tryz.isAgg4,
  z4 := Tryz.sizeOf4,
  v4 := Tryz.zeroValue4,
  t23 := Tryz.underlying72,
  a23 := Tryz.isAgg72,
  z23 := Tryz.sizeOf72,
  v23 := Tryz.zeroValue72,
  t26 := Tryz.underlying3,
  a26 := Tryz.isAgg3,
  z26 := Tryz.sizeOf3,
  v26 := Tryz.zeroValue3,
  t27 := Tryz.underlying75,
  a27 := Tryz.isAgg75,
  z27 := Tryz.sizeOf75,
  v27 := Tryz.zeroValue75,
  t28 := Tryz.underlying76,
  a28 := Tryz.isAgg76,
  z28 := Tryz.sizeOf76,
  v28 := Tryz.zeroValue76,
  t33 := Tryz.underlying113,
  a33 := Tryz.isAgg113,
  z33 := Tryz.sizeOf113,
  v33 := Tryz.zeroValue113 }
def layK1_ren : Go.Shelf.Ren := ⟨fun | 10 => 58 | n => n, fun | 33 => 113 | 23 => 72 | 0 => 0 | 4 => 4 | 26 => 3 | 3 => 57 | n => n, fun | n => n⟩
theorem layK1 : Go.Proofs.SlLaysZI.n10 Tryz.prog layK1_ren := {
  mixed := by kernel_rfl,
  f10 := ⟨Tryz.f58.name, by decide, Tryz.func58.trans (congrArg some (by kernel_rfl))⟩,
  t0 := Tryz.underlying0,
  a0 := Tryz.isAgg0,
  z0 := Tryz.sizeOf0,
  v0 := Tryz.zeroValue0,
  t4 := Tryz.underlying4,
  a4 := Tryz.isAgg4,
  z4 := Tryz.sizeOf4,
  v4 := Tryz.zeroValue4,
  t23 := Tryz.underlying72,
  a23 := Tryz.isAgg72,
  z23 := Tryz.sizeOf72,
  v23 := Tryz.zeroValue72,
  t26 := Tryz.underlying3,
  a26 := Tryz.isAgg3,
  z26 := Tryz.sizeOf3,
  v26 := Tryz.zeroValue3,
  t33 := Tryz.underlying113,
  a33 := Tryz.isAgg113,
  z33 := Tryz.sizeOf113,
  v33 := Tryz.zeroValue113 }
def layK6_ren : Go.Shelf.Ren := ⟨fun | 6 => 30 | 8 => 56 | 9 => 57 | 11 => 78 | 13 => 80 | 12 => 79 | 23 => 127 | 24 => 128 | 14 => 118 | 15 => 119 | 16 => 120 | 17 => 121 | 18 => 122 | 19 => 123 | 20 => 124 | 21 => 125 | 22 => 126 | 25 => 147 | 26 => 148 | 27 => 149 | 28 => 150 | 29 => 151 | 30 => 130 | 31 => 178 | n => n, fun | 26 => 3 | 28 => 76 | 24 => 26 | 0 => 0 | 3 => 3 | 37 => 150 | 48 => 210 | 50 => 55 | 4 => 4 | 40 => 203 | 39 => 202 | 45 => 207 | 5 => 5 | 9 => 9 | 51 => 232 | 55 => 236 | 57 => 256 | 58 => 257 | 33 => 113 | n => n, fun | n => n⟩
theorem layK6 : Go.Proofs.SlLaysZI.n6 Tryz.prog layK6_ren := {
  mixed := by kernel_rfl,
  f6 := ⟨Tryz.f30.name, by decide, Tryz.func30.trans (congrArg some (by kernel_rfl))⟩,
  f8 := ⟨Tryz.f56.name, by decide, Tryz.func56.trans (congrArg some (by kernel_rfl))⟩,
  f11 := ⟨Tryz.f78.name, by decide, Tryz.func78.trans (congrArg some (by kernel_rfl))⟩,
  t0 := Tryz.underlying0,
  a0 := Tryz.isAgg0,
  z0 := Tryz.sizeOf0,
  v0 := Tryz.zeroValue0,
  t24 := Tryz.underlying26,
  a24 := Tryz.isAgg26,
  z24 := Tryz.sizeOf26,
  v24 := Tryz.zeroValue26,
  t26 := Tryz.underlying3,
  a26 := Tryz.isAgg3,
  z26 := Tryz.sizeOf3,
  v26 := Tryz.zeroValue3,
  t28 := Tryz.underlying76,
  a28 := Tryz.isAgg76,
  z28 := Tryz.sizeOf76,
  v28 := Tryz.zeroValue76,
  i26 := by kernel_rfl }
end Go.Proofs.YtcaaiphgikpgjaaGreatDoor
end

section
namespace Go.E
open Go
def _root_.Go.Result.w {α : Type} : Result α → World
  | .ok _ w => w
  | .halt _ w => w
theorem viewStore_drawn {p : Program} {w : World} {at_ u a v b} {r : World × List Addr} (h : w.viewStore p at_ u a v b = .ok r) : r.1.drawn = w.drawn := by
  unfold World.viewStore at h
  simp only [bind, Except.bind, pure, Except.pure] at h
  repeat (split at h <;> try (cases h; done))
  all_goals (first | (cases h; rfl) | skip)
theorem farStore_drawn {p : Program} {w : World} {a v b} {r : World × List Addr} (h : w.farStore p a v b = .ok r) : r.1.drawn = w.drawn := by
  unfold World.farStore at h
  split at h
  · split at h
    · rename_i h2; cases h; exact viewStore_drawn h2
    · cases h
  · cases h
theorem ask_drawn {α : Type} : ∀ (a : Ask α) (w : World), w.drawn ≤ (w.ask a).2.drawn := by
  intro a
  induction a with
  | done a => intro w; exact Nat.le_refl _
  | ask what range k ih =>
    intro w
    unfold World.ask
    dsimp only
    split
    · exact ih _ w
    · exact Nat.le_trans (Nat.le_succ _) (ih _ { w with drawn := w.drawn + 1 })
theorem sys_drawn (w : World) (c : Sys) : w.drawn ≤ (w.sys c).2.drawn := by
  unfold World.sys
  have := ask_drawn (Kernel.perform c w.os) w
  split
  · exact Nat.le_refl _
  · rename_i h; rw [h] at this; exact this
theorem run_drawn {α : Type} (p : Program) : ∀ (m : Sem α) (w : World), w.drawn ≤ (m.run p w).w.drawn := by
  intro m
  induction m with
  | pure a => intro w; exact Nat.le_refl _
  | load m a k ih =>
    intro w; unfold Sem.run
    split
    · exact ih _ w
    · split
      · exact ih _ w
      · exact Nat.le_refl _
  | store m a v k ih =>
    intro w
    have go : w.drawn ≤ (match w.cell? a with
        | some _ => if w.frozen? a then Result.halt (.unsupported (.unsafePointer "a write to bytes that a string shares")) w else k.run p (w.setCell a v)
        | none => match w.farStore p a v (m == Mode.atomic) with
          | .ok (w, _) => k.run p w
          | .error h => .halt h w).w.drawn := by
      split
      · split
        · exact Nat.le_refl _
        · exact ih (w.setCell _ _)
      · split
        · rename_i h; have := farStore_drawn h; dsimp only at this; rw [← this]; exact ih _
        · exact Nat.le_refl _
    cases v <;> first | exact go | exact Nat.le_refl _
  | new o k ih => intro w; exact ih _ { w with heap := w.heap.push o }
  | shape r k ih => intro w; exact ih _ _
  | freeze a n k ih =>
    intro w
    have h : (w.freeze a n).drawn = w.drawn := by unfold World.freeze; split <;> rfl
    show _ ≤ (k.run p (w.freeze a n)).w.drawn
    rw [← h]; exact ih _
  | frozen a k ih => intro w; exact ih _ _
  | getObj r k ih => intro w; unfold Sem.run; split <;> first | exact Nat.le_refl _ | exact ih _ w
  | setObj r o k ih => intro w; unfold Sem.run; split <;> first | exact Nat.le_refl _ | exact ih { w with heap := w.heap.setIfInBounds r o }
  | choose q k ih =>
    intro w; unfold Sem.run
    split
    · exact ih _ w
    · exact Nat.le_trans (Nat.le_succ _) (ih _ { w with drawn := w.drawn + 1 })
  | sys c k ih => intro w; exact Nat.le_trans (sys_drawn w c) (ih _ _)
  | program k ih => intro w; exact ih _ _
  | mark m k ih => intro w; exact ih _
  | halt h => intro w; exact Nat.le_refl _
theorem runT_drawn {α : Type} (p : Program) (m : Sem α) (w : World) (es : Array Event) : w.drawn ≤ (m.runT p w es).1.w.drawn := by
  rw [Sem.runT_fst]; exact run_drawn p m w
theorem runT_w {α : Type} {p : Program} {m : Sem α} {w : World} {es es' : Array Event} {r : Result α} (h : m.runT p w es = (r, es')) : w.drawn ≤ r.w.drawn := by
  have := runT_drawn p m w es
  rw [h] at this; exact this
theorem run_ok {α : Type} {p : Program} {m : Sem α} {w w' : World} {v : α} (h : m.run p w = .ok v w') : w.drawn ≤ w'.drawn := by
  have := run_drawn p m w
  rw [h] at this; exact this
theorem run_halt {α : Type} {p : Program} {m : Sem α} {w w' : World} {v : Halt} (h : m.run p w = .halt v w') : w.drawn ≤ w'.drawn := by
  have := run_drawn p m w
  rw [h] at this; exact this
def _root_.Go.GStep.w : GStep → World
  | .go _ w _ => w
  | .comm _ _ _ _ w _ => w
  | .spawn _ _ w _ => w
  | .count _ w _ => w
  | .timer _ _ w _ => w
  | .alone _ _ w _ => w
  | .newcoro _ _ _ w _ => w
  | .coroswitch _ _ _ w _ => w
  | .collect _ w _ => w
  | .watch _ w _ => w
  | .ended _ w _ => w
theorem after_w (es : Array Event) (s : GStep) : (GStep.after es s).w = s.w := by cases s <;> rfl
theorem endWith_drawn (w : World) (fd : Nat) (t : ByteArray) (o : Outcome) : w.drawn ≤ (endWith w fd t o).w.drawn := by
  unfold endWith
  have h := sys_drawn w (.write fd t)
  dsimp only
  split <;> rename_i h2 <;> rw [h2] at h
  · split <;> exact h
  · exact h
  · exact h
theorem endPrinting_w (p : Program) (fr : Frame) (v : Value) (w : World) : (endPrinting p fr v w).w = w := by
  unfold endPrinting
  dsimp only
  repeat (first | rfl | split)
theorem endFatal_drawn (p : Program) (fr : Frame) (cs : List Frame) (d : Option Dying) (m : String) (w : World) : w.drawn ≤ (endFatal p fr cs d m w).w.drawn := by
  unfold endFatal
  dsimp only
  split <;> rename_i h2
  · exact run_ok h2
  · exact run_halt h2
  · exact run_halt h2
theorem doReturn_w (p : Program) (main : Bool) (fr : Frame) (cs : List Frame) (d : Option Dying) (v : Value) (w : World) : (doReturn p main fr cs d v w).w = w := by
  unfold doReturn
  repeat (first | rfl | split)
theorem ite_le {c : Prop} [Decidable c] {a b : GStep} {n : Nat} (h1 : n ≤ a.w.drawn) (h2 : n ≤ b.w.drawn) : n ≤ (if c then a else b).w.drawn := by
  split
  · exact h1
  · exact h2
theorem callDeferred_drawn (p : Program) (fr : Frame) (cs : List Frame) (dy : Option Dying) (d : Deferred) (w : World) : w.drawn ≤ (callDeferred p fr cs dy d w).w.drawn := by
  unfold callDeferred
  refine ite_le (Nat.le_refl _) ?_
  · have h := runT_drawn p (invoke d.target d.args) w #[]
    generalize (invoke d.target d.args).runT p w #[] = q at h ⊢
    obtain ⟨r, es⟩ := q
    dsimp only at h ⊢
    rw [after_w]
    split <;> first | exact h | (exact Nat.le_trans h (endFatal_drawn ..)) | (split <;> exact h)
theorem unwind_drawn (p : Program) (main : Bool) (fr : Frame) (cs : List Frame) (dy : Option Dying) (w : World) : w.drawn ≤ (unwind p main fr cs dy w).w.drawn := by
  unfold unwind
  split
  · split
    rename_i r es hq
    have h0 := runT_w hq
    rw [after_w]
    split <;> exact h0
  · exact callDeferred_drawn ..
  · split
    · exact Nat.le_refl _
    · split
      · exact Nat.le_refl _
      · split
        · exact Nat.le_refl _
        · split
          · split
            · exact Nat.le_refl _
            · split <;> rename_i h2 <;> first | exact run_ok h2 | exact run_halt h2
          · split
            · rw [endPrinting_w]; exact Nat.le_refl _
            · exact Nat.le_refl _
    · split
      · rw [doReturn_w]; exact Nat.le_refl _
      · split
        rename_i r es hq
        have h0 := runT_w hq
        rw [after_w]
        split
        · rw [doReturn_w]; exact h0
        · exact h0
        · exact h0
theorem early_drawn (p : Program) (fr : Frame) (cs : List Frame) (dy : Option Dying) (g : Nat) (w : World) : w.drawn ≤ (early p fr cs dy g w).w.drawn := by
  unfold early
  dsimp only
  repeat (first | exact Nat.le_refl _ | split)
  all_goals (dsimp only [GStep.w]; first | exact run_ok (by assumption) | exact run_halt (by assumption))
theorem writeOn_drawn (p : Program) (fr : Frame) (d : Dying) (f : Fatal) (w : World) : w.drawn ≤ (writeOn p fr d f w).w.drawn := by
  unfold writeOn
  dsimp only
  split
  · exact Nat.le_refl _
  · split <;> rename_i hq <;> exact runT_w hq
theorem die_drawn (p : Program) (fr : Frame) (d : Dying) (w : World) : w.drawn ≤ (die p fr d w).w.drawn := by
  unfold die
  split
  · exact writeOn_drawn ..
  · split
    · split
      · exact Nat.le_refl _
      · exact endWith_drawn ..
    · dsimp only
      split
      · exact Nat.le_refl _
      · split <;> rename_i h2 <;> first | exact run_ok h2 | exact run_halt h2
      · rw [after_w]
        split <;> first | exact Nat.le_refl _ | (rename_i hq; rw [Sem.runT_fst] at hq; first | exact run_ok hq | exact run_halt hq | (rw [endPrinting_w]; exact run_halt hq))
      · exact Nat.le_refl _
theorem exec_ap (p : Program) (fr : Frame) (cs : List Frame) (dy : Option Dying) (s : Sem Next) (w : World) (li : Bool) : w.drawn ≤ (stepG.apply p li fr cs dy s w).w.drawn := by
  unfold stepG.apply
  have e : (if li = true then s.runT p w #[] else (s.run p w, #[])).1 = s.run p w := by
    split
    · exact Sem.runT_fst ..
    · rfl
  dsimp only
  rw [after_w, e]
  have h := run_drawn p s w
  generalize s.run p w = r at h ⊢
  split <;> first | exact h | (split <;> exact h) | exact Nat.le_trans h (endFatal_drawn ..) | exact Nat.le_trans h (early_drawn ..) | (split <;> first | exact h | (split <;> exact h)) | exact ite_le h h
theorem oper_drawn (p : Program) (fr : Frame) (cs : List Frame) (dy : Option Dying) (w : World) (li : Bool) : w.drawn ≤ (stepG.oper p li fr cs dy w).w.drawn := by
  unfold stepG.oper
  split
  · exact Nat.le_refl _
  · split <;> exact exec_ap ..
theorem exec_drawn (p : Program) (main : Bool) (fr : Frame) (cs : List Frame) (dy : Option Dying) (w : World) (li : Bool) : w.drawn ≤ (stepG.exec p main li fr cs dy w).w.drawn := by
  unfold stepG.exec
  dsimp only
  split
  all_goals try (with_reducible exact exec_ap ..)
  all_goals try (with_reducible exact oper_drawn ..)
  all_goals try (dsimp only [GStep.w]; with_reducible exact Nat.le_refl _)
  · split
    · exact ite_le (Nat.le_refl _) (Nat.le_refl _)
    · rw [after_w]
      split
      · rename_i hq
        rw [Sem.runT_fst] at hq
        rw [doReturn_w]; exact run_ok hq
      · rename_i hq
        rw [Sem.runT_fst] at hq
        exact run_halt hq
  · split
    · exact ite_le (Nat.le_refl _) (Nat.le_refl _)
    · rw [after_w]
      split
      · rename_i hq
        rw [Sem.runT_fst] at hq
        rw [doReturn_w]; exact run_ok hq
      · rename_i hq
        rw [Sem.runT_fst] at hq
        exact run_halt hq
  · split <;> exact Nat.le_refl _
  · generalize exitTo _ _ = q
    cases q with
    | some t => exact Nat.le_refl _
    | none =>
      dsimp only [Option.elim]
      split
      · exact ite_le (Nat.le_refl _) (Nat.le_refl _)
      · rw [after_w]
        split
        · rename_i hq
          rw [Sem.runT_fst] at hq
          rw [doReturn_w]; exact run_ok hq
        · rename_i hq
          rw [Sem.runT_fst] at hq
          exact run_halt hq
  · generalize gotoIn _ _ = q
    cases q with
    | some t => exact Nat.le_refl _
    | none =>
      dsimp only [Option.elim]
      split
      · exact ite_le (Nat.le_refl _) (Nat.le_refl _)
      · rw [after_w]
        split
        · rename_i hq
          rw [Sem.runT_fst] at hq
          rw [doReturn_w]; exact run_ok hq
        · rename_i hq
          rw [Sem.runT_fst] at hq
          exact run_halt hq
  · rw [after_w]
    split
    · rename_i hq
      rw [Sem.runT_fst] at hq
      exact Nat.le_trans (run_ok hq) (exec_ap ..)
    · rename_i hq
      rw [Sem.runT_fst] at hq
      exact run_halt hq
  · rw [after_w]
    split
    · rename_i hq
      rw [Sem.runT_fst] at hq
      exact run_ok hq
    · rename_i hq
      rw [Sem.runT_fst] at hq
      exact run_halt hq
    · rename_i hq
      rw [Sem.runT_fst] at hq
      exact run_halt hq
  · generalize Extern.next _ = q
    cases q with
    | none => exact Nat.le_refl _
    | some e => exact exec_ap ..
  · refine ite_le (Nat.le_refl _) ?_
    split
    · rename_i hq
      exact run_ok hq
    · rename_i hq
      exact run_halt hq
  · exact ite_le (oper_drawn ..) (Nat.le_refl _)
theorem step_le (p : Program) (main : Bool) (g : Goroutine) (w : World) (li : Bool) : w.drawn ≤ (stepG p main g w li).w.drawn := by
  unfold stepG
  dsimp only
  split
  · exact die_drawn ..
  · exact exec_drawn ..
  · exact unwind_drawn ..
def SL (n : Nat) : Stepped → Prop
  | .next m => n ≤ m.world.drawn
  | .ended _ _ => True
theorem look_drawn (p : Program) (gs : Array Goroutine) (rest : Rest) (w : World) : SL w.drawn (look p gs rest w) := by
  unfold look
  split
  · dsimp only
    split
    · trivial
    · split
      · trivial
      · split
        · rename_i hq; exact Nat.le_trans (run_ok hq) (Nat.le_refl _)
        · trivial
        · trivial
  · trivial
theorem waitingAt_drawn {rest : Rest} {cases : Array CommCase} {w w' : World} (h : waitingAt rest cases w = some w') : w'.drawn = w.drawn := by
  unfold waitingAt at h
  split at h
  · split at h
    · cases h; rfl
    · cases h
  · cases h; rfl
theorem serve_drawn (p : Program) (m : Machine) (k : Nat) : SL m.world.drawn (serve p m k) := by
  unfold serve
  split
  · trivial
  · exact Nat.le_refl _
  · dsimp only
    split
    · trivial
    · exact Nat.le_refl _
theorem communicate_drawn (p : Program) (rest : Rest) (gs : Array Goroutine) (i : Nat) (g : Goroutine) (cases : Array CommCase) (bl : Bool) (sh : CommShape) (w : World) : SL w.drawn (communicate p rest gs i g cases bl sh w).1 := by
  unfold communicate
  dsimp only
  split
  · trivial
  · split
    · split
      · split
        · rename_i h; show w.drawn ≤ _; exact Nat.le_of_eq (waitingAt_drawn h).symm
        · trivial
      · exact Nat.le_refl _
    · split
      · trivial
      · rename_i hq
        have h := run_ok hq
        split
        · split
          · rename_i hr; exact Nat.le_trans (Nat.le_trans h (run_halt hr)) (Nat.le_refl _)
          · trivial
        · exact h
        · exact h
        · split
          · exact h
          · split
            · rename_i hr; exact Nat.le_trans (Nat.le_trans h (run_ok hr)) (Nat.le_refl _)
            · trivial
        · exact h
        · exact h
        · trivial
theorem drain_w (w : World) (c : Nat) : (drain w c).2.drawn = w.drawn := by
  unfold drain
  split <;> rfl
theorem retime_w (m : Machine) (k : Nat) (t : Timer) (a b : Nat) : (retime m k t a b).2.world.drawn = m.world.drawn := by
  unfold retime
  dsimp only
  cases t.chan with
  | none => rfl
  | some c => exact drain_w ..
theorem timerOp_w {m m' : Machine} {op : TimerOp} {v : Value} (h : timerOp m op = .ok (v, m')) : m'.world.drawn = m.world.drawn := by
  have named : ∀ {m0 : Machine} {var : Addr} {f : Nat → Timer → Value × Machine}, (∀ k t, (f k t).2.world.drawn = m.world.drawn) → timerOp.named m0 var f = .ok (v, m') → m'.world.drawn = m.world.drawn := fun {m0 var f} hf h => by
    unfold timerOp.named at h
    split at h
    · rename_i k _
      have := hf k (m0.rest.timers.getD k default)
      have h2 := Except.ok.inj h
      rw [h2] at this
      exact this
    · cases h
  unfold timerOp at h
  split at h
  · split at h
    · cases h; rfl
    · split at h
      · split at h
        · cases h
        · cases h; rfl
      · cases h
  · exact named (fun k t => retime_w ..) h
  · split at h
    · rename_i hm
      refine named (fun k t => ?_) h
      rw [retime_w]
      unfold timerOp.opened at hm
      split at hm
      · split at hm
        · cases hm; rfl
        · cases hm
      · cases hm; rfl
    · cases h
  · cases h; rfl
theorem runT_le (p : Program) (m : Machine) (i : Nat) (li : Bool) : SL m.world.drawn (runT p m i li).1 := by
  unfold runT
  dsimp only
  generalize m.gs.swapAt! i { (default : Goroutine) with status := .finished } = q
  obtain ⟨g, gs⟩ := q
  dsimp only
  have h := step_le p (i == 0) g m.world li
  generalize stepG p (i == 0) g m.world li = s at h ⊢
  cases s with
  | ended o w es => trivial
  | comm g cases bl sh w es =>
    have := communicate_drawn p m.rest gs i g cases bl sh w
    dsimp only [GStep.w] at h ⊢
    generalize (communicate p m.rest gs i g cases bl sh w).1 = r at this ⊢
    cases r with
    | next m' => exact Nat.le_trans h this
    | ended _ _ => trivial
  | go g w es => exact h
  | spawn g c w es => exact h
  | count g w es =>
    dsimp only
    split
    · trivial
    · exact h
  | alone g on w es => exact h
  | collect g w es =>
    have := look_drawn p (gs.setIfInBounds i g) m.rest w
    dsimp only [GStep.w] at h ⊢
    generalize look p (gs.setIfInBounds i g) m.rest w = r at this ⊢
    cases r with
    | next m' => exact Nat.le_trans h this
    | ended _ _ => trivial
  | watch g w es => exact h
  | newcoro g c d w es => exact h
  | coroswitch g c ex w es =>
    dsimp only
    split
    · exact h
    · exact h
    · trivial
  | timer g op w es =>
    dsimp only
    split
    · rename_i hq
      have := timerOp_w hq
      exact Nat.le_trans h (Nat.le_of_eq this.symm)
    · exact h
    · trivial
    · trivial
def ML (n : Nat) : Move → Prop
  | .goroutine m _ => n ≤ m.world.drawn
  | .machine s _ => SL n s
theorem SL.mono {n k : Nat} {s : Stepped} (h : SL k s) (hn : n ≤ k) : SL n s := by
  cases s with
  | next m => exact Nat.le_trans hn h
  | ended _ _ => trivial
theorem askOn_drawn (p : Program) (m : Machine) : ML m.world.drawn (askOn p m) := by
  unfold askOn
  dsimp only
  have pick : ∀ (m0 : Machine) (rs : List Nat), m.world.drawn ≤ m0.world.drawn → ML m.world.drawn (match (choose (.sched rs.length)).run p m0.world with
      | .halt _ w => .machine (.ended (.stuck "sched" "") w)
      | .ok k world =>
        if rs.length ≤ 1 then .goroutine { m0 with world } (rs.getD k 0) else
        match (choose (.extern "sched.slice" 65536)).run p world with
        | .halt _ w => .machine (.ended (.stuck "sched.slice" "") w)
        | .ok n world => .goroutine { m0 with world, rest := { m0.rest with slice := if n = 0 then none else some (rs.getD k 0, n) } } (rs.getD k 0)) := fun m0 rs h => by
    split
    · trivial
    · rename_i hq
      split
      · exact Nat.le_trans h (run_ok hq)
      · split
        · trivial
        · rename_i hr
          exact Nat.le_trans (Nat.le_trans h (run_ok hq)) (run_ok hr)
  split
  · trivial
  · rename_i k wd hq
    have h := run_ok hq
    split
    · exact SL.mono (serve_drawn p _ _) h
    · split
      · split
        · exact h
        · split
          · exact h
          · split <;> trivial
      · split
        · exact pick { m with world := wd } _ h
        · split
          · trivial
          · rename_i w2 hr
            exact pick { m with world := w2 } _ (Nat.le_trans h (run_ok hr))
          · rename_i w2 hr
            exact Nat.le_trans (Nat.le_trans h (run_ok hr)) (Nat.le_refl _)
          · rename_i k2 w2 hr
            exact pick (Machine.advanceTo { m with world := w2 } _) _ (Nat.le_trans (Nat.le_trans h (run_ok hr)) (Nat.le_refl _))
theorem ML.mono {n k : Nat} {s : Move} (h : ML k s) (hn : n ≤ k) : ML n s := by
  cases s with
  | goroutine m _ => exact Nat.le_trans hn h
  | machine s _ => exact SL.mono h hn
theorem ask_m (p : Program) (m : Machine) : ML m.world.drawn (ask p m) := by
  unfold ask
  split
  · split
    · trivial
    · rename_i w2 hq
      have := look_drawn p m.gs m.rest w2
      split
      · rename_i hl
        rw [hl] at this
        exact ML.mono (askOn_drawn p _) (Nat.le_trans (run_ok hq) this)
      · exact SL.mono this (run_ok hq)
    · rename_i hq
      exact ML.mono (askOn_drawn p _) (run_ok hq)
  · exact askOn_drawn p m
theorem move_drawn (p : Program) (m : Machine) : ML m.world.drawn (move p m) := by
  unfold move
  split
  · split
    · exact Nat.le_refl _
    · trivial
  · split
    · split
      · exact Nat.le_refl _
      · exact ask_m p _
    · exact ask_m p m
theorem step_drawn {p : Program} {m m' : Machine} (h : step p m = .next m') : m.world.drawn ≤ m'.world.drawn := by
  have hm := move_drawn p m
  unfold step stepT at h
  generalize move p m = mv at hm h
  cases mv with
  | goroutine m0 i =>
    have := runT_le p m0 i true
    dsimp only at h
    rw [h] at this
    exact Nat.le_trans hm this
  | machine s ops =>
    dsimp only at h
    rw [h] at hm
    exact hm
theorem steps_drawn {p : Program} {m m' : Machine} (h : Steps p m m') : m.world.drawn ≤ m'.world.drawn := by
  have h' := StepsIn.of_steps h
  clear h
  induction h' with
  | refl => exact Nat.le_refl _
  | head _ hs _ ih => exact Nat.le_trans (step_drawn hs) ih
theorem calls_drawn {P : Program} {f : FuncId} {args : Array Value} {w : World} {R : Ending → World → Prop} (h : Calls P f args w R) (hr : ∀ e w', R e w' → ∃ v, e = .returned v) : Calls P f args w fun e w' => R e w' ∧ w.drawn ≤ w'.drawn := fun cs => by
  obtain ⟨e, w', fr, h1, h2, h3⟩ := h cs
  obtain ⟨v, rfl⟩ := hr e w' h1
  exact ⟨_, w', fr, ⟨h1, steps_drawn (m := lone _ cs w) h2⟩, h2, h3⟩
end Go.E
end

section
namespace Go.E
open Go Go.RowKit Go.Maps Go.Sort Go.Shelf Go.Proofs
theorem Con.keysI {P : Program} {ρ : Ren} (L : SlLaysZI.n7 P ρ) {σ : Store} {f g E : Nat} (hf : ρ.f 7 = f) (hg : ρ.f 10 = g) (hE : ρ.t 23 = E) (b : Option Nat) :
    Con P f #[.map b] σ [] (fun v σ' H' => ∃ bm, v = .func (.func g) #[] #[.pointer (some ⟨bm, 0, none⟩)] ∧ σ = σ' ∧ H' = [Res.cells bm #[.map b] E]) := by
  subst hf hg hE
  intro w hw
  refine ((callsIn_wide (n := 5)).1 (AnyZI.keys_in L Fence.wide 5 trivial rfl b w)).mono fun e w' ⟨h1, h2⟩ => ⟨_, σ, _, h1, ⟨w.heap.size, rfl, rfl, rfl⟩, ?_⟩
  subst h2
  exact hw.newCells _ _
noncomputable def skeys {V : Type} (m : FM Int V) : List Int := open Classical in if h : ∃ l : List Int, l.Pairwise (· < ·) ∧ ∀ k, k ∈ l ↔ m.f k ≠ none then Classical.choose h else []
theorem rise_eq : ∀ {l m : List Int}, l.Pairwise (· < ·) → m.Pairwise (· < ·) → (∀ k, k ∈ l ↔ k ∈ m) → l = m
  | [], [], _, _, _ => rfl
  | [], y :: m, _, _, h => absurd ((h y).2 (List.mem_cons_self ..)) List.not_mem_nil
  | x :: l, [], _, _, h => absurd ((h x).1 (List.mem_cons_self ..)) List.not_mem_nil
  | x :: l, y :: m, h1, h2, h => by
    have a1 := List.pairwise_cons.1 h1
    have a2 := List.pairwise_cons.1 h2
    have e : x = y := by
      rcases List.mem_cons.1 ((h x).1 (List.mem_cons_self ..)) with e | e
      · exact e
      · rcases List.mem_cons.1 ((h y).2 (List.mem_cons_self ..)) with e2 | e2
        · exact e2.symm
        · have b1 := a2.1 x e
          have b2 := a1.1 y e2
          omega
    subst e
    rw [rise_eq a1.2 a2.2 fun k => ?_]
    constructor
    · intro hk
      rcases List.mem_cons.1 ((h k).1 (List.mem_cons_of_mem _ hk)) with e | e
      · have := a1.1 k hk
        omega
      · exact e
    · intro hk
      rcases List.mem_cons.1 ((h k).2 (List.mem_cons_of_mem _ hk)) with e | e
      · have := a2.1 k hk
        omega
      · exact e
theorem skeys_of {V : Type} {m : FM Int V} {l : List Int} (h1 : l.Pairwise (· < ·)) (h2 : ∀ k, k ∈ l ↔ m.f k ≠ none) : skeys m = l := by
  unfold skeys
  have h : ∃ l : List Int, l.Pairwise (· < ·) ∧ ∀ k, k ∈ l ↔ m.f k ≠ none := ⟨l, h1, h2⟩
  rw [dif_pos h]
  obtain ⟨g1, g2⟩ := Classical.choose_spec h
  exact rise_eq g1 h1 fun k => (g2 k).trans (h2 k).symm
end Go.E
namespace Go.E
open Go Go.RowKit Go.Maps Go.Sort Go.Shelf Go.Proofs
abbrev RK : Value → Option (DataW Unit × List MemPlace) := fun _ => some (.lit (.bool true), [])
theorem own_of {V : Type} {P : Program} {K : Nat} (hK : P.underlying K = some (.int .i64)) {encV : V → Value} {w : World} {b : Nat} {m : FM Int V} {zs : List (MapEntry × (Int × V))} {clock : Nat} (hR : Rep (zs.map Prod.snd) m) (hM : MapAt (Value.int .i64) encV w b zs clock) (hk : ∀ k, m.f k ≠ none → (Lit.int .i64 k).wf = true) (hn : m.n ≤ 1000000) :
    ∃ D : DataW Unit, w.ownsMap P K RK b m.n D ∧ Maps.size D = m.n ∧ (∀ k, k ∈ intKeys D ↔ m.f k ≠ none) ∧ (intKeys D).Nodup := by
  obtain ⟨⟨es, h1, h2⟩, h3, h4, h5, h6⟩ := hM
  have hlen : es.size = m.n := by rw [← Array.length_toList, h2, List.length_map, ← hR.len, List.length_map]
  have hrd : ∀ z ∈ zs, Go.WideElems.rd P K RK z.1 = some ((.int .i64 z.2.1, .lit (.bool true)) : Lit × DataW Unit) := fun z hz => by
    have hkey : keyOf P K z.1.key = some (.int .i64 z.2.1) := by
      rw [h3 z hz]
      have hw := hk z.2.1 (by rw [(hR.mem z.2.1 z.2.2).1 (List.mem_map.2 ⟨z, hz, rfl⟩)]; simp)
      simp [keyOf, hK, mapKey, hw]
    unfold Go.WideElems.rd
    rw [hkey]; rfl
  have mem_f : ∀ (l : List (Lit × DataW Unit)) (y : Lit × DataW Unit), y ∈ l.foldr DataW.insert [] ↔ y ∈ l := fun l y => by
    induction l with
    | nil => exact Iff.rfl
    | cons x l ih => rw [List.foldr_cons, ChangeMaps.mem_insert_iff, ih, List.mem_cons]
  have len_f : ∀ l : List (Lit × DataW Unit), (l.foldr DataW.insert []).length = l.length := fun l => by
    induction l with
    | nil => rfl
    | cons x l ih => rw [List.foldr_cons, DataW.length_insert, ih, List.length_cons]
  refine ⟨_, ⟨es, clock, h1, ⟨by rw [hlen]; unfold maxLen; omega, ⟨fun x hx => ?_, ?_, ?_⟩, fun x hx => ?_⟩, Nat.le_of_eq hlen, rfl⟩, ?_, fun k => ?_, ?_⟩
  · rw [h2, List.mem_map] at hx
    obtain ⟨z, hz, rfl⟩ := hx
    exact h5 z hz
  · rw [h2, List.map_map]; exact h6
  · rw [h2, List.map_map]
    have hnd := hR.nodup
    rw [List.map_map] at hnd
    have e : zs.map ((fun x => x.key) ∘ Prod.fst) = (zs.map (Prod.fst ∘ Prod.snd)).map (Value.int .i64) := by
      rw [List.map_map]
      exact List.map_congr_left fun z hz => h3 z hz
    rw [e]
    exact List.Pairwise.map _ (fun a b hne hq => hne (by cases hq; rfl)) hnd
  · rw [h2, List.mem_map] at hx
    obtain ⟨z, hz, rfl⟩ := hx
    exact ⟨_, hrd z hz⟩
  · show (List.foldr DataW.insert [] _).length = _
    rw [len_f, List.length_map, Array.length_toList, hlen]
  · show k ∈ List.map _ (List.foldr DataW.insert [] _) ↔ _
    rw [List.mem_map]
    constructor
    · rintro ⟨y, hy, rfl⟩
      rw [mem_f, List.mem_map] at hy
      obtain ⟨x, hx, rfl⟩ := hy
      rw [h2, List.mem_map] at hx
      obtain ⟨z, hz, rfl⟩ := hx
      have e : Go.WideElems.rg P K RK z.1 = (.int .i64 z.2.1, .lit (.bool true)) := by unfold Go.WideElems.rg; rw [hrd z hz]; rfl
      rw [e]
      show m.f z.2.1 ≠ none
      rw [(hR.mem z.2.1 z.2.2).1 (List.mem_map.2 ⟨z, hz, rfl⟩)]; simp
    · intro hne
      cases hv : m.f k with
      | none => exact absurd hv hne
      | some v =>
        obtain ⟨z, hz, e⟩ := List.mem_map.1 ((hR.mem k v).2 hv)
        refine ⟨Go.WideElems.rg P K RK z.1, (mem_f _ _).2 (List.mem_map.2 ⟨z.1, by rw [h2]; exact List.mem_map.2 ⟨z, hz, rfl⟩, rfl⟩), ?_⟩
        have e2 : Go.WideElems.rg P K RK z.1 = (.int .i64 z.2.1, .lit (.bool true)) := by unfold Go.WideElems.rg; rw [hrd z hz]; rfl
        rw [e2]
        show z.2.1 = k
        rw [e]
  · show (List.map _ (List.foldr DataW.insert [] _)).Nodup
    have perm_f : ∀ l : List (Lit × DataW Unit), (l.foldr DataW.insert []).Perm l := fun l => by
      induction l with
      | nil => exact List.Perm.refl _
      | cons x l ih => exact (WideShapes.insert_perm x _).trans (ih.cons x)
    refine ((perm_f _).map _).nodup_iff.2 ?_
    have hnd := hR.nodup
    rw [List.map_map] at hnd
    rw [h2, List.map_map, List.map_map]
    have e : zs.map (((fun p : Lit × DataW Unit => intOf p.1) ∘ Go.WideElems.rg P K RK) ∘ Prod.fst) = zs.map (Prod.fst ∘ Prod.snd) := List.map_congr_left fun z hz => by
      show intOf (Go.WideElems.rg P K RK z.1).1 = z.2.1
      unfold Go.WideElems.rg; rw [hrd z hz]; rfl
    rw [e]; exact hnd
theorem sorted_skeys {V : Type} {m : FM Int V} {ss L : List Int} (hp : ss.Perm L) (hm : ∀ k, k ∈ L ↔ m.f k ≠ none) (hnd : L.Nodup) : ss.mergeSort (fun x y => decide (x ≤ y)) = skeys m := by
  have hps := List.mergeSort_perm ss (fun x y => decide (x ≤ y))
  have hn : (ss.mergeSort fun x y => decide (x ≤ y)).Nodup := (hps.trans hp).nodup_iff.2 hnd
  have hs : (ss.mergeSort fun x y => decide (x ≤ y)).Pairwise fun x y => decide (x ≤ y) = true := List.pairwise_mergeSort (fun a b c h1 h2 => by simp at *; omega) (fun a b => by simp; omega) ss
  refine (skeys_of ?_ fun k => ?_).symm
  · refine List.Pairwise.imp₂ (R := fun x y => decide (x ≤ y) = true) (S := fun x y => x ≠ y) (fun a b h1 h2 => by simp at h1; omega) hs hn
  · rw [(hps.trans hp).mem_iff]; exact hm k
theorem Con.sortedI {V : Type} {P : Program} {ρk ρs ρ9 : Ren} (Lk : SlLaysZI.n10 P ρk) (Ls : SlLaysZI.n6 P ρs) (L9 : Lays.n189 P ρ9) (h9 : ρs.f 9 = ρ9.f 189) {encV : V → Value} {b bm T f g E : Nat} {m : FM Int V} {σ : Store} (hf : ρs.f 6 = f) (hg : ρk.f 10 = g) (hE : ρs.t 26 = E)
    (e9 : ∀ args w, (callFunc (ρ9.f 189) args).run P w = .ok (.enter (ρ9.f 189) args) w) (eg : ∀ args w, (callFunc g args).run P w = .ok (.enter g args) w) (hk : ∀ k, m.f k ≠ none → (Lit.int .i64 k).wf = true) (hn : m.n ≤ 1000000) :
    Con P f #[.func (.func g) #[] #[.pointer (some ⟨bm, 0, none⟩)]] σ [Res.cells bm #[.map (some b)] T, Res.mapB (Value.int .i64) encV (some b) m]
      (fun v σ' H' => ∃ a c, v = .slice a (skeys m).length c ∧ σ = σ' ∧ H' = [Res.rowS E 1 Go.E.encI (.slice a (skeys m).length c) (skeys m), Res.cells bm #[.map (some b)] T, Res.mapB (Value.int .i64) encV (some b) m]) := by
  subst hf hg hE
  intro w hw
  have hc : w.heap[bm]? = some (.cells #[.map (some b)] T (0, 0)) := hw.holds _ (List.mem_cons_self ..)
  obtain ⟨zs, clock, hR, hM⟩ := (hw.holds _ (List.mem_cons_of_mem _ (List.mem_cons_self ..))).2 b rfl
  obtain ⟨D, hown, hsz, hkeys, hnd⟩ := own_of Lk.t26 hR hM hk hn
  have hbm : bm < w.heap.size := (Array.getElem?_eq_some_iff.1 hc).1
  have hcell : w.cell? ⟨bm, 0, none⟩ = some (.map (some b)) := by simp [World.cell?, hc]
  have hseq := AnyZI.keys_gives (ρ := ρk) Lk Fence.wide 2 trivial rfl (by omega) bm b m.n D w hbm hcell hown
  have hsorts : AnyZI.SortsIn P ρs Fence.wide 4 := ⟨fun blk off cap ss W h1 h2 h3 => by rw [h9]; exact callsIn_wide.2 (Any.slices_Sort_int L9 blk off cap ss W h1 h2 h3), fun p cap W => by rw [h9]; exact callsIn_wide.2 (Any.slices_Sort_int_none L9 p cap W)⟩
  have cS := AnyZI.sorted_in Ls Fence.wide 5 trivial trivial trivial trivial rfl (by omega) hsorts (by rw [h9]; exact e9) (ρk.f 10) #[.pointer (some ⟨bm, 0, none⟩)] trivial eg _ (Maps.size D) (by rw [hsz]; unfold maxLen; omega) (by rw [hsz]; omega) w hseq
  refine (calls_drawn (callsIn_wide.1 cS) (fun e w' h => by obtain ⟨v, ss, h, _⟩ := h; exact ⟨v, h⟩)).mono fun e w' h => ?_
  obtain ⟨⟨v, ss, h1, h2, h3, h4, h5⟩, hdr⟩ := h
  have hsk := sorted_skeys h2 hkeys hnd
  have hlen : ss.length = (skeys m).length := by rw [← hsk, List.length_mergeSort]
  rw [hsk, hlen] at h3
  have hshape : ∃ a c, v = .slice a (skeys m).length c := by
    rcases h3.2 with ⟨h, h0⟩ | ⟨gb, cap, cur, h, _⟩
    · exact ⟨none, 0, by rw [h, h0]⟩
    · exact ⟨_, _, h⟩
  obtain ⟨a, c, hv⟩ := hshape
  subst hv
  refine ⟨_, σ, _, h1, ⟨a, c, rfl, rfl, rfl⟩, ?_⟩
  have hone : ∀ u ∈ (skeys m).flatMap Go.E.encI, u.oneCell' = true := fun u hu => by
    rw [flat_encI] at hu
    obtain ⟨k, _, rfl⟩ := List.mem_map.1 hu
    rfl
  refine hw.gain1 (r' := Res.rowS (ρs.t 26) 1 Go.E.encI (.slice a (skeys m).length c) (skeys m)) (Value.slice a (skeys m).length c).ownBlock rfl h5.os h5.tape h5.output h5.size hdr (fun k hk => h5.block k hk) ⟨⟨?_, ?_⟩, hone, ?_⟩ ?_
  · rw [flat_encI, List.length_map, Nat.mul_one]
  · rw [flat_encI]
    rcases h3.2 with h | ⟨gb, cap, cur, h, _, r⟩
    · exact .inl h
    · exact .inr ⟨gb, cap, cur, h, Nat.zero_le _, r⟩
  · have hl : (intKeys D).length = Maps.size D := by
      obtain ⟨_, _, _, _, _, hD⟩ := hown
      rw [hD]; exact List.length_map ..
    have := h2.length_eq
    omega
  · intro k hk
    rcases h3.2 with ⟨h, h0⟩ | ⟨gb, cap, cur, h, hb, _⟩
    · rw [h] at hk; cases hk
    · rw [h] at hk; cases hk; exact hb
theorem Con.sortedO {V : Type} {P : Program} {ρk ρs ρ9 : Ren} (Lk : SlLaysZI.n10 P ρk) (Ls : SlLaysZI.n6 P ρs) (L9 : Lays.n189 P ρ9) (h9 : ρs.f 9 = ρ9.f 189) {encV : V → Value} {b : Option Nat} {bm T f g E : Nat} {m : FM Int V} {σ : Store} (hf : ρs.f 6 = f) (hg : ρk.f 10 = g) (hE : ρs.t 26 = E)
    (e9 : ∀ args w, (callFunc (ρ9.f 189) args).run P w = .ok (.enter (ρ9.f 189) args) w) (eg : ∀ args w, (callFunc g args).run P w = .ok (.enter g args) w) (hk : ∀ k, m.f k ≠ none → (Lit.int .i64 k).wf = true) (hn : m.n ≤ 1000000) :
    Con P f #[.func (.func g) #[] #[.pointer (some ⟨bm, 0, none⟩)]] σ [Res.cells bm #[.map b] T, Res.mapB (Value.int .i64) encV b m]
      (fun v σ' H' => ∃ a c, v = .slice a (skeys m).length c ∧ σ = σ' ∧ H' = [Res.rowS E 1 Go.E.encI (.slice a (skeys m).length c) (skeys m), Res.cells bm #[.map b] T, Res.mapB (Value.int .i64) encV b m]) := by
  cases b with
  | some b => exact Con.sortedI Lk Ls L9 h9 hf hg hE e9 eg hk hn
  | none =>
    subst hf hg hE
    intro w hw
    have hc : w.heap[bm]? = some (.cells #[.map none] T (0, 0)) := hw.holds _ (List.mem_cons_self ..)
    have hm : m = FM.emp := (hw.holds _ (List.mem_cons_of_mem _ (List.mem_cons_self ..))).1 rfl
    have hsk0 : skeys m = [] := skeys_of List.Pairwise.nil fun k => by rw [hm]; simp [FM.emp]
    have hbm : bm < w.heap.size := (Array.getElem?_eq_some_iff.1 hc).1
    have hcell : w.cell? ⟨bm, 0, none⟩ = some (.map none) := by simp [World.cell?, hc]
    have hseq := AnyZI.keys_gives_nil (ρ := ρk) Lk Fence.wide 2 trivial rfl bm w hbm hcell
    have hsorts : AnyZI.SortsIn P ρs Fence.wide 4 := ⟨fun blk off cap ss W h1 h2 h3 => by rw [h9]; exact callsIn_wide.2 (Any.slices_Sort_int L9 blk off cap ss W h1 h2 h3), fun p cap W => by rw [h9]; exact callsIn_wide.2 (Any.slices_Sort_int_none L9 p cap W)⟩
    have cS := AnyZI.sorted_in Ls Fence.wide 5 trivial trivial trivial trivial rfl (by omega) hsorts (by rw [h9]; exact e9) (ρk.f 10) #[.pointer (some ⟨bm, 0, none⟩)] trivial eg _ 0 (Nat.zero_le _) (by omega) w hseq
    refine (calls_drawn (callsIn_wide.1 cS) (fun e w' h => by obtain ⟨v, ss, h, _⟩ := h; exact ⟨v, h⟩)).mono fun e w' h => ?_
    obtain ⟨⟨v, ss, h1, h2, h3, h4, h5⟩, hdr⟩ := h
    subst h2
    obtain rfl := h4.2 rfl
    refine ⟨_, σ, _, h1, ⟨none, 0, by rw [hsk0]; rfl, rfl, rfl⟩, ?_⟩
    rw [hsk0]
    exact hw.gain1 (r' := Res.rowS (ρs.t 26) 1 Go.E.encI (.slice none 0 0) []) none rfl h5.os h5.tape h5.output h5.size hdr (fun k hk => h5.block k hk) ⟨⟨rfl, .inl ⟨rfl, rfl⟩⟩, fun u hu => absurd hu List.not_mem_nil, Nat.zero_le _⟩ (fun k hk => by cases hk)
def KeysIn {V : Type} (m : FM Int V) : Prop := ∀ k, m.f k ≠ none → (Lit.int .i64 k).wf = true
noncomputable instance {V : Type} (m : FM Int V) : Decidable (KeysIn m) := Classical.propDecidable _
end Go.E
end

section
namespace Go.Proofs.YtcaaiphgikpgjaaGreatDoor
open Go Go.E Go.E.OpVal Go.E.OpOk Go.Proofs.Tryz
private theorem ag22 : Go.E.aggOf Tryz.prog 22 = some false := by kernel_rfl
private theorem ag23 : Go.E.aggOf Tryz.prog 23 = some false := by kernel_rfl
private theorem ag28 : Go.E.aggOf Tryz.prog 28 = some false := by kernel_rfl
private theorem ag33 : Go.E.aggOf Tryz.prog 33 = some false := by kernel_rfl
private theorem ag4 : Go.E.aggOf Tryz.prog 4 = some false := by kernel_rfl
private theorem ag41 : Go.E.aggOf Tryz.prog 41 = some true := by kernel_rfl
private theorem ag59 : Go.E.aggOf Tryz.prog 59 = some true := by kernel_rfl
private theorem fo25_0 : Go.E.foOf Tryz.prog 25 0 = some 0 := by kernel_rfl
private theorem fo25_1 : Go.E.foOf Tryz.prog 25 1 = some 1 := by kernel_rfl
private theorem fo25_2 : Go.E.foOf Tryz.prog 25 2 = some 2 := by kernel_rfl
private theorem fo25_3 : Go.E.foOf Tryz.prog 25 3 = some 3 := by kernel_rfl
private theorem fo30_2 : Go.E.foOf Tryz.prog 30 2 = some 2 := by kernel_rfl
private theorem fo41_0 : Go.E.foOf Tryz.prog 41 0 = some 0 := by kernel_rfl
private theorem fo41_1 : Go.E.foOf Tryz.prog 41 1 = some 1 := by kernel_rfl
private theorem fo59_0 : Go.E.foOf Tryz.prog 59 0 = some 0 := by kernel_rfl
private theorem fo59_1 : Go.E.foOf Tryz.prog 59 1 = some 1 := by kernel_rfl
private theorem fo59_2 : Go.E.foOf Tryz.prog 59 2 = some 2 := by kernel_rfl
private theorem fo59_3 : Go.E.foOf Tryz.prog 59 3 = some 6 := by kernel_rfl
private theorem fo59_4 : Go.E.foOf Tryz.prog 59 4 = some 7 := by kernel_rfl
private theorem fo67_0 : Go.E.foOf Tryz.prog 67 0 = some 0 := by kernel_rfl
private theorem fo67_1 : Go.E.foOf Tryz.prog 67 1 = some 4 := by kernel_rfl
private theorem pf24 : Go.E.plainF Tryz.prog 24 = true := by kernel_rfl
private theorem pf25 : Go.E.plainF Tryz.prog 25 = true := by kernel_rfl
private theorem pf26 : Go.E.plainF Tryz.prog 26 = true := by kernel_rfl
private theorem pf27 : Go.E.plainF Tryz.prog 27 = true := by kernel_rfl
private theorem pf28 : Go.E.plainF Tryz.prog 28 = true := by kernel_rfl
private theorem pf29 : Go.E.plainF Tryz.prog 29 = true := by kernel_rfl
private theorem pf30 : Go.E.plainF Tryz.prog 30 = true := by kernel_rfl
private theorem pf31 : Go.E.plainF Tryz.prog 31 = true := by kernel_rfl
private theorem pf32 : Go.E.plainF Tryz.prog 32 = true := by kernel_rfl
private theorem pl25 : Go.E.plOf Tryz.prog 25 = some #[(0, 1), (1, 1), (2, 1), (3, 1)] := by kernel_rfl
private theorem pl41 : Go.E.plOf Tryz.prog 41 = some #[(0, 1), (1, 1)] := by kernel_rfl
private theorem pl59 : Go.E.plOf Tryz.prog 59 = some #[(0, 1), (1, 1), (2, 4), (6, 1), (7, 1)] := by kernel_rfl
private theorem pl67 : Go.E.plOf Tryz.prog 67 = some #[(0, 4), (4, 1)] := by kernel_rfl
private theorem sz33 : Go.E.szOf Tryz.prog 33 = some 1 := by kernel_rfl
private theorem sz4 : Go.E.szOf Tryz.prog 4 = some 1 := by kernel_rfl
private theorem sz41 : Go.E.szOf Tryz.prog 41 = some 2 := by kernel_rfl
private theorem sz59 : Go.E.szOf Tryz.prog 59 = some 8 := by kernel_rfl
private theorem ze33 : Go.E.zeroOf Tryz.prog 33 = some (.int .i64 0) := by kernel_rfl
private theorem ze41 : Go.E.zeroOf Tryz.prog 41 = some (.agg #[.int .i64 0, .string ByteArray.empty]) := by kernel_rfl
private theorem ze59 : Go.E.zeroOf Tryz.prog 59 = some (.agg #[.int .i64 0, .int .i64 0, .int .u64 0, .int .u64 0, .int .u64 0, .int .u64 0, .string ByteArray.empty, .bool false]) := by kernel_rfl
private theorem ze67 : Go.E.zeroOf Tryz.prog 67 = some (.agg #[.int .i64 0, .slice none 0 0, .slice none 0 0, .slice none 0 0, .bool false]) := by kernel_rfl
noncomputable def Eh_ (k275 : Nat) (i280 : Int) (l282 : List Tip) (l286 : List Tip) (l290 : List Arc) (t293 : Bool) : Option ((Int × (List Tip) × (List Tip) × (List Arc) × Bool × Nat) ⊕ ((Int × (List Tip) × (List Tip) × (List Arc) × Bool × Nat) ⊕ (Fst × Int))) :=
 nxt (i280, l282, l286, l290, t293, (k275 + 1))
noncomputable def Bf_ (x1 : Dfa) (x0 : Fst) (k224 : Nat) (i261 : Int) (l263 : List Tip) (l267 : List Tip) (l271 : List Arc) (t274 : Bool) (k275 : Nat) : Option ((Int × (List Tip) × (List Tip) × (List Arc) × Bool × Nat) ⊕ ((Int × (List Tip) × (List Tip) × (List Arc) × Bool × Nat) ⊕ (Fst × Int))) :=
 iteO (decide (((k275 : Nat) : Int) < ((x1.fin.length : Nat) : Int))) (iteO (nth x1.fin k275 false) (bnd (A6_ (⟨(⟨i261, l263, l267, l271⟩ : Fst), t274⟩ : Grow) (⟨IntKind.i64.wrap ((IntKind.i64.wrap (((nth x0.ends k224 Tip.zero).state) * ((x1.next.length : Nat) : Int))) + ((k275 : Nat) : Int)), (nth x0.ends k224 Tip.zero).out⟩ : Tip)) (fun v90 => Eh_ k275 v90.f.states v90.f.starts v90.f.ends v90.f.arcs v90.over)) (Eh_ k275 i261 l263 l267 l271 t274)) (fin (nxt (i261, l263, l267, l271, t274, (k224 + 1))))
noncomputable def Bk_ (v113 : (FM Int BSet)) (x0 : Fst) (k348 : Nat) (x1 : Dfa) (k399 : Nat) (i441 : Int) (l443 : List Tip) (l447 : List Tip) (l451 : List Arc) (t454 : Bool) (k455 : Nat) : Option ((Int × (List Tip) × (List Tip) × (List Arc) × Bool × Nat) ⊕ ((Int × (List Tip) × (List Tip) × (List Arc) × Bool × Nat) ⊕ ((Int × (List Tip) × (List Tip) × (List Arc) × Bool × Nat) ⊕ (Fst × Int)))) :=
 iteO (decide (((k455 : Nat) : Int) < (((skeys v113).length : Nat) : Int))) (bnd (Bh_ (⟨(⟨i441, l443, l447, l451⟩ : Fst), t454⟩ : Grow) (⟨IntKind.i64.wrap ((IntKind.i64.wrap (((nth x0.arcs k348 Arc.zero).frm) * ((x1.next.length : Nat) : Int))) + ((k399 : Nat) : Int)), IntKind.i64.wrap ((IntKind.i64.wrap (((nth x0.arcs k348 Arc.zero).to) * ((x1.next.length : Nat) : Int))) + (nth (skeys v113) k455 (0 : Int))), (v113.get (nth (skeys v113) k455 (0 : Int)) BSet.zero), (nth x0.arcs k348 Arc.zero).out, (nth x0.arcs k348 Arc.zero).copy⟩ : Arc)) (fun v145 => nxt (v145.f.states, v145.f.starts, v145.f.ends, v145.f.arcs, v145.over, (k455 + 1)))) (fin (iteO t454 (bnd (Ae_ (⟨(⟨i441, l443, l447, l451⟩ : Fst), t454⟩ : Grow)) (fun v195 => fin (fin (some ((⟨v195.1.states, v195.1.starts, v195.1.ends, v195.1.arcs⟩ : Fst), v195.2))))) (nxt (i441, l443, l447, l451, t454, (k399 + 1)))))
noncomputable def Bd_ (x1 : Dfa) (x0 : Fst) (k348 : Nat) (i385 : Int) (l387 : List Tip) (l391 : List Tip) (l395 : List Arc) (t398 : Bool) (k399 : Nat) : Option ((Int × (List Tip) × (List Tip) × (List Arc) × Bool × Nat) ⊕ ((Int × (List Tip) × (List Tip) × (List Arc) × Bool × Nat) ⊕ (Fst × Int))) :=
 iteO (decide (((k399 : Nat) : Int) < ((x1.next.length : Nat) : Int))) (bnd (F3_ x1 ((k399 : Nat) : Int) ((nth x0.arcs k348 Arc.zero).set)) (fun v113 => grd (KeysIn v113 ∧ v113.n ≤ 1000000) (iter (fun q : Int × (List Tip) × (List Tip) × (List Arc) × Bool × Nat => Bk_ v113 x0 k348 x1 k399 q.1 q.2.1 q.2.2.1 q.2.2.2.1 q.2.2.2.2.1 q.2.2.2.2.2) (i385, l387, l391, l395, t398, 0)))) (fin (nxt (i385, l387, l391, l395, t398, (k348 + 1))))
noncomputable def Bg_ (x0 : Fst) (x1 : Dfa) (i334 : Int) (l336 : List Tip) (l340 : List Tip) (l344 : List Arc) (t347 : Bool) (k348 : Nat) : Option ((Int × (List Tip) × (List Tip) × (List Arc) × Bool × Nat) ⊕ (Fst × Int)) :=
 iteO (decide (((k348 : Nat) : Int) < ((x0.arcs.length : Nat) : Int))) (iter (fun q : Int × (List Tip) × (List Tip) × (List Arc) × Bool × Nat => Bd_ x1 x0 k348 q.1 q.2.1 q.2.2.1 q.2.2.2.1 q.2.2.2.2.1 q.2.2.2.2.2) (i334, l336, l340, l344, t347, 0)) (fin (bnd (Ae_ (⟨(⟨i334, l336, l340, l344⟩ : Fst), t347⟩ : Grow)) (fun v196 => some ((⟨v196.1.states, v196.1.starts, v196.1.ends, v196.1.arcs⟩ : Fst), v196.2))))
noncomputable def Be_ (x0 : Fst) (x1 : Dfa) (i210 : Int) (l212 : List Tip) (l216 : List Tip) (l220 : List Arc) (t223 : Bool) (k224 : Nat) : Option ((Int × (List Tip) × (List Tip) × (List Arc) × Bool × Nat) ⊕ (Fst × Int)) :=
 iteO (decide (((k224 : Nat) : Int) < ((x0.ends.length : Nat) : Int))) (iter (fun q : Int × (List Tip) × (List Tip) × (List Arc) × Bool × Nat => Bf_ x1 x0 k224 q.1 q.2.1 q.2.2.1 q.2.2.2.1 q.2.2.2.2.1 q.2.2.2.2.2) (i210, l212, l216, l220, t223, 0)) (fin (iter (fun q : Int × (List Tip) × (List Tip) × (List Arc) × Bool × Nat => Bg_ x0 x1 q.1 q.2.1 q.2.2.1 q.2.2.2.1 q.2.2.2.2.1 q.2.2.2.2.2) (i210, l212, l216, l220, t223, 0)))
noncomputable def Bj_ (x0 : Fst) (x1 : Dfa) (i151 : Int) (l153 : List Tip) (l157 : List Tip) (l161 : List Arc) (t164 : Bool) (k165 : Nat) : Option ((Int × (List Tip) × (List Tip) × (List Arc) × Bool × Nat) ⊕ (Fst × Int)) :=
 iteO (decide (((k165 : Nat) : Int) < ((x0.starts.length : Nat) : Int))) (bnd (A1_ (⟨(⟨i151, l153, l157, l161⟩ : Fst), t164⟩ : Grow) (⟨IntKind.i64.wrap (((nth x0.starts k165 Tip.zero).state) * ((x1.next.length : Nat) : Int)), (nth x0.starts k165 Tip.zero).out⟩ : Tip)) (fun v57 => nxt (v57.f.states, v57.f.starts, v57.f.ends, v57.f.arcs, v57.over, (k165 + 1)))) (fin (iter (fun q : Int × (List Tip) × (List Tip) × (List Arc) × Bool × Nat => Be_ x0 x1 q.1 q.2.1 q.2.2.1 q.2.2.2.1 q.2.2.2.2.1 q.2.2.2.2.2) (i151, l153, l157, l161, t164, 0)))
noncomputable def Di_ (x0 : Fst) (x1 : Dfa) : Option (Fst × Int) :=
 bnd (B7_ x0) (fun v6 => iteO (decide (v6 ≠ 0)) (some ((⟨0, ([] : List Tip), ([] : List Tip), ([] : List Arc)⟩ : Fst), 1)) (bnd (C1_ x1) (fun v10 => iteO (decide (v10 ≠ 0)) (some ((⟨0, ([] : List Tip), ([] : List Tip), ([] : List Arc)⟩ : Fst), 1)) (iteO (decide (1024 < (IntKind.i64.wrap (x0.states * ((x1.next.length : Nat) : Int))))) (bnd (Ae_ (⟨(⟨IntKind.i64.wrap (x0.states * ((x1.next.length : Nat) : Int)), ([] : List Tip), ([] : List Tip), ([] : List Arc)⟩ : Fst), false⟩ : Grow)) (fun v156 => some ((⟨v156.1.states, v156.1.starts, v156.1.ends, v156.1.arcs⟩ : Fst), v156.2))) (iter (fun q : Int × (List Tip) × (List Tip) × (List Arc) × Bool × Nat => Bj_ x0 x1 q.1 q.2.1 q.2.2.1 q.2.2.2.1 q.2.2.2.2.1 q.2.2.2.2.2) ((IntKind.i64.wrap (x0.states * ((x1.next.length : Nat) : Int))), ([] : List Tip), ([] : List Tip), ([] : List Arc), false, 0))))))
def In_ (σ : Store) (r : Fst × Int) : Value → Store → List Res → Prop := fun v σ' H' =>
 ∃ (a1 : Option Addr), ∃ (c1 : Nat), ∃ (a2 : Option Addr), ∃ (c2 : Nat), ∃ (a3 : Option Addr), ∃ (c3 : Nat),  v = .tuple #[.agg #[.int .i64 r.1.states, .slice a1 r.1.starts.length c1, .slice a2 r.1.ends.length c2, .slice a3 r.1.arcs.length c3], .int .i64 r.2] ∧ RS σ' 2 encTip (.slice a1 r.1.starts.length c1) r.1.starts ∧ RS σ' 2 encTip (.slice a2 r.1.ends.length c2) r.1.ends ∧ RS σ' 8 encArc (.slice a3 r.1.arcs.length c3) r.1.arcs ∧ H' = []
theorem H9_ {σ : Store} {x0 : Fst} {a0_0 : Option Addr} {c0_0 : Nat} {a0_1 : Option Addr} {c0_1 : Nat} {a0_2 : Option Addr} {c0_2 : Nat} {x1 : Dfa} {a1_0 : Option Addr} {c1_0 : Nat} {a1_1 : Option Addr} {c1_1 : Nat} {a1_2 : Option Addr} {c1_2 : Nat} (f0_0 : RS σ 2 encTip (.slice a0_0 x0.starts.length c0_0) x0.starts) (f0_1 : RS σ 2 encTip (.slice a0_1 x0.ends.length c0_1) x0.ends) (f0_2 : RS σ 8 encArc (.slice a0_2 x0.arcs.length c0_2) x0.arcs) (f1_0 : RS σ 1 Go.E.encI (.slice a1_0 x1.cls.length c1_0) x1.cls) (f1_1 : RZ σ (pkSl 1 Go.E.encI Go.E.encI_len) (.slice a1_1 x1.next.length c1_1) x1.next) (f1_2 : RS σ 1 encB (.slice a1_2 x1.fin.length c1_2) x1.fin) {r : Fst × Int} (hh : Di_ x0 x1 = some r) :
  Con Tryz.prog 9 #[.agg #[.int .i64 x0.states, .slice a0_0 x0.starts.length c0_0, .slice a0_1 x0.ends.length c0_1, .slice a0_2 x0.arcs.length c0_2], .agg #[.slice a1_0 x1.cls.length c1_0, .slice a1_1 x1.next.length c1_1, .slice a1_2 x1.fin.length c1_2]] σ [] (In_ σ r) := by
 dsimp only [Di_] at hh
 have f0_0b := f0_0.rv.big
 have f0_1b := f0_1.rv.big
 have f0_2b := f0_2.rv.big
 have f1_0b := f1_0.rv.big
 have f1_1b := f1_1.big
 have f1_2b := f1_2.rv.big
 refine Con.mkD (n := 148) Tryz.func9 z z z (fun w0 => ?_)
 refine TB.seq endR_ret (TC.region (TL.op z (boxA z z z z (fun b101 => ?_))))
 refine TL.op z (boxA z z z z (fun b103 => ?_))
 refine TL.op z (OpOk.alloc z ze25 z z (fun b105 => ?_))
 refine TL.op z (OpOk.alloc z ze33 z z (fun b107 => ?_))
 refine TL.en (TB.seq endR_ret (TC.a (TL.w z (loadAll z ag25 sz25 z (i := 3) z z) ?_)))
 obtain ⟨v6, u6, hh⟩ := bnd_e hh
 refine TL.op z (callP (Dq_ (x0 := x0) f0_0 f0_1 f0_2 u6) z z pf24 z z z ?_)
 refine TL.w z (OpVal.neq z z z) (TL.j z z (TL.split 23 z (fun h109 => ?_) (fun h109 => ?_)))
 ·replace hh := iteO_t h109 hh
  replace h109 := of_decide_eq_true h109
  refine TL.f z (TL.f z (TL.f z (TL.w z (pickTB z z z) (TL.en (TC.t z (TC.a (TL.w z (buildL z pl25 ze25 z) (TL.front 1 z z (TL.op z (storeAll z sz25 z z z z z z ?_))))))))))
  refine TL.front 1 z z (TL.op z (storeI z sz33 z z z z z ?_))
  refine TL.en (TC.ofSub (Sub.f [1] 2) (TC.ret (S.r ?_)))
  obtain rfl := so hh
  exact ro [] z (RVs.agg ag25 sz25 z (i := 0) z z (RVs.one ag33 z (i := 1) z z RVs.nil)) ⟨none, 0, none, 0, none, 0, z, (RS.nilF _ encTip encTip_len), (RS.nilF _ encTip encTip_len), (RS.nilF _ encArc encArc_len), z⟩
 ·replace hh := iteO_f h109 hh
  replace h109 := of_decide_eq_false h109
  refine TL.g z (loadAll z ag30 sz30 z (i := 2) z z) ?_
  obtain ⟨v10, u10, hh⟩ := bnd_e hh
  refine TL.gon z z z z z (callP (Dr_ (x0 := x1) f1_0 f1_1 f1_2 u10) z z pf25 z z z ?_)
  refine TL.g z (OpVal.neq z z z) (TL.w z (pickFB z z z) (TL.en (TC.cD z hh (fun h110 hh => ?_) (fun h110 hh => ?_))))
  ·refine TC.a (TL.w z (buildL z pl25 ze25 z) (TL.front 1 z z (TL.op z (storeAll z sz25 z z z z z z ?_))))
   refine TL.front 1 z z (TL.op z (storeI z sz33 z z z z z ?_))
   refine TL.en (TC.ofSub (Sub.f [1] 2) (TC.ret (S.r ?_)))
   obtain rfl := so hh
   exact ro [] z (RVs.agg ag25 sz25 z (i := 0) z z (RVs.one ag33 z (i := 1) z z RVs.nil)) ⟨none, 0, none, 0, none, 0, z, (RS.nilF _ encTip encTip_len), (RS.nilF _ encTip encTip_len), (RS.nilF _ encArc encArc_len), z⟩
  ·refine TC.skip (S.n (TB.seq endR_ret (TC.region (TL.w z (buildL z pl67 ze67 z) (TL.op z (boxA z z z z (fun b111 => ?_)))))))
   refine TL.l z z (TL.en (TB.seqD (TLB.v z (moveLoc (.inl z) z) z z (TLB.dfr (dargs := [loc b111 0, loc b105 0, loc b107 0]) z z z z z (fun a_ w_ hw_ ha_ => ?_)))))
   refine TB.fin (Q := dfrQ _ _ _ _ 26 [loc b111 0, loc b105 0, loc b107 0]) (endR_dfr (cap := []) (dargs := [loc b111 0, loc b105 0, loc b107 0]) pf26) ?_ w_ a_ hw_ ha_
   clear hw_ ha_ a_ w_
   refine TC.a (TL.w z (fieldLoc z fo30_1 z) (TL.w z (loadLoc z ag27 z (i := 3) z z) (TL.w z (lenC z underlying27 z) (TL.i z z (TL.en (TC.a (TL.l z z (TL.w z (fieldLoc z fo25_0 z) (TL.w z (loadLoc z ag3 z (i := 4) z z) (TL.i z z (TL.w z (mulW z z z) (TL.w z (nilCheckLoc z z) (TL.w z (fieldLoc z fo67_0 z) (TL.w z (fieldLoc z fo25_0 z) (TL.op z (storeI z sz3 z z z z z ?_))))))))))))))))
   refine TL.en (TC.seq (TC.a (TL.l z z (TL.w z (nilCheckLoc z z) (TL.w z (fieldLoc z fo67_0 z) (TL.w z (fieldLoc z fo25_0 z) (TL.w z (loadLoc z ag3 z (i := 0) z z) (TL.w z (OpVal.gtr z z z) (TL.en (TC.cD z hh (fun h113 hh => ?_) (fun h113 hh => ?_)))))))))))
   ·refine TC.nilS 41 2 encTip (TC.nilS 41 2 encTip (TC.nilS 59 8 encArc (TC.front 4 z z (TC.front 5 z z (TC.front 2 z z (TC.front 3 z z (TC.front 4 z z (TC.front 5 z z ?_))))))))
    obtain ⟨v156, u156, hh⟩ := bnd_e hh
    refine TC.ret (S.r (⟨.inl z, _, Sub.pre 6 z, (Ar_ u156).mono ?_⟩))
    rintro _ τ117 _ hle117 ⟨a117_1, c117_2, a117_4, c117_5, a117_7, c117_8, rfl, f117_3, f117_6, f117_9, rfl⟩
    replace f0_0 := f0_0.mono hle117
    replace f0_1 := f0_1.mono hle117
    replace f0_2 := f0_2.mono hle117
    replace f1_0 := f1_0.mono hle117
    replace f1_1 := f1_1.mono hle117
    replace f1_2 := f1_2.mono hle117
    have f117_3b := f117_3.rv.big
    have f117_6b := f117_6.rv.big
    have f117_9b := f117_9.rv.big
    obtain rfl := so hh
    exact RetOk.mk' (rs := [.cell 4 25, .cell 5 33]) [] z (.inl z) (RVs.agg ag25 sz25 z (i := 0) z z (RVs.one ag33 z (i := 1) z z RVs.nil)) (List.nil_sublist _) ⟨a117_1, c117_2, a117_4, c117_5, a117_7, c117_8, z, f117_3, f117_6, f117_9, z⟩
   ·refine TC.skip (S.n (TC.seq (TC.a (TL.w z (fieldLoc z fo25_1 z) (TL.w z (loadLoc z ag22 z (i := 4) z z) (TL.w z (lenC z underlying22 z) (TL.i z z (TL.en (TC.block (TC.nilS 41 2 encTip (TC.nilS 41 2 encTip (TC.nilS 59 8 encArc (TC.loopG (α := (Int × (List Tip) × (List Tip) × (List Arc) × Bool × Nat) × ((Option Addr) × Nat × (Option Addr) × Nat × (Option Addr) × Nat)) (rgs [(9, 1), (52, 14)]) (fun g => [(52, .int .i64 ((g.1.2.2.2.2.2 : Nat) : Int))]) (fun g => [Res.cells b101 #[.int .i64 x0.states, .slice a0_0 x0.starts.length c0_0, .slice a0_1 x0.ends.length c0_1, .slice a0_2 x0.arcs.length c0_2] 25, Res.cells b103 #[.slice a1_0 x1.cls.length c1_0, .slice a1_1 x1.next.length c1_1, .slice a1_2 x1.fin.length c1_2] 30, Res.cells b105 #[.int .i64 0, .slice none 0 0, .slice none 0 0, .slice none 0 0] 25, Res.cells b107 #[.int .i64 0] 33, Res.cells b111 #[.int .i64 g.1.1, .slice g.2.1 g.1.2.1.length g.2.2.1, .slice g.2.2.2.1 g.1.2.2.1.length g.2.2.2.2.1, .slice g.2.2.2.2.2.1 g.1.2.2.2.1.length g.2.2.2.2.2.2, .bool g.1.2.2.2.2.1] 67, Res.rowS 41 2 encTip (.slice g.2.1 g.1.2.1.length g.2.2.1) g.1.2.1, Res.rowS 41 2 encTip (.slice g.2.2.2.1 g.1.2.2.1.length g.2.2.2.2.1) g.1.2.2.1, Res.rowS 59 8 encArc (.slice g.2.2.2.2.2.1 g.1.2.2.2.1.length g.2.2.2.2.2.2) g.1.2.2.2.1]) (fun g => σ) (fun g => iter (fun q : Int × (List Tip) × (List Tip) × (List Arc) × Bool × Nat => Bj_ x0 x1 q.1 q.2.1 q.2.2.1 q.2.2.2.1 q.2.2.2.2.1 q.2.2.2.2.2) g.1 = some r) (fun g => rounds (fun q : Int × (List Tip) × (List Tip) × (List Arc) × Bool × Nat => Bj_ x0 x1 q.1 q.2.1 q.2.2.1 q.2.2.2.1 q.2.2.2.2.1 q.2.2.2.2.2) g.1) (((IntKind.i64.wrap (x0.states * ((x1.next.length : Nat) : Int))), ([] : List Tip), ([] : List Tip), ([] : List Arc), false, 0), (none, 0, none, 0, none, 0)) (Sub.f [1, 2, 3, 4, 5, 6, 7] 8) z (by repeat (first | exact trivial | refine ⟨z, ?_⟩)) hh (fun g1 j1 hg1 => ?_))))))))))))))
    obtain ⟨⟨i151, l153, l157, l161, t164, k165⟩, ⟨a154, c155, a158, c159, a162, c163⟩⟩ := g1
    have hh := hg1; clear hg1
    try dsimp only
    obtain ⟨z1, hh, hR1⟩ := iter_e hh
    dsimp only [Bj_] at hh
    refine TC.isSl (i := 5) z (fun _ hb169 _ => ?_)
    refine TC.isSl (i := 6) z (fun _ hb170 _ => ?_)
    refine TC.isSl (i := 7) z (fun _ hb171 _ => ?_)
    refine TC.a (TL.w z (OpVal.lss z z z) (TL.en (TC.seq (TC.cD z hh (fun h172 hh => ?_) (fun h172 hh => ?_)))))
    ·refine TC.skip (S.n (TC.seq (TC.block (TC.a (TL.w z (indexN z underlying22 sz41 z z f0_0.rv.sl (by omega)) (TL.w z (loadSA Tip.zero z ag41 sz41 z f0_0 (by omega) (by omega)) (TL.op z (OpOk.alloc z ze41 z z (fun b173 => ?_)))))))))
     refine TL.op z (storeAll z sz41 z z z z z z ?_)
     refine TL.en (TC.region (TL.l z z (TL.w z (fieldLoc z fo41_0 z) (TL.w z (loadLoc z ag3 z (i := 0) z z) (TL.i z z (TL.w z (mulW z z z) (TL.w z (fieldLoc z fo41_1 z) (TL.w z (loadLoc z ag9 z (i := 0) z z) (TL.w z (buildL z pl41 ze41 z) (TL.front 8 z z (TL.front 8 z z (TL.front 8 z z (TL.front 8 z z ?_)))))))))))))
     obtain ⟨v57, u57, hh⟩ := bnd_e hh
     refine TL.op z (OpOk.call (C2_ u57) z z pf27 z z z z ?_)
     rintro _ _ _ hle175 ⟨a175_1, c175_2, a175_3, c175_4, a175_5, c175_6, rfl, rfl, rfl⟩
     refine TL.nil (B.n (S.n (TC.region (TL.w z (OpVal.succ z z z (by omega)) (TL.i z z (TL.en ?_))))))
     obtain ⟨hh, hlt179⟩ := nxt_x hR1 hh
     exact lf ((v57.f.states, v57.f.starts, v57.f.ends, v57.f.arcs, v57.over, (k165 + 1)), (a175_1, c175_2, a175_3, c175_4, a175_5, c175_6)) hlt179 hh (Sub.f [3, 3, 3, 3, 8, 8, 8, 8] 8)
    ·refine TC.exit (S.x (S.x ?_))
     replace hh := fin_x hR1 hh
     refine TC.exitHere (S.n (TC.seq (TC.a (TL.w z (fieldLoc z fo25_2 z) (TL.w z (loadLoc z ag22 z (i := 0) z z) (TL.w z (lenC z underlying22 z) (TL.i z z (TL.en (TC.block (TC.loopG (α := (Int × (List Tip) × (List Tip) × (List Arc) × Bool × Nat) × ((Option Addr) × Nat × (Option Addr) × Nat × (Option Addr) × Nat)) (rgs [(11, 3), (69, 26)]) (fun g => [(69, .int .i64 ((g.1.2.2.2.2.2 : Nat) : Int))]) (fun g => [Res.cells b101 #[.int .i64 x0.states, .slice a0_0 x0.starts.length c0_0, .slice a0_1 x0.ends.length c0_1, .slice a0_2 x0.arcs.length c0_2] 25, Res.cells b103 #[.slice a1_0 x1.cls.length c1_0, .slice a1_1 x1.next.length c1_1, .slice a1_2 x1.fin.length c1_2] 30, Res.cells b105 #[.int .i64 0, .slice none 0 0, .slice none 0 0, .slice none 0 0] 25, Res.cells b107 #[.int .i64 0] 33, Res.cells b111 #[.int .i64 g.1.1, .slice g.2.1 g.1.2.1.length g.2.2.1, .slice g.2.2.2.1 g.1.2.2.1.length g.2.2.2.2.1, .slice g.2.2.2.2.2.1 g.1.2.2.2.1.length g.2.2.2.2.2.2, .bool g.1.2.2.2.2.1] 67, Res.rowS 41 2 encTip (.slice g.2.1 g.1.2.1.length g.2.2.1) g.1.2.1, Res.rowS 41 2 encTip (.slice g.2.2.2.1 g.1.2.2.1.length g.2.2.2.2.1) g.1.2.2.1, Res.rowS 59 8 encArc (.slice g.2.2.2.2.2.1 g.1.2.2.2.1.length g.2.2.2.2.2.2) g.1.2.2.2.1]) (fun g => σ) (fun g => iter (fun q : Int × (List Tip) × (List Tip) × (List Arc) × Bool × Nat => Be_ x0 x1 q.1 q.2.1 q.2.2.1 q.2.2.2.1 q.2.2.2.2.1 q.2.2.2.2.2) g.1 = some r) (fun g => rounds (fun q : Int × (List Tip) × (List Tip) × (List Arc) × Bool × Nat => Be_ x0 x1 q.1 q.2.1 q.2.2.1 q.2.2.2.1 q.2.2.2.2.1 q.2.2.2.2.2) g.1) ((i151, l153, l157, l161, t164, 0), (a154, c155, a158, c159, a162, c163)) (Sub.f [7, 7, 7, 7, 7, 7, 7, 7] 8) z (by repeat (first | exact trivial | refine ⟨z, ?_⟩)) hh (fun g2 j2 hg2 => ?_)))))))))))
     obtain ⟨⟨i210, l212, l216, l220, t223, k224⟩, ⟨a213, c214, a217, c218, a221, c222⟩⟩ := g2
     have hh := hg2; clear hg2
     try dsimp only
     obtain ⟨z1, hh, hR1⟩ := iter_e hh
     dsimp only [Be_] at hh
     refine TC.isSl (i := 5) z (fun _ hb225 _ => ?_)
     refine TC.isSl (i := 6) z (fun _ hb226 _ => ?_)
     refine TC.isSl (i := 7) z (fun _ hb227 _ => ?_)
     refine TC.a (TL.w z (OpVal.lss z z z) (TL.en (TC.seq (TC.cD z hh (fun h228 hh => ?_) (fun h228 hh => ?_)))))
     ·refine TC.skip (S.n (TC.seq (TC.block (TC.a (TL.w z (indexN z underlying22 sz41 z z f0_1.rv.sl (by omega)) (TL.w z (loadSA Tip.zero z ag41 sz41 z f0_1 (by omega) (by omega)) (TL.op z (OpOk.alloc z ze41 z z (fun b229 => ?_)))))))))
      refine TL.op z (storeAll z sz41 z z z z z z ?_)
      refine TL.en (TC.a (TL.w z (fieldLoc z fo30_2 z) (TL.w z (loadLoc z ag28 z (i := 2) z z) (TL.w z (lenC z underlying28 z) (TL.i z z (TL.en (TC.block (TC.loopG (α := (Int × (List Tip) × (List Tip) × (List Arc) × Bool × Nat) × ((Option Addr) × Nat × (Option Addr) × Nat × (Option Addr) × Nat)) (rgs [(12, 2), (76, 18)]) (fun g => [(76, .int .i64 ((g.1.2.2.2.2.2 : Nat) : Int))]) (fun g => [Res.cells b101 #[.int .i64 x0.states, .slice a0_0 x0.starts.length c0_0, .slice a0_1 x0.ends.length c0_1, .slice a0_2 x0.arcs.length c0_2] 25, Res.cells b103 #[.slice a1_0 x1.cls.length c1_0, .slice a1_1 x1.next.length c1_1, .slice a1_2 x1.fin.length c1_2] 30, Res.cells b105 #[.int .i64 0, .slice none 0 0, .slice none 0 0, .slice none 0 0] 25, Res.cells b107 #[.int .i64 0] 33, Res.cells b111 #[.int .i64 g.1.1, .slice g.2.1 g.1.2.1.length g.2.2.1, .slice g.2.2.2.1 g.1.2.2.1.length g.2.2.2.2.1, .slice g.2.2.2.2.2.1 g.1.2.2.2.1.length g.2.2.2.2.2.2, .bool g.1.2.2.2.2.1] 67, Res.rowS 41 2 encTip (.slice g.2.1 g.1.2.1.length g.2.2.1) g.1.2.1, Res.rowS 41 2 encTip (.slice g.2.2.2.1 g.1.2.2.1.length g.2.2.2.2.1) g.1.2.2.1, Res.rowS 59 8 encArc (.slice g.2.2.2.2.2.1 g.1.2.2.2.1.length g.2.2.2.2.2.2) g.1.2.2.2.1, Res.cells b229 #[.int .i64 ((nth x0.ends k224 Tip.zero).state), .string (bs ((nth x0.ends k224 Tip.zero).out))] 41]) (fun g => σ) (fun g => iter (fun q : Int × (List Tip) × (List Tip) × (List Arc) × Bool × Nat => Bf_ x1 x0 k224 q.1 q.2.1 q.2.2.1 q.2.2.2.1 q.2.2.2.2.1 q.2.2.2.2.2) g.1 = some z1) (fun g => rounds (fun q : Int × (List Tip) × (List Tip) × (List Arc) × Bool × Nat => Bf_ x1 x0 k224 q.1 q.2.1 q.2.2.1 q.2.2.2.1 q.2.2.2.2.1 q.2.2.2.2.2) g.1) ((i210, l212, l216, l220, t223, 0), (a213, c214, a217, c218, a221, c222)) (Sub.f [8, 8, 8, 8, 8, 8, 8, 8] 9) z (by repeat (first | exact trivial | refine ⟨z, ?_⟩)) hh (fun g3 j3 hg3 => ?_)))))))))
      obtain ⟨⟨i261, l263, l267, l271, t274, k275⟩, ⟨a264, c265, a268, c269, a272, c273⟩⟩ := g3
      have hh := hg3; clear hg3
      try dsimp only
      obtain ⟨z2, hh, hR2⟩ := iter_e hh
      dsimp only [Bf_] at hh
      refine TC.isSl (i := 5) z (fun _ hb276 _ => ?_)
      refine TC.isSl (i := 6) z (fun _ hb277 _ => ?_)
      refine TC.isSl (i := 7) z (fun _ hb278 _ => ?_)
      refine TC.a (TL.w z (OpVal.lss z z z) (TL.en (TC.seq (TC.cD z hh (fun h279 hh => ?_) (fun h279 hh => ?_)))))
      ·refine TC.skip (S.n (TC.cutG (α := (Int × (List Tip) × (List Tip) × (List Arc) × Bool) × ((Option Addr) × Nat × (Option Addr) × Nat × (Option Addr) × Nat)) (rgs [(12, 2), (78, 15)]) (fun g => []) (fun g => [Res.cells b101 #[.int .i64 x0.states, .slice a0_0 x0.starts.length c0_0, .slice a0_1 x0.ends.length c0_1, .slice a0_2 x0.arcs.length c0_2] 25, Res.cells b103 #[.slice a1_0 x1.cls.length c1_0, .slice a1_1 x1.next.length c1_1, .slice a1_2 x1.fin.length c1_2] 30, Res.cells b105 #[.int .i64 0, .slice none 0 0, .slice none 0 0, .slice none 0 0] 25, Res.cells b107 #[.int .i64 0] 33, Res.cells b111 #[.int .i64 g.1.1, .slice g.2.1 g.1.2.1.length g.2.2.1, .slice g.2.2.2.1 g.1.2.2.1.length g.2.2.2.2.1, .slice g.2.2.2.2.2.1 g.1.2.2.2.1.length g.2.2.2.2.2.2, .bool g.1.2.2.2.2] 67, Res.rowS 41 2 encTip (.slice g.2.1 g.1.2.1.length g.2.2.1) g.1.2.1, Res.rowS 41 2 encTip (.slice g.2.2.2.1 g.1.2.2.1.length g.2.2.2.2.1) g.1.2.2.1, Res.rowS 59 8 encArc (.slice g.2.2.2.2.2.1 g.1.2.2.2.1.length g.2.2.2.2.2.2) g.1.2.2.2.1, Res.cells b229 #[.int .i64 ((nth x0.ends k224 Tip.zero).state), .string (bs ((nth x0.ends k224 Tip.zero).out))] 41]) (fun g => σ) (fun g => Eh_ k275 g.1.1 g.1.2.1 g.1.2.2.1 g.1.2.2.2.1 g.1.2.2.2.2 = some z2) ?_ (fun g j hg => ?_)))
       ·skip
        refine TC.block (TC.a (TL.i z z (TL.w z (indexN z underlying28 sz4 z z f1_2.rv.sl (by omega)) (TL.w z (loadS1 false z ag4 z f1_2 (by omega) z) (TL.i z z (TL.j z z (TL.en (TC.a (TL.j z z (TL.en (TC.cB z hh (fun h294 hh => ?_) (fun h294 hh => ?_))))))))))))
        ·refine TC.region (TL.l z z (TL.w z (fieldLoc z fo41_0 z) (TL.w z (loadLoc z ag3 z (i := 8) z z) (TL.i z z (TL.w z (mulW z z z) (TL.i z z (TL.w z (addW z z z) (TL.w z (fieldLoc z fo41_1 z) (TL.w z (loadLoc z ag9 z (i := 8) z z) (TL.w z (buildL z pl41 ze41 z) (TL.front 7 z z (TL.front 7 z z (TL.front 7 z z (TL.front 7 z z ?_))))))))))))))
         obtain ⟨v90, u90, hh⟩ := bnd_e hh
         refine TL.op z (OpOk.call (Ck_ u90) z z pf28 z z z z ?_)
         rintro _ _ _ hle295 ⟨a295_1, c295_2, a295_3, c295_4, a295_5, c295_6, rfl, rfl, rfl⟩
         exact TL.nil (B.n (S.n (cf ((v90.f.states, v90.f.starts, v90.f.ends, v90.f.arcs, v90.over), (a295_1, c295_2, a295_3, c295_4, a295_5, c295_6)) hh (Sub.f [8, 4, 4, 4, 4, 8, 8, 8, 8] 9))))
        ·exact TC.skip (B.n (S.n (cf ((i261, l263, l267, l271, t274), (a264, c265, a268, c269, a272, c273)) hh (Sub.f [8, 8, 8, 8, 8, 8, 8, 8, 8] 9))))
       ·skip
        obtain ⟨⟨i280, l282, l286, l290, t293⟩, ⟨a283, c284, a287, c288, a291, c292⟩⟩ := g
        have hh := hg; clear hg
        try dsimp only
        dsimp only [Eh_] at hh
        refine TC.isSl (i := 5) z (fun _ hb299 _ => ?_)
        refine TC.isSl (i := 6) z (fun _ hb300 _ => ?_)
        refine TC.isSl (i := 7) z (fun _ hb301 _ => ?_)
        refine TC.region (TL.w z (OpVal.succ z z z (by omega)) (TL.i z z (TL.en ?_)))
        obtain ⟨hh, hlt302⟩ := nxt_x hR2 hh
        exact lf ((i280, l282, l286, l290, t293, (k275 + 1)), (a283, c284, a287, c288, a291, c292)) hlt302 hh (Sub.f [8, 8, 8, 8, 8, 8, 8, 8, 8] 9)
      ·refine TC.exit (S.x (S.x ?_))
       replace hh := fin_x hR2 hh
       refine TC.exitHere (B.n (S.n (TC.region (TL.w z (OpVal.succ z z z (by omega)) (TL.i z z (TL.en ?_))))))
       obtain ⟨hh, hlt303⟩ := nxt_x hR1 hh
       exact lf ((i261, l263, l267, l271, t274, (k224 + 1)), (a264, c265, a268, c269, a272, c273)) hlt303 hh (Sub.f [7, 7, 7, 7, 7, 7, 7, 7] 8)
     ·refine TC.exit (S.x (S.x ?_))
      replace hh := fin_x hR1 hh
      refine TC.exitHere (S.n (TC.seq (TC.a (TL.w z (fieldLoc z fo25_3 z) (TL.w z (loadLoc z ag23 z (i := 0) z z) (TL.w z (lenC z underlying23 z) (TL.i z z (TL.en (TC.block (TC.loopG (α := (Int × (List Tip) × (List Tip) × (List Arc) × Bool × Nat) × ((Option Addr) × Nat × (Option Addr) × Nat × (Option Addr) × Nat)) (rgs [(15, 3), (19, 1), (98, 50)]) (fun g => [(98, .int .i64 ((g.1.2.2.2.2.2 : Nat) : Int))]) (fun g => [Res.cells b103 #[.slice a1_0 x1.cls.length c1_0, .slice a1_1 x1.next.length c1_1, .slice a1_2 x1.fin.length c1_2] 30, Res.cells b105 #[.int .i64 0, .slice none 0 0, .slice none 0 0, .slice none 0 0] 25, Res.cells b107 #[.int .i64 0] 33, Res.cells b111 #[.int .i64 g.1.1, .slice g.2.1 g.1.2.1.length g.2.2.1, .slice g.2.2.2.1 g.1.2.2.1.length g.2.2.2.2.1, .slice g.2.2.2.2.2.1 g.1.2.2.2.1.length g.2.2.2.2.2.2, .bool g.1.2.2.2.2.1] 67, Res.rowS 41 2 encTip (.slice g.2.1 g.1.2.1.length g.2.2.1) g.1.2.1, Res.rowS 41 2 encTip (.slice g.2.2.2.1 g.1.2.2.1.length g.2.2.2.2.1) g.1.2.2.1, Res.rowS 59 8 encArc (.slice g.2.2.2.2.2.1 g.1.2.2.2.1.length g.2.2.2.2.2.2) g.1.2.2.2.1]) (fun g => σ) (fun g => iter (fun q : Int × (List Tip) × (List Tip) × (List Arc) × Bool × Nat => Bg_ x0 x1 q.1 q.2.1 q.2.2.1 q.2.2.2.1 q.2.2.2.2.1 q.2.2.2.2.2) g.1 = some r) (fun g => rounds (fun q : Int × (List Tip) × (List Tip) × (List Arc) × Bool × Nat => Bg_ x0 x1 q.1 q.2.1 q.2.2.1 q.2.2.2.1 q.2.2.2.2.1 q.2.2.2.2.2) g.1) ((i210, l212, l216, l220, t223, 0), (a213, c214, a217, c218, a221, c222)) (Sub.f [7, 7, 7, 7, 7, 7, 7] 7) z (by repeat (first | exact trivial | refine ⟨z, ?_⟩)) hh (fun g4 j4 hg4 => ?_)))))))))))
      obtain ⟨⟨i334, l336, l340, l344, t347, k348⟩, ⟨a337, c338, a341, c342, a345, c346⟩⟩ := g4
      have hh := hg4; clear hg4
      try dsimp only
      obtain ⟨z1, hh, hR1⟩ := iter_e hh
      dsimp only [Bg_] at hh
      refine TC.isSl (i := 4) z (fun _ hb349 _ => ?_)
      refine TC.isSl (i := 5) z (fun _ hb350 _ => ?_)
      refine TC.isSl (i := 6) z (fun _ hb351 _ => ?_)
      refine TC.a (TL.w z (OpVal.lss z z z) (TL.en (TC.seq (TC.cD z hh (fun h352 hh => ?_) (fun h352 hh => ?_)))))
      ·refine TC.skip (S.n (TC.seq (TC.block (TC.a (TL.w z (indexN z underlying23 sz59 z z f0_2.rv.sl (by omega)) (TL.w z (loadSA Arc.zero z ag59 sz59 z f0_2 (by omega) (by omega)) (TL.op z (OpOk.alloc z ze59 z z (fun b353 => ?_)))))))))
       refine TL.op z (storeAll z sz59 z z z z z z ?_)
       refine TL.en (TC.a (TL.i z z (TL.i z z (TL.en (TC.block (TC.loopG (α := (Int × (List Tip) × (List Tip) × (List Arc) × Bool × Nat) × ((Option Addr) × Nat × (Option Addr) × Nat × (Option Addr) × Nat)) (rgs [(16, 2), (19, 1), (103, 44)]) (fun g => [(103, .int .i64 ((g.1.2.2.2.2.2 : Nat) : Int))]) (fun g => [Res.cells b103 #[.slice a1_0 x1.cls.length c1_0, .slice a1_1 x1.next.length c1_1, .slice a1_2 x1.fin.length c1_2] 30, Res.cells b105 #[.int .i64 0, .slice none 0 0, .slice none 0 0, .slice none 0 0] 25, Res.cells b107 #[.int .i64 0] 33, Res.cells b111 #[.int .i64 g.1.1, .slice g.2.1 g.1.2.1.length g.2.2.1, .slice g.2.2.2.1 g.1.2.2.1.length g.2.2.2.2.1, .slice g.2.2.2.2.2.1 g.1.2.2.2.1.length g.2.2.2.2.2.2, .bool g.1.2.2.2.2.1] 67, Res.rowS 41 2 encTip (.slice g.2.1 g.1.2.1.length g.2.2.1) g.1.2.1, Res.rowS 41 2 encTip (.slice g.2.2.2.1 g.1.2.2.1.length g.2.2.2.2.1) g.1.2.2.1, Res.rowS 59 8 encArc (.slice g.2.2.2.2.2.1 g.1.2.2.2.1.length g.2.2.2.2.2.2) g.1.2.2.2.1, Res.cells b353 #[.int .i64 ((nth x0.arcs k348 Arc.zero).frm), .int .i64 ((nth x0.arcs k348 Arc.zero).to), .int .u64 ((((nth x0.arcs k348 Arc.zero).set).a : Nat) : Int), .int .u64 ((((nth x0.arcs k348 Arc.zero).set).b : Nat) : Int), .int .u64 ((((nth x0.arcs k348 Arc.zero).set).c : Nat) : Int), .int .u64 ((((nth x0.arcs k348 Arc.zero).set).d : Nat) : Int), .string (bs ((nth x0.arcs k348 Arc.zero).out)), .bool ((nth x0.arcs k348 Arc.zero).copy)] 59]) (fun g => σ) (fun g => iter (fun q : Int × (List Tip) × (List Tip) × (List Arc) × Bool × Nat => Bd_ x1 x0 k348 q.1 q.2.1 q.2.2.1 q.2.2.2.1 q.2.2.2.2.1 q.2.2.2.2.2) g.1 = some z1) (fun g => rounds (fun q : Int × (List Tip) × (List Tip) × (List Arc) × Bool × Nat => Bd_ x1 x0 k348 q.1 q.2.1 q.2.2.1 q.2.2.2.1 q.2.2.2.2.1 q.2.2.2.2.2) g.1) ((i334, l336, l340, l344, t347, 0), (a337, c338, a341, c342, a345, c346)) (Sub.f [7, 7, 7, 7, 7, 7, 7] 8) z (by repeat (first | exact trivial | refine ⟨z, ?_⟩)) hh (fun g5 j5 hg5 => ?_)))))))
       obtain ⟨⟨i385, l387, l391, l395, t398, k399⟩, ⟨a388, c389, a392, c393, a396, c397⟩⟩ := g5
       have hh := hg5; clear hg5
       try dsimp only
       obtain ⟨z2, hh, hR2⟩ := iter_e hh
       dsimp only [Bd_] at hh
       refine TC.isSl (i := 4) z (fun _ hb400 _ => ?_)
       refine TC.isSl (i := 5) z (fun _ hb401 _ => ?_)
       refine TC.isSl (i := 6) z (fun _ hb402 _ => ?_)
       refine TC.a (TL.w z (OpVal.lss z z z) (TL.en (TC.seq (TC.cD z hh (fun h403 hh => ?_) (fun h403 hh => ?_)))))
       ·refine TC.skip (S.n (TC.seq (TC.block (TC.a (TL.i z z (TL.i z z (TL.en (TC.a (TL.w z (loadAll z ag30 sz30 z (i := 0) z z) (TL.i z z (TL.w z (fieldLoc z fo59_2 z) (TL.w z (loadLocA z ag57 sz57 z (i := 7) z z z) ?_))))))))))))
        obtain ⟨v113, u113, hh⟩ := bnd_e hh
        refine TL.op z (OpOk.call (H7_ f1_0 f1_1 f1_2 u113) z z pf29 z z z z ?_)
        rintro _ _ _ hle404 ⟨b404_1, rfl, rfl, rfl⟩
        refine TL.w z (moveMap (.inr z) z) (TL.en (TC.seq (TC.a (TL.w z (moveMap (.inl z) z) (TL.op z (OpOk.call (Con.keysI layK z z z _) z z pf31 z z z z ?_))))))
        rintro _ _ _ _ ⟨bm406, rfl, rfl, rfl⟩
        have u117 := grd_c hh
        replace hh := grd_t hh
        refine TL.front 1 z z (TL.front 1 z z (TL.op z (OpOk.call (Con.sortedO layK1 layK6 layInt z z z z (enters_of Tryz.func57 (by kernel_rfl) z) (layK1.f10.enters z) u117.1 u117.2) z z pf30 z z z z ?_)))
        rintro _ _ _ _ ⟨a408, c409, rfl, rfl, rfl⟩
        refine TL.w z (lenC z underlying26 z) (TL.i z z (TL.en (TC.block (TC.loopG (α := (Int × (List Tip) × (List Tip) × (List Arc) × Bool × Nat) × ((Option Addr) × Nat × (Option Addr) × Nat × (Option Addr) × Nat)) (rgs [(19, 1), (115, 27)]) (fun g => [(115, .int .i64 ((g.1.2.2.2.2.2 : Nat) : Int))]) (fun g => [Res.cells b103 #[.slice a1_0 x1.cls.length c1_0, .slice a1_1 x1.next.length c1_1, .slice a1_2 x1.fin.length c1_2] 30, Res.cells b105 #[.int .i64 0, .slice none 0 0, .slice none 0 0, .slice none 0 0] 25, Res.cells b107 #[.int .i64 0] 33, Res.cells b111 #[.int .i64 g.1.1, .slice g.2.1 g.1.2.1.length g.2.2.1, .slice g.2.2.2.1 g.1.2.2.1.length g.2.2.2.2.1, .slice g.2.2.2.2.2.1 g.1.2.2.2.1.length g.2.2.2.2.2.2, .bool g.1.2.2.2.2.1] 67, Res.rowS 41 2 encTip (.slice g.2.1 g.1.2.1.length g.2.2.1) g.1.2.1, Res.rowS 41 2 encTip (.slice g.2.2.2.1 g.1.2.2.1.length g.2.2.2.2.1) g.1.2.2.1, Res.rowS 59 8 encArc (.slice g.2.2.2.2.2.1 g.1.2.2.2.1.length g.2.2.2.2.2.2) g.1.2.2.2.1, Res.cells b353 #[.int .i64 ((nth x0.arcs k348 Arc.zero).frm), .int .i64 ((nth x0.arcs k348 Arc.zero).to), .int .u64 ((((nth x0.arcs k348 Arc.zero).set).a : Nat) : Int), .int .u64 ((((nth x0.arcs k348 Arc.zero).set).b : Nat) : Int), .int .u64 ((((nth x0.arcs k348 Arc.zero).set).c : Nat) : Int), .int .u64 ((((nth x0.arcs k348 Arc.zero).set).d : Nat) : Int), .string (bs ((nth x0.arcs k348 Arc.zero).out)), .bool ((nth x0.arcs k348 Arc.zero).copy)] 59, Res.mapB keyI setV b404_1 v113, Res.rowS 3 1 Go.E.encI (.slice a408 (skeys v113).length c409) (skeys v113)]) (fun g => σ) (fun g => iter (fun q : Int × (List Tip) × (List Tip) × (List Arc) × Bool × Nat => Bk_ v113 x0 k348 x1 k399 q.1 q.2.1 q.2.2.1 q.2.2.2.1 q.2.2.2.2.1 q.2.2.2.2.2) g.1 = some z2) (fun g => rounds (fun q : Int × (List Tip) × (List Tip) × (List Arc) × Bool × Nat => Bk_ v113 x0 k348 x1 k399 q.1 q.2.1 q.2.2.1 q.2.2.2.1 q.2.2.2.2.1 q.2.2.2.2.2) g.1) ((i385, l387, l391, l395, t398, 0), (a388, c389, a392, c393, a396, c397)) (Sub.f [2, 10, 10, 10, 10, 10, 10, 10, 10] 10) z (by repeat (first | exact trivial | refine ⟨z, ?_⟩)) hh (fun g6 j6 hg6 => ?_)))))
        obtain ⟨⟨i441, l443, l447, l451, t454, k455⟩, ⟨a444, c445, a448, c449, a452, c453⟩⟩ := g6
        have hh := hg6; clear hg6
        try dsimp only
        obtain ⟨z3, hh, hR3⟩ := iter_e hh
        dsimp only [Bk_] at hh
        refine TC.isSl (i := 4) z (fun _ hb456 _ => ?_)
        refine TC.isSl (i := 5) z (fun _ hb457 _ => ?_)
        refine TC.isSl (i := 6) z (fun _ hb458 _ => ?_)
        refine TC.isSl (i := 9) z (fun _ hb459 _ => ?_)
        refine TC.a (TL.w z (OpVal.lss z z z) (TL.en (TC.seq (TC.cD z hh (fun h460 hh => ?_) (fun h460 hh => ?_)))))
        ·refine TC.skip (S.n (TC.seq (TC.block (TC.a (TL.isSl (i := 9) z (fun hs461 _ _ => ?_))))))
         refine TL.w z (indexN z underlying26 sz3 z z hs461 (by omega)) (TL.w z (loadO1 (0 : Int) z ag3 z (q := 9) z Go.E.encI_len (by omega) z) (TL.i z z (TL.en (TC.region (TL.l z z (TL.w z (fieldLoc z fo59_0 z) (TL.w z (loadLoc z ag3 z (i := 7) z z) (TL.i z z (TL.w z (mulW z z z) (TL.i z z (TL.w z (addW z z z) (TL.w z (fieldLoc z fo59_1 z) (TL.w z (loadLoc z ag3 z (i := 7) z z) (TL.i z z (TL.w z (mulW z z z) (TL.i z z (TL.w z (addW z z z) (TL.w z (moveMap (.inl z) z) (TL.i z z (TL.w z (OpVal.of (lookB1 BSet.zero (q := (nth (skeys v113) k455 (0 : Int))) z underlying72 ze57 z (i := 8) z z (keyL_int underlying3)) (v' := setV (v113.get (nth (skeys v113) k455 (0 : Int)) BSet.zero)) z) (TL.w z (fieldLoc z fo59_3 z) (TL.w z (loadLoc z ag9 z (i := 7) z z) (TL.w z (fieldLoc z fo59_4 z) (TL.w z (loadLoc z ag4 z (i := 7) z z) (TL.w z (buildL z pl59 ze59 z) (TL.front 6 z z (TL.front 6 z z (TL.front 6 z z (TL.front 6 z z ?_)))))))))))))))))))))))))))))
         obtain ⟨v145, u145, hh⟩ := bnd_e hh
         refine TL.op z (OpOk.call (Dp_ u145) z z pf32 z z z z ?_)
         rintro _ _ _ hle462 ⟨a462_1, c462_2, a462_3, c462_4, a462_5, c462_6, rfl, rfl, rfl⟩
         refine TL.nil (B.n (S.n (TC.region (TL.w z (OpVal.succ z z z (by omega)) (TL.i z z (TL.en ?_))))))
         obtain ⟨hh, hlt466⟩ := nxt_x hR3 hh
         exact lf ((v145.f.states, v145.f.starts, v145.f.ends, v145.f.arcs, v145.over, (k455 + 1)), (a462_1, c462_2, a462_3, c462_4, a462_5, c462_6)) hlt466 hh (Sub.f [9, 9, 9, 6, 6, 6, 6, 9, 9, 9] 10)
        ·refine TC.exit (S.x (S.x ?_))
         replace hh := fin_x hR3 hh
         refine TC.exitHere (S.n (TC.a (TL.l z z (TL.w z (nilCheckLoc z z) (TL.w z (fieldLoc z fo67_1 z) (TL.w z (loadLoc z ag4 z (i := 3) z z) (TL.en (TC.cB z hh (fun h467 hh => ?_) (fun h467 hh => ?_)))))))))
         ·refine TC.front 2 z z (TC.front 2 z z (TC.front 6 z z (TC.front 6 z z (TC.front 6 z z (TC.front 6 z z ?_)))))
          obtain ⟨v195, u195, hh⟩ := bnd_e hh
          refine TC.ret (B.r (S.r (S.r ?_)))
          replace hh := fin_x hR2 hh
          refine B.r (B.r (S.r (S.r ?_)))
          replace hh := fin_x hR1 hh
          refine B.r (S.r (⟨.inl z, _, Sub.pre 6 z, (Ar_ u195).mono ?_⟩))
          rintro _ τ468 _ hle468 ⟨a468_1, c468_2, a468_4, c468_5, a468_7, c468_8, rfl, f468_3, f468_6, f468_9, rfl⟩
          have f468_3b := f468_3.rv.big
          have f468_6b := f468_6.rv.big
          have f468_9b := f468_9.rv.big
          obtain rfl := so hh
          exact RetOk.mk' (rs := [.cell 4 25, .cell 5 33]) [] z (.inl z) (RVs.agg ag25 sz25 z (i := 0) z z (RVs.one ag33 z (i := 1) z z RVs.nil)) (List.nil_sublist _) ⟨a468_1, c468_2, a468_4, c468_5, a468_7, c468_8, z, f468_3, f468_6, f468_9, z⟩
         ·refine TC.skip (B.n (S.n (TC.region (TL.w z (OpVal.succ z z z (by omega)) (TL.i z z (TL.en ?_))))))
          obtain ⟨hh, hlt472⟩ := nxt_x hR2 hh
          exact lf ((i441, l443, l447, l451, t454, (k399 + 1)), (a444, c445, a448, c449, a452, c453)) hlt472 hh (Sub.f [7, 7, 7, 7, 7, 7, 7, 7] 8)
       ·refine TC.exit (S.x (S.x ?_))
        replace hh := fin_x hR2 hh
        refine TC.exitHere (B.n (S.n (TC.region (TL.w z (OpVal.succ z z z (by omega)) (TL.i z z (TL.en ?_))))))
        obtain ⟨hh, hlt473⟩ := nxt_x hR1 hh
        exact lf ((i385, l387, l391, l395, t398, (k348 + 1)), (a388, c389, a392, c393, a396, c397)) hlt473 hh (Sub.f [6, 6, 6, 6, 6, 6, 6] 7)
      ·refine TC.exit (S.x (S.x ?_))
       replace hh := fin_x hR1 hh
       refine TC.exitHere (S.n (TC.front 2 z z (TC.front 2 z z (TC.front 6 z z (TC.front 6 z z (TC.front 6 z z (TC.front 6 z z ?_)))))))
       obtain ⟨v196, u196, hh⟩ := bnd_e hh
       refine TC.ret (⟨.inl z, _, Sub.pre 6 z, (Ar_ u196).mono ?_⟩)
       rintro _ τ474 _ hle474 ⟨a474_1, c474_2, a474_4, c474_5, a474_7, c474_8, rfl, f474_3, f474_6, f474_9, rfl⟩
       have f474_3b := f474_3.rv.big
       have f474_6b := f474_6.rv.big
       have f474_9b := f474_9.rv.big
       obtain rfl := so hh
       exact RetOk.mk' (rs := [.cell 4 25, .cell 5 33]) [] z (.inl z) (RVs.agg ag25 sz25 z (i := 0) z z (RVs.one ag33 z (i := 1) z z RVs.nil)) (List.nil_sublist _) ⟨a474_1, c474_2, a474_4, c474_5, a474_7, c474_8, z, f474_3, f474_6, f474_9, z⟩
end Go.Proofs.YtcaaiphgikpgjaaGreatDoor
end

section
namespace Go.Proofs.YtcaaiphgikpgjaaGreatDoor
open Go Go.E
theorem lim_ok {t : Fst} {d : Dfa} (ht : FstOk t) (hd : rightD d = true) (h : GB (fLim t d)) (hn : (fLim t d).states ≤ 1024) : FstOk (fLim t d) := by
  have h0 := ok0 hd
  refine ⟨Int.mul_nonneg ht.st0 (Int.natCast_nonneg _), hn, h.aN, h.sN, h.eN, fun x hx => ⟨?_, h.s x hx⟩, fun x hx => ⟨?_, h.e x hx⟩, fun x hx => ?_⟩
  · obtain ⟨y, hy, rfl⟩ := mem_limS.1 hx
    have := in_two (n := ((d.next.length : Nat) : Int)) (y := 0) (ht.starts y hy).1 h0
    rw [Int.add_zero] at this; exact this
  · obtain ⟨y, hy, i, hi, -, rfl⟩ := mem_limE.1 hx
    exact in_two (ht.ends y hy).1 ⟨Int.natCast_nonneg i, by omega⟩
  · have hl := h.a x hx
    obtain ⟨y, hy, i, hi, j, hj, hz, rfl⟩ := mem_limA.1 hx
    have := ht.arcs y hy
    exact ⟨in_two this.1 ⟨Int.natCast_nonneg i, by omega⟩, in_two this.2.1 ⟨Int.natCast_nonneg j, by omega⟩, hz, hl⟩
def lsetK (d : Dfa) (y : Int) (s : BSet) (k : Nat) (z : Int) : BSet := BSet.make fun b => decide (b < k) && (s.has b && decide (dltN d y b = z))
structure StK (d : Dfa) (y : Int) (s : BSet) (k : Nat) (m : FM Int BSet) : Prop where
  f : ∀ z, m.f z = if lsetK d y s k z = BSet.zero then none else some (lsetK d y s k z)
  n : m.n ≤ k
theorem toU8_natL {k : Nat} (hk : k < 256) : (toU8 ((k : Nat) : Int)).toNat = k := by
  have := toU8_val ((k : Nat) : Int)
  rw [wrap_u8] at this; omega
theorem lsetK_all (d : Dfa) (y : Int) (s : BSet) (z : Int) : lsetK d y s 256 z = lset d y s z := by
  unfold lsetK lset
  exact BSet.make_congr fun b hb => by rw [decide_eq_true hb, Bool.true_and]
theorem lsetK_zero (d : Dfa) (y : Int) (s : BSet) (z : Int) : lsetK d y s 0 z = BSet.zero := by
  unfold lsetK
  rw [← BSet.make_zero]
  exact BSet.make_congr fun b hb => by rw [decide_eq_false (by omega), Bool.false_and]
theorem lsetK_same {d : Dfa} {y : Int} {s : BSet} {k : Nat} {z : Int} (h : s.has k = false ∨ dltN d y k ≠ z) : lsetK d y s (k + 1) z = lsetK d y s k z := by
  unfold lsetK
  refine BSet.make_congr fun b hb => ?_
  by_cases e : b = k
  · subst e
    rcases h with h | h
    · rw [h]; simp
    · rw [decide_eq_false h]; simp
  · by_cases e2 : b < k
    · rw [decide_eq_true e2, decide_eq_true (show b < k + 1 by omega)]
    · rw [decide_eq_false e2, decide_eq_false (show ¬ b < k + 1 by omega)]
theorem lsetK_put {d : Dfa} {y : Int} {s : BSet} {k : Nat} (hk : k < 256) (h : s.has k = true) : (BSet.make fun n => (lsetK d y s k (dltN d y k)).has n || (BSet.ofL [toU8 ((k : Nat) : Int)]).has n) = lsetK d y s (k + 1) (dltN d y k) := by
  refine H3_ fun n hn => ?_
  unfold lsetK
  rw [BSet.make_has _ hn, BSet.make_has _ hn, BSet.make_has _ hn, of1' k hk hn]
  by_cases e : n = k
  · subst e; rw [h]; simp
  · rw [decide_eq_false e, Bool.or_false]
    by_cases e2 : n < k
    · rw [decide_eq_true e2, decide_eq_true (show n < k + 1 by omega)]
    · rw [decide_eq_false e2, decide_eq_false (show ¬ n < k + 1 by omega)]
theorem lsetK_ne {d : Dfa} {y : Int} {s : BSet} {k : Nat} (hk : k < 256) (h : s.has k = true) : lsetK d y s (k + 1) (dltN d y k) ≠ BSet.zero := fun e => by
  have h1 : (lsetK d y s (k + 1) (dltN d y k)).has k = true := by
    unfold lsetK; rw [BSet.make_has _ hk, h]; simp
  rw [e, hasZ k hk] at h1; cases h1
theorem StK.get {d : Dfa} {y : Int} {s : BSet} {k : Nat} {m : FM Int BSet} (h : StK d y s k m) (z : Int) : m.get z BSet.zero = lsetK d y s k z := by
  unfold FM.get
  rw [h.f z]
  by_cases e : lsetK d y s k z = BSet.zero
  · rw [if_pos e, e]; rfl
  · rw [if_neg e]; rfl
theorem StK.put {d : Dfa} {y : Int} {s : BSet} {k : Nat} {m : FM Int BSet} (h : StK d y s k m) (hk : k < 256) (hs : s.has k = true) : StK d y s (k + 1) (m.put (dltN d y k) (lsetK d y s (k + 1) (dltN d y k))) := by
  refine ⟨fun z => ?_, ?_⟩
  · show (if z = dltN d y k then _ else _) = _
    by_cases e : z = dltN d y k
    · subst e; rw [if_pos rfl, if_neg (lsetK_ne hk hs)]
    · rw [if_neg e, h.f z, lsetK_same (.inr fun q => e q.symm)]
  · show (if (m.f (dltN d y k)).isSome then m.n else m.n + 1) ≤ k + 1
    have := h.n
    split <;> omega
theorem steps_go {d : Dfa} (hd : rightD d = true) {y : Int} (hy : okS d y) (s : BSet) : ∃ m, F3_ d y s = some m ∧ StK d y s 256 m := by
  obtain ⟨c, hc1, hc2, hn1, hn2, hfl, hrow⟩ := right_parts hd
  have hcm := (cnt_mem d.cls 0 c hc1).2
  unfold F3_
  obtain ⟨hy0, hy1⟩ := hy
  refine iter_up (step := fun q : (FM Int BSet) × Nat => Bt_ d s y q.1 q.2) (fun (m : FM Int BSet) k => (m, k)) 256 (fun k m => StK d y s k m) _ (fun k m hk hI => ?_) (fun m hI => ?_) (s0 := FM.emp) ⟨fun z => by rw [if_pos (lsetK_zero d y s z)]; rfl, Nat.le_refl _⟩
  · left
    show ∃ m', Bt_ d s y m k = some (.inl (m', k + 1)) ∧ _
    unfold Bt_ Ej_
    rw [iteO_dt (by omega), toU8_natL hk]
    by_cases h : s.has k = true
    · have hm := hcm _ (nth_memD (l := d.cls) (i := k) (by omega) 0)
      have hr := (hrow y.toNat (by omega)).1
      refine ⟨_, ?_, hI.put hk h⟩
      rw [h, iteO_true, grd_mk ⟨hy0, hy1⟩, grd_mk ⟨hm.1, by omega⟩, grd_mk (by simp), any_eq, bnd_mk]
      show nxt (m.put (dltN d y k) _, k + 1) = _
      rw [show m.get (nth (nth d.next y.toNat ([] : List Int)) ((nth d.cls k (0 : Int)).toNat) (0 : Int)) BSet.zero = lsetK d y s k (dltN d y k) from hI.get _, lsetK_put hk h]; rfl
    · simp only [Bool.not_eq_true] at h
      refine ⟨m, by rw [h, iteO_false]; rfl, fun z => ?_, by have := hI.n; omega⟩
      rw [hI.f z, lsetK_same (.inl h)]
  · refine ⟨m, ?_, hI⟩
    show Bt_ d s y m 256 = _
    unfold Bt_
    rw [iteO_df (by omega)]; rfl
def limK (d : Dfa) (y : Int) (s : BSet) : List Int := ((List.range d.next.length).filter fun z => decide (lset d y s ((z : Nat) : Int) ≠ BSet.zero)).map fun z : Nat => ((z : Nat) : Int)
theorem Ja_ {s : BSet} (h : s ≠ BSet.zero) : ∃ b : Nat, b < 256 ∧ s.has b = true := by
  apply Decidable.byContradiction
  intro hc
  refine h (H3_ fun n hn => ?_)
  rw [hasZ n hn]
  cases e : s.has n
  · rfl
  · exact absurd ⟨n, hn, e⟩ hc
theorem lset_in {d : Dfa} (hd : rightD d = true) {y : Int} (hy : okS d y) {s : BSet} {z : Int} (h : lset d y s z ≠ BSet.zero) : okS d z := by
  obtain ⟨b, hb, h1⟩ := Ja_ h
  have e : (UInt8.ofNat b).toNat = b := by rw [UInt8.toNat_ofNat']; omega
  have h2 : (lset d y s z).has (UInt8.ofNat b).toNat = true := by rw [e]; exact h1
  obtain ⟨-, h3⟩ := lset_has.1 h2
  rw [← h3]; exact (dlt_ok hd hy _).nx
theorem skeys_lim {d : Dfa} (hd : rightD d = true) {y : Int} (hy : okS d y) {s : BSet} {m : FM Int BSet} (hm : StK d y s 256 m) : skeys m = limK d y s := by
  refine skeys_of ?_ fun k => ?_
  · unfold limK
    rw [List.pairwise_map]
    exact (List.Pairwise.filter _ List.pairwise_lt_range).imp fun {a b} h => by omega
  · unfold limK
    rw [List.mem_map, hm.f k, lsetK_all]
    constructor
    · rintro ⟨z, hz, rfl⟩
      have := of_decide_eq_true (List.mem_filter.1 hz).2
      rw [if_neg this]; exact fun h => by cases h
    · intro h
      by_cases e : lset d y s k = BSet.zero
      · rw [if_pos e] at h; exact absurd rfl h
      · obtain ⟨j, rfl, hj⟩ := okS_nat (lset_in hd hy e)
        exact ⟨j, List.mem_filter.2 ⟨List.mem_range.2 hj, decide_eq_true e⟩, rfl⟩
theorem keys_in {d : Dfa} (hd : rightD d = true) {y : Int} (hy : okS d y) {s : BSet} {m : FM Int BSet} (hm : StK d y s 256 m) : KeysIn m ∧ m.n ≤ 1000000 := by
  refine ⟨fun k hk => ?_, by have := hm.n; omega⟩
  rw [hm.f k, lsetK_all] at hk
  have h : okS d k := by
    by_cases e : lset d y s k = BSet.zero
    · rw [if_pos e] at hk; exact absurd rfl hk
    · exact lset_in hd hy e
  obtain ⟨m, -, -, -, hn2, -⟩ := right_parts hd
  obtain ⟨h0, h1⟩ := h
  show (decide (IntKind.i64.min ≤ k) && decide (k ≤ IntKind.i64.max)) = true
  rw [show IntKind.i64.min = -9223372036854775808 from by decide, show IntKind.i64.max = 9223372036854775807 from by decide, decide_eq_true (by omega), decide_eq_true (by omega)]; rfl
def zArc (d : Dfa) (x : Arc) (y : Nat) (z : Int) : Arc := ⟨x.frm * ((d.next.length : Nat) : Int) + ((y : Nat) : Int), x.to * ((d.next.length : Nat) : Int) + z, lset d ((y : Nat) : Int) x.set z, x.out, x.copy⟩
theorem limZ_map (d : Dfa) (x : Arc) (y : Nat) : limZ d x y = (limK d ((y : Nat) : Int) x.set).map (zArc d x y) := by
  unfold limZ limK
  rw [List.map_map]; rfl
theorem limY_snoc (d : Dfa) (x : Arc) (k : Nat) : limY d x (k + 1) = limY d x k ++ limZ d x k := by
  unfold limY
  rw [List.range_succ, List.flatMap_append]; simp
theorem limA_snoc (d : Dfa) (l : List Arc) {k : Nat} (h : k < l.length) : limA d (l.take (k + 1)) = limA d (l.take k) ++ limY d (nth l k Arc.zero) d.next.length := by
  rw [take_snoc l h Arc.zero]; unfold limA; rw [List.flatMap_append]; simp
theorem limS_snoc (n : Nat) (l : List Tip) {k : Nat} (h : k < l.length) : limS n (l.take (k + 1)) = limS n (l.take k) ++ [⟨(nth l k Tip.zero).state * ((n : Nat) : Int), (nth l k Tip.zero).out⟩] := by
  rw [take_snoc l h Tip.zero]; unfold limS; rw [List.map_append]; rfl
def limEk (d : Dfa) (x : Tip) (k : Nat) : List Tip := ((List.range k).filter fun y => nth d.fin y false).map fun y => ⟨x.state * ((d.next.length : Nat) : Int) + ((y : Nat) : Int), x.out⟩
theorem limEk_snoc (d : Dfa) (x : Tip) (k : Nat) : limEk d x (k + 1) = limEk d x k ++ (if nth d.fin k false = true then [⟨x.state * ((d.next.length : Nat) : Int) + ((k : Nat) : Int), x.out⟩] else []) := by
  unfold limEk
  rw [List.range_succ, List.filter_append, List.map_append]
  congr 1
  cases h : nth d.fin k false <;> simp [h]
theorem limE_snoc (d : Dfa) (l : List Tip) {k : Nat} (h : k < l.length) : limE d (l.take (k + 1)) = limE d (l.take k) ++ limEk d (nth l k Tip.zero) d.next.length := by
  rw [take_snoc l h Tip.zero]; unfold limE; rw [List.flatMap_append]; simp [limE1, limEk]
section
variable {t : Fst} {d : Dfa} (ht : FstOk t) (hd : rightD d = true) (hN : t.states * ((d.next.length : Nat) : Int) ≤ 1024)
include ht hd hN
theorem lim_b6 {i y : Nat} (hi : i < t.arcs.length) (hy : y < d.next.length) {m : FM Int BSet} (hm : StK d ((y : Nat) : Int) (nth t.arcs i Arc.zero).set 256 m) {g : Grow} {F : Fst} (hg : Gr g F) :
    ∃ r, iter (fun q : Int × (List Tip) × (List Tip) × (List Arc) × Bool × Nat => Bk_ m t i d y q.1 q.2.1 q.2.2.1 q.2.2.2.1 q.2.2.2.2.1 q.2.2.2.2.2) (g.f.states, g.f.starts, g.f.ends, g.f.arcs, g.over, 0) = some r ∧
      ((∃ g' : Grow, r = .inl (g'.f.states, g'.f.starts, g'.f.ends, g'.f.arcs, g'.over, y + 1) ∧ Gr g' (pA F (limZ d (nth t.arcs i Arc.zero) y))) ∨ r = .inr (.inr (⟨0, [], [], []⟩, 2))) := by
  have hyS : okS d ((y : Nat) : Int) := ⟨Int.natCast_nonneg y, by omega⟩
  have hk := skeys_lim hd hyS hm
  have hx := ht.arcs _ (nth_mem' hi Arc.zero)
  obtain ⟨x, hxe⟩ : ∃ x, nth t.arcs i Arc.zero = x := ⟨_, rfl⟩
  rw [hxe] at hm hk hx ⊢
  rw [limZ_map]
  refine iter_up (step := fun q : Int × (List Tip) × (List Tip) × (List Arc) × Bool × Nat => Bk_ m t i d y q.1 q.2.1 q.2.2.1 q.2.2.2.1 q.2.2.2.2.1 q.2.2.2.2.2) (fun (s : Grow) k => (s.f.states, s.f.starts, s.f.ends, s.f.arcs, s.over, k)) (limK d ((y : Nat) : Int) x.set).length
    (fun k s => Gr s (pA F (((limK d ((y : Nat) : Int) x.set).take k).map (zArc d x y)))) _ (fun k s hk2 hI => ?_) (fun s hI => ?_) (s0 := g) (by simpa [pA_nil] using hg)
  · have hz := nth_mem' hk2 (0 : Int)
    have hzS : okS d (nth (limK d ((y : Nat) : Int) x.set) k (0 : Int)) := by
      unfold limK at hz
      obtain ⟨j, hj, e⟩ := List.mem_map.1 hz
      have hj1 := List.mem_range.1 (List.mem_filter.1 hj).1
      unfold limK
      rw [← e]; exact ⟨Int.natCast_nonneg j, by omega⟩
    have r1 := in_two hx.1 hyS
    have r2 := in_two hx.2.1 hzS
    have r3 := in_two (n := ((d.next.length : Nat) : Int)) (y := 0) hx.1 ⟨Int.le_refl _, by omega⟩
    have r4 := in_two (n := ((d.next.length : Nat) : Int)) (y := 0) hx.2.1 ⟨Int.le_refl _, by omega⟩
    refine .inl ⟨growAr s (zArc d x y (nth (limK d ((y : Nat) : Int) x.set) k 0)), ?_, ?_⟩
    · show Bk_ m t i d y s.f.states s.f.starts s.f.ends s.f.arcs s.over k = _
      unfold Bk_
      rw [hk, iteO_dt (by omega), hxe, arc_eq, bnd_mk, hm.get, lsetK_all, wr_ok (a := x.frm * ((d.next.length : Nat) : Int)) (by omega), wr_ok (a := x.to * ((d.next.length : Nat) : Int)) (by omega), wr_ok (by omega), wr_ok (by omega)]; rfl
    · rw [take_snoc _ hk2 (0 : Int), List.map_append, List.map_singleton, pA_snoc]; exact hI.ar _
  · rw [List.take_length] at hI
    have hs : Bk_ m t i d y s.f.states s.f.starts s.f.ends s.f.arcs s.over (limK d ((y : Nat) : Int) x.set).length = fin (iteO s.over (bnd (Ae_ (⟨(⟨s.f.states, s.f.starts, s.f.ends, s.f.arcs⟩ : Fst), s.over⟩ : Grow)) (fun v195 => fin (fin (some ((⟨v195.1.states, v195.1.starts, v195.1.ends, v195.1.arcs⟩ : Fst), v195.2))))) (nxt (s.f.states, s.f.starts, s.f.ends, s.f.arcs, s.over, (y + 1)))) := by
      unfold Bk_
      rw [hk, iteO_df (by omega)]
    cases ho : s.over with
    | true =>
      rw [ho] at hs
      refine ⟨.inr (.inr (⟨0, [], [], []⟩, 2)), Eq.trans hs ?_, .inr rfl⟩
      rw [iteO_true, bnd_some (look_eq ⟨s.f, true⟩)]; rfl
    | false =>
      rw [ho] at hs
      exact ⟨.inl (s.f.states, s.f.starts, s.f.ends, s.f.arcs, false, y + 1), Eq.trans hs rfl, .inl ⟨s, by rw [ho], hI⟩⟩
theorem lim_b5 {i : Nat} (hi : i < t.arcs.length) {g : Grow} {F : Fst} (hg : Gr g F) :
    ∃ r, iter (fun q : Int × (List Tip) × (List Tip) × (List Arc) × Bool × Nat => Bd_ d t i q.1 q.2.1 q.2.2.1 q.2.2.2.1 q.2.2.2.2.1 q.2.2.2.2.2) (g.f.states, g.f.starts, g.f.ends, g.f.arcs, g.over, 0) = some r ∧
      ((∃ g' : Grow, r = .inl (g'.f.states, g'.f.starts, g'.f.ends, g'.f.arcs, g'.over, i + 1) ∧ Gr g' (pA F (limY d (nth t.arcs i Arc.zero) d.next.length))) ∨ r = .inr (⟨0, [], [], []⟩, 2)) := by
  refine iter_up (step := fun q : Int × (List Tip) × (List Tip) × (List Arc) × Bool × Nat => Bd_ d t i q.1 q.2.1 q.2.2.1 q.2.2.2.1 q.2.2.2.2.1 q.2.2.2.2.2) (fun (s : Grow) k => (s.f.states, s.f.starts, s.f.ends, s.f.arcs, s.over, k)) d.next.length
    (fun k s => Gr s (pA F (limY d (nth t.arcs i Arc.zero) k))) _ (fun k s hk hI => ?_) (fun s hI => ?_) (s0 := g) (by simpa [limY, pA_nil] using hg)
  · have hkS : okS d ((k : Nat) : Int) := ⟨Int.natCast_nonneg k, by omega⟩
    obtain ⟨m, e1, hm⟩ := steps_go hd hkS (nth t.arcs i Arc.zero).set
    obtain ⟨r, e2, h2⟩ := lim_b6 ht hd hN hi hk hm hI
    have hs : Bd_ d t i s.f.states s.f.starts s.f.ends s.f.arcs s.over k = some r := by
      unfold Bd_
      rw [iteO_dt (by omega), bnd_some e1, grd_mk (keys_in hd hkS hm)]
      exact e2
    rcases h2 with ⟨g', rfl, hG⟩ | rfl
    · refine .inl ⟨g', hs, ?_⟩
      rw [limY_snoc, ← pA_app]; exact hG
    · exact .inr ⟨_, hs, .inr rfl⟩
  · refine ⟨_, ?_, .inl ⟨s, rfl, hI⟩⟩
    show Bd_ d t i s.f.states s.f.starts s.f.ends s.f.arcs s.over d.next.length = _
    unfold Bd_
    rw [iteO_df (by omega)]; rfl
theorem lim_b4 {g : Grow} {F : Fst} (hg : Gr g F) :
    ∃ r, iter (fun q : Int × (List Tip) × (List Tip) × (List Arc) × Bool × Nat => Bg_ t d q.1 q.2.1 q.2.2.1 q.2.2.2.1 q.2.2.2.2.1 q.2.2.2.2.2) (g.f.states, g.f.starts, g.f.ends, g.f.arcs, g.over, 0) = some r ∧ GEnd (pA F (limA d t.arcs)) r := by
  refine iter_up (step := fun q : Int × (List Tip) × (List Tip) × (List Arc) × Bool × Nat => Bg_ t d q.1 q.2.1 q.2.2.1 q.2.2.2.1 q.2.2.2.2.1 q.2.2.2.2.2) (fun (s : Grow) k => (s.f.states, s.f.starts, s.f.ends, s.f.arcs, s.over, k)) t.arcs.length
    (fun k s => Gr s (pA F (limA d (t.arcs.take k)))) _ (fun k s hk hI => ?_) (fun s hI => ?_) (s0 := g) (by simpa [limA, pA_nil] using hg)
  · obtain ⟨r, e2, h2⟩ := lim_b5 ht hd hN hk hI
    have hs : Bg_ t d s.f.states s.f.starts s.f.ends s.f.arcs s.over k = some r := by
      unfold Bg_
      rw [iteO_dt (by omega)]; exact e2
    rcases h2 with ⟨g', rfl, hG⟩ | rfl
    · refine .inl ⟨g', hs, ?_⟩
      rw [limA_snoc d t.arcs hk, ← pA_app]; exact hG
    · exact .inr ⟨_, hs, .inl rfl⟩
  · rw [List.take_length] at hI
    refine ⟨lookG s, ?_, gend hI⟩
    show Bg_ t d s.f.states s.f.starts s.f.ends s.f.arcs s.over t.arcs.length = _
    unfold Bg_
    rw [iteO_df (by omega), bnd_some (look_eq s)]; rfl
theorem lim_b3 {i : Nat} (hi : i < t.ends.length) {g : Grow} {F : Fst} (hg : Gr g F) :
    ∃ r, iter (fun q : Int × (List Tip) × (List Tip) × (List Arc) × Bool × Nat => Bf_ d t i q.1 q.2.1 q.2.2.1 q.2.2.2.1 q.2.2.2.2.1 q.2.2.2.2.2) (g.f.states, g.f.starts, g.f.ends, g.f.arcs, g.over, 0) = some r ∧
      (∃ g' : Grow, r = .inl (g'.f.states, g'.f.starts, g'.f.ends, g'.f.arcs, g'.over, i + 1) ∧ Gr g' (pE F (limEk d (nth t.ends i Tip.zero) d.next.length))) := by
  obtain ⟨c, -, -, -, -, hfl, -⟩ := right_parts hd
  have hx := ht.ends _ (nth_mem' hi Tip.zero)
  obtain ⟨x, hxe⟩ : ∃ x, nth t.ends i Tip.zero = x := ⟨_, rfl⟩
  rw [hxe] at hx ⊢
  refine iter_up (step := fun q : Int × (List Tip) × (List Tip) × (List Arc) × Bool × Nat => Bf_ d t i q.1 q.2.1 q.2.2.1 q.2.2.2.1 q.2.2.2.2.1 q.2.2.2.2.2) (fun (s : Grow) k => (s.f.states, s.f.starts, s.f.ends, s.f.arcs, s.over, k)) d.next.length
    (fun k s => Gr s (pE F (limEk d x k))) _ (fun k s hk hI => ?_) (fun s hI => ?_) (s0 := g) (by simpa [limEk, pE_nil] using hg)
  · left
    have r1 := in_two hx.1 (show 0 ≤ ((k : Nat) : Int) ∧ ((k : Nat) : Int) < ((d.next.length : Nat) : Int) by omega)
    have r3 := in_two (n := ((d.next.length : Nat) : Int)) (y := 0) hx.1 ⟨Int.le_refl _, by omega⟩
    show ∃ s', Bf_ d t i s.f.states s.f.starts s.f.ends s.f.arcs s.over k = _ ∧ _
    unfold Bf_ Eh_
    rw [iteO_dt (by omega), hxe, limEk_snoc]
    cases h : nth d.fin k false with
    | true =>
      refine ⟨growEn s ⟨x.state * ((d.next.length : Nat) : Int) + ((k : Nat) : Int), x.out⟩, ?_, ?_⟩
      · rw [iteO_true, end_eq, bnd_mk, wr_ok (a := x.state * ((d.next.length : Nat) : Int)) (by omega), wr_ok (by omega)]; rfl
      · rw [if_pos rfl, pE_snoc]; exact hI.en _
    | false =>
      refine ⟨s, by rw [iteO_false]; rfl, ?_⟩
      rw [if_neg (by simp), List.append_nil]; exact hI
  · refine ⟨_, ?_, s, rfl, hI⟩
    show Bf_ d t i s.f.states s.f.starts s.f.ends s.f.arcs s.over d.next.length = _
    unfold Bf_
    rw [iteO_df (by omega)]; rfl
theorem lim_b2 {g : Grow} {F : Fst} (hg : Gr g F) :
    ∃ r, iter (fun q : Int × (List Tip) × (List Tip) × (List Arc) × Bool × Nat => Be_ t d q.1 q.2.1 q.2.2.1 q.2.2.2.1 q.2.2.2.2.1 q.2.2.2.2.2) (g.f.states, g.f.starts, g.f.ends, g.f.arcs, g.over, 0) = some r ∧ GEnd (pA (pE F (limE d t.ends)) (limA d t.arcs)) r := by
  refine iter_up (step := fun q : Int × (List Tip) × (List Tip) × (List Arc) × Bool × Nat => Be_ t d q.1 q.2.1 q.2.2.1 q.2.2.2.1 q.2.2.2.2.1 q.2.2.2.2.2) (fun (s : Grow) k => (s.f.states, s.f.starts, s.f.ends, s.f.arcs, s.over, k)) t.ends.length
    (fun k s => Gr s (pE F (limE d (t.ends.take k)))) _ (fun k s hk hI => ?_) (fun s hI => ?_) (s0 := g) (by simpa [limE, pE_nil] using hg)
  · obtain ⟨r, e2, g', rfl, hG⟩ := lim_b3 ht hd hN hk hI
    refine .inl ⟨g', ?_, by rw [limE_snoc d t.ends hk, ← pE_app]; exact hG⟩
    show Be_ t d s.f.states s.f.starts s.f.ends s.f.arcs s.over k = _
    unfold Be_
    rw [iteO_dt (by omega)]; exact e2
  · rw [List.take_length] at hI
    obtain ⟨r, e2, h2⟩ := lim_b4 ht hd hN hI
    refine ⟨r, ?_, h2⟩
    show Be_ t d s.f.states s.f.starts s.f.ends s.f.arcs s.over t.ends.length = _
    unfold Be_
    rw [iteO_df (by omega), e2]; rfl
theorem lim_b1 : ∃ r, iter (fun q : Int × (List Tip) × (List Tip) × (List Arc) × Bool × Nat => Bj_ t d q.1 q.2.1 q.2.2.1 q.2.2.2.1 q.2.2.2.2.1 q.2.2.2.2.2) (t.states * ((d.next.length : Nat) : Int), [], [], [], false, 0) = some r ∧ GEnd (fLim t d) r := by
  refine iter_up (step := fun q : Int × (List Tip) × (List Tip) × (List Arc) × Bool × Nat => Bj_ t d q.1 q.2.1 q.2.2.1 q.2.2.2.1 q.2.2.2.2.1 q.2.2.2.2.2) (fun (s : Grow) k => (s.f.states, s.f.starts, s.f.ends, s.f.arcs, s.over, k)) t.starts.length
    (fun k s => Gr s (pS ⟨t.states * ((d.next.length : Nat) : Int), [], [], []⟩ (limS d.next.length (t.starts.take k)))) _ (fun k s hk hI => ?_) (fun s hI => ?_) (s0 := ⟨⟨t.states * ((d.next.length : Nat) : Int), [], [], []⟩, false⟩) (by simpa [limS, pS_nil] using Gr.nil _)
  · have hx := ht.starts _ (nth_mem' hk Tip.zero)
    have r3 := in_two (n := ((d.next.length : Nat) : Int)) (y := 0) hx.1 (ok0 hd)
    refine .inl ⟨growSt s ⟨(nth t.starts k Tip.zero).state * ((d.next.length : Nat) : Int), (nth t.starts k Tip.zero).out⟩, ?_, ?_⟩
    · show Bj_ t d s.f.states s.f.starts s.f.ends s.f.arcs s.over k = _
      unfold Bj_
      rw [iteO_dt (by omega), start_eq, bnd_mk, wr_ok (by omega)]; rfl
    · rw [limS_snoc _ t.starts hk, pS_snoc]; exact hI.st _
  · rw [List.take_length] at hI
    obtain ⟨r, e2, h2⟩ := lim_b2 ht hd hN hI
    refine ⟨r, ?_, h2⟩
    show Bj_ t d s.f.states s.f.starts s.f.ends s.f.arcs s.over t.starts.length = _
    unfold Bj_
    rw [iteO_df (by omega), e2]; rfl
end
theorem lim_go {t : Fst} {d : Dfa} (ht : FstOk t) (hd : rightD d = true) : ∃ r, Di_ t d = some r ∧ GEnd (fLim t d) r := by
  obtain ⟨c, -, -, hn1, hn2, -, -⟩ := right_parts hd
  have h0 := ht.st0
  have h1 := ht.st1
  have p0 : 0 ≤ t.states * ((d.next.length : Nat) : Int) := Int.mul_nonneg h0 (Int.natCast_nonneg _)
  have p1 : t.states * ((d.next.length : Nat) : Int) ≤ 1024 * ((d.next.length : Nat) : Int) := Int.mul_le_mul_of_nonneg_right h1 (Int.natCast_nonneg _)
  unfold Di_
  rw [Dg_, bnd_mk, errB_ne, (fstB_iff t).2 ht, Bool.not_true, iteO_false, dcheck_eq, bnd_mk, if_pos hd, iteO_df (by simp), wrap64_of (by omega) (by omega)]
  by_cases h : 1024 < t.states * ((d.next.length : Nat) : Int)
  · rw [iteO_dt h, bnd_some (look_eq ⟨⟨t.states * ((d.next.length : Nat) : Int), [], [], []⟩, false⟩)]
    refine ⟨_, rfl, .inl ?_⟩
    unfold lookG
    rw [if_pos (.inr h)]
  · rw [iteO_df h]
    exact lim_b1 ht hd (by omega)
theorem lim_any (t : Fst) (d : Dfa) : ∃ r, Di_ t d = some r ∧ FstOk r.1 ∧ (r.2 ≠ 0 ∨ FstOk t ∧ rightD d = true ∧ r = (fLim t d, 0) ∧ FstOk (fLim t d)) := by
  by_cases h : fstB t = true
  · by_cases hd : rightD d = true
    · have ht := (fstB_iff t).1 h
      obtain ⟨r, e, hr⟩ := lim_go ht hd
      refine ⟨r, e, ?_⟩
      rcases hr with rfl | ⟨rfl, h1, h2⟩
      · exact ⟨zF_ok, .inl (by decide)⟩
      · exact ⟨lim_ok ht hd h1 h2, .inr ⟨ht, hd, rfl, lim_ok ht hd h1 h2⟩⟩
    · refine ⟨(zF, 1), ?_, zF_ok, .inl (by decide)⟩
      unfold Di_
      rw [Dg_, bnd_mk, errB_ne, h, Bool.not_true, iteO_false, dcheck_eq, bnd_mk, if_neg hd]; rfl
  · refine ⟨(zF, 1), ?_, zF_ok, .inl (by decide)⟩
    simp only [Bool.not_eq_true] at h
    unfold Di_
    rw [Dg_, bnd_mk, errB_ne, h]; rfl
end Go.Proofs.YtcaaiphgikpgjaaGreatDoor
end

section
namespace Go.E
open Go
class LeC {α : Type} (a b : Option α) : Prop where
  le : ∀ r, a = some r → b = some r
instance LeC.bnd {α β : Type} {a b : Option α} {f g : α → Option β} [h : LeC a b] [k : ∀ x, LeC (f x) (g x)] : LeC (Go.E.bnd a f) (Go.E.bnd b g) := ⟨fun r hr => by
  obtain ⟨x, h1, h2⟩ := bnd_e hr
  rw [bnd_some (h.le _ h1)]; exact (k x).le _ h2⟩
instance LeC.grd {α : Type} {p : Prop} [Decidable p] {a b : Option α} [h : LeC a b] : LeC (Go.E.grd p a) (Go.E.grd p b) := ⟨fun r hr => by
  rw [grd_mk (grd_c hr)]; exact h.le _ (grd_t hr)⟩
instance LeC.iteO {α : Type} {c : Bool} {a b a' b' : Option α} [h : LeC a b] [k : LeC a' b'] : LeC (Go.E.iteO c a a') (Go.E.iteO c b b') := ⟨fun r hr => by
  cases c
  · exact k.le _ hr
  · exact h.le _ hr⟩
instance LeC.fin {S α : Type} {a b : Option α} [h : LeC a b] : LeC (Go.E.fin (S := S) a) (Go.E.fin b) := ⟨fun r hr => by
  cases a with
  | none => cases hr
  | some x => rw [h.le x rfl]; exact hr⟩
instance LeC.nxt {S R : Type} {s : S} : LeC (Go.E.nxt (R := R) s) (Go.E.nxt s) := ⟨fun _ h => h⟩
instance LeC.some {α : Type} {x : α} : LeC (Option.some x) (Option.some x) := ⟨fun _ h => h⟩
instance LeC.none {α : Type} {b : Option α} : LeC Option.none b := ⟨fun _ h => by cases h⟩
def iterX {S R : Type} (n : Nat) (f : S → Option (S ⊕ R)) (s : S) : Option R := iterN f n s
theorem iterN_LeC {S R : Type} {f g : S → Option (S ⊕ R)} (h : ∀ s, LeC (f s) (g s)) : ∀ (n : Nat) (s : S) (r : R), iterN f n s = Option.some r → iterN g n s = Option.some r
  | 0, _, _, hr => by cases hr
  | n + 1, s, r, hr => by
    rw [iterN] at hr ⊢
    cases hs : f s with
    | none => rw [hs] at hr; cases hr
    | some z =>
      rw [hs] at hr
      rw [(h s).le z hs]
      cases z with
      | inl s' => exact iterN_LeC h n s' r hr
      | inr r' => exact hr
instance LeC.iter {S R : Type} {n : Nat} {f g : S → Option (S ⊕ R)} {s : S} [h : ∀ s, LeC (f s) (g s)] : LeC (iterX n f s) (Go.E.iter g s) := ⟨fun r hr => iter_iff.2 ⟨n, iterN_LeC h n s r hr⟩⟩
instance LeC.stepY {S α : Type} {B B' : S → α → Option (Nat × S)} {p : Nat × S} {x : α} [h : ∀ s x, LeC (B s x) (B' s x)] : LeC (Go.E.stepY B p x) (Go.E.stepY B' p x) := ⟨fun r hr => by
  unfold Go.E.stepY at hr ⊢
  split at hr
  · rename_i h0
    rw [if_pos h0]
    cases hb : B p.2 x with
    | none => rw [hb] at hr; cases hr
    | some q => rw [hb] at hr; rw [(h p.2 x).le q hb]; exact hr
  · cases hr⟩
instance LeC.jsel {α : Type} {j : Nat} {a a' : Option α} {b b' : Nat → Option α} [h : LeC a a'] [k : ∀ j, LeC (b j) (b' j)] : LeC (Go.E.jsel j a b) (Go.E.jsel j a' b') := ⟨fun r hr => by
  cases j with
  | zero => exact h.le _ hr
  | succ j => exact (k j).le _ hr⟩
end Go.E
end

section
namespace Go.E
open Go
def insI (a : Int) : List Int → List Int
  | [] => [a]
  | b :: l => if a ≤ b then a :: b :: l else b :: insI a l
def isortI : List Int → List Int
  | [] => []
  | a :: l => insI a (isortI l)
theorem insI_app {a : Int} {l2 : List Int} (h2 : ∀ b ∈ l2, a ≤ b) : ∀ (l1 : List Int), (∀ b ∈ l1, ¬ a ≤ b) → insI a (l1 ++ l2) = l1 ++ a :: l2
  | [], _ => by
    cases l2 with
    | nil => rfl
    | cons b l => simp [insI, h2 b (List.mem_cons_self ..)]
  | b :: l1, h => by
    have h1 := h b (List.mem_cons_self ..)
    simp only [List.cons_append, insI, if_neg h1, insI_app h2 l1 (fun c hc => h c (List.mem_cons_of_mem _ hc))]
theorem isortI_eq : ∀ (l : List Int), isortI l = l.mergeSort fun x y => decide (x ≤ y)
  | [] => by simp [isortI]
  | a :: l => by
    have ht : ∀ a b c : Int, decide (a ≤ b) = true → decide (b ≤ c) = true → decide (a ≤ c) = true := fun a b c h k => by simp at *; omega
    have hT : ∀ a b : Int, (decide (a ≤ b) || decide (b ≤ a)) = true := fun a b => by simp; omega
    obtain ⟨l1, l2, h1, h2, h3⟩ := List.mergeSort_cons (le := fun x y => decide (x ≤ y)) ht hT a l
    have hs := List.pairwise_mergeSort (le := fun x y => decide (x ≤ y)) ht hT (a :: l)
    rw [h1] at hs ⊢
    rw [isortI, isortI_eq l, h2]
    refine insI_app (fun b hb => ?_) l1 (fun b hb => ?_)
    · have := (List.pairwise_append.1 hs).2.1
      simpa using (List.pairwise_cons.1 this).1 b hb
    · simpa using h3 b hb
end Go.E
end

section
namespace Go.Proofs.YtcaaiphgikpgjaaGreatDoor
open Go Go.E
set_option synthInstance.maxHeartbeats 2000000
set_option synthInstance.maxSize 100000
set_option maxHeartbeats 4000000
def Et_ (n : Nat) (k125 : Nat) (l128 : List Int) (k130 : Nat) : Option (((List Int) × Nat × Nat) ⊕ ((Nat) ⊕ ((List Int)))) :=
  nxt (l128, k130, (k125 + 1))
instance compactI_j1_le {n : Nat} {k125 : Nat} {l128 : List Int} {k130 : Nat} : LeC (Et_ n k125 l128 k130) (D0_ k125 l128 k130) := by
  unfold Et_ D0_; infer_instance
def F8_ (n : Nat) (x0 : List Int) (k105 : Nat) (l122 : List Int) (k124 : Nat) (k125 : Nat) : Option (((List Int) × Nat × Nat) ⊕ ((Nat) ⊕ ((List Int)))) :=
  iteO (decide (((k125 : Nat) : Int) < (((x0.length - k105) : Nat) : Int))) (grd (k125 < (x0.length - k105)) (grd (0 ≤ (IntKind.i64.wrap (((k125 : Nat) : Int) - 1)) ∧ (IntKind.i64.wrap (((k125 : Nat) : Int) - 1)) < ((x0.length - k105) : Nat)) (iteO (decide ((nth l122 (k105 + k125) (0 : Int)) ≠ (nth l122 (k105 + (IntKind.i64.wrap (((k125 : Nat) : Int) - 1)).toNat) (0 : Int)))) (grd (k125 < (x0.length - k105)) (grd (k124 < l122.length) (Et_ n k125 (l122.set k124 (nth l122 (k105 + k125) (0 : Int))) (k124 + 1)))) (Et_ n k125 l122 k124)))) (fin (grd (k124 ≤ x0.length) (grd (k124 ≤ (l122.take k124 ++ List.replicate (l122.length - k124) (0 : Int)).length) (fin (some ((l122.take k124 ++ List.replicate (l122.length - k124) (0 : Int)).take k124))))))
instance compactI_b2_le {n : Nat} {x0 : List Int} {k105 : Nat} {l122 : List Int} {k124 : Nat} {k125 : Nat} : LeC (F8_ n x0 k105 l122 k124 k125) (D1_ x0 k105 l122 k124 k125) := by
  unfold F8_ D1_; infer_instance
def Ga_ (n : Nat) (x0 : List Int) (k105 : Nat) : Option ((Nat) ⊕ ((List Int))) :=
  iteO (decide (((k105 : Nat) : Int) < ((x0.length : Nat) : Int))) (grd (0 ≤ (IntKind.i64.wrap (((k105 : Nat) : Int) - 1)) ∧ (IntKind.i64.wrap (((k105 : Nat) : Int) - 1)) < (x0.length : Int)) (iteO (decide ((nth x0 k105 (0 : Int)) = (nth x0 ((IntKind.i64.wrap (((k105 : Nat) : Int) - 1)).toNat) (0 : Int)))) (grd (k105 ≤ x0.length) (iterX n (fun q : (List Int) × Nat × Nat => F8_ n x0 k105 q.1 q.2.1 q.2.2) (x0, k105, 1))) (nxt (k105 + 1)))) (fin (some x0))
instance compactI_b1_le {n : Nat} {x0 : List Int} {k105 : Nat} : LeC (Ga_ n x0 k105) (Dw_ x0 k105) := by
  unfold Ga_ Dw_; infer_instance
def He_ (n : Nat) (x0 : List Int) : Option ((List Int)) :=
  iteO (decide (((x0.length : Nat) : Int) < 2)) (some x0) (iterX n (fun q : Nat => Ga_ n x0 q) 1)
instance compactI_le {n : Nat} {x0 : List Int} : LeC (He_ n x0) (compactI x0) := by
  unfold He_ compactI; infer_instance
def intern_Sort_x (n : Nat) (x0 : List Int) : Option ((List Int)) :=
  grd (x0.length * 8 ≤ 140737488355328) (bnd (He_ n (isortI x0)) (fun v8 => some v8))
instance intern_Sort_le {n : Nat} {x0 : List Int} : LeC (intern_Sort_x n x0) (intern_Sort x0) := by
  unfold intern_Sort_x intern_Sort; simp only [isortI_eq]; infer_instance
def intern_key_b2_x (n : Nat) (x0 : List Int) (k115 : Nat) (l126 : List UInt8) (k129 : Nat) : Option (((List UInt8) × Nat) ⊕ (((List UInt8) × Nat) ⊕ ((List UInt8)))) :=
  iteO (decide (((k129 : Nat) : Int) < 8)) (grd (0 ≤ IntKind.i64.wrap (8 * ((k129 : Nat) : Int))) (grd ((l126.length + [(toU8 (((u64shr (u64of (nth x0 k115 (0 : Int))) ((IntKind.i64.wrap (8 * ((k129 : Nat) : Int))).toNat)) : Nat) : Int))].length) * 1 ≤ 140737488355328) (nxt ((l126 ++ [(toU8 (((u64shr (u64of (nth x0 k115 (0 : Int))) ((IntKind.i64.wrap (8 * ((k129 : Nat) : Int))).toNat)) : Nat) : Int))]), (k129 + 1))))) (fin (nxt (l126, (k115 + 1))))
instance intern_key_b2_le {n : Nat} {x0 : List Int} {k115 : Nat} {l126 : List UInt8} {k129 : Nat} : LeC (intern_key_b2_x n x0 k115 l126 k129) (intern_key_b2 x0 k115 l126 k129) := by
  unfold intern_key_b2_x intern_key_b2; infer_instance
def intern_key_b1_x (n : Nat) (x0 : List Int) (l112 : List UInt8) (k115 : Nat) : Option (((List UInt8) × Nat) ⊕ ((List UInt8))) :=
  iteO (decide (((k115 : Nat) : Int) < ((x0.length : Nat) : Int))) (iterX n (fun q : (List UInt8) × Nat => intern_key_b2_x n x0 k115 q.1 q.2) (l112, 0)) (fin (some l112))
instance intern_key_b1_le {n : Nat} {x0 : List Int} {l112 : List UInt8} {k115 : Nat} : LeC (intern_key_b1_x n x0 l112 k115) (intern_key_b1 x0 l112 k115) := by
  unfold intern_key_b1_x intern_key_b1; infer_instance
def intern_key_x (n : Nat) (x0 : List Int) : Option ((List UInt8)) :=
  grd (0 ≤ IntKind.i64.wrap (8 * ((x0.length : Nat) : Int)) ∧ 1 * (IntKind.i64.wrap (8 * ((x0.length : Nat) : Int))).toNat ≤ 281474976710656) (iterX n (fun q : (List UInt8) × Nat => intern_key_b1_x n x0 q.1 q.2) (([] : List UInt8), 0))
instance intern_key_le {n : Nat} {x0 : List Int} : LeC (intern_key_x n x0) (intern_key x0) := by
  unfold intern_key_x intern_key; infer_instance
def intern_store_string_find_x (n : Nat) (x0 : IStore) (x1 : List UInt8) : Option (Int × Bool) :=
  grd (x1.length ≤ 281474976710656) (some ((x0.places.get x1 0), (x0.places.has x1)))
instance intern_store_string_find_le {n : Nat} {x0 : IStore} {x1 : List UInt8} : LeC (intern_store_string_find_x n x0 x1) (intern_store_string_find x0 x1) := by
  unfold intern_store_string_find_x intern_store_string_find; infer_instance
def intern_store_string_add_x (n : Nat) (x0 : IStore) (x1 : List UInt8) (x2 : List Int) : Option (Int × IStore) :=
  grd (x1.length ≤ 281474976710656) (grd ((x0.rows.length + [x2].length) * 24 ≤ 140737488355328) (some (((x0.rows.length : Nat) : Int), (⟨(x0.rows ++ [x2]), (x0.places.put x1 ((x0.rows.length : Nat) : Int))⟩ : IStore))))
instance intern_store_string_add_le {n : Nat} {x0 : IStore} {x1 : List UInt8} {x2 : List Int} : LeC (intern_store_string_add_x n x0 x1 x2) (intern_store_string_add x0 x1 x2) := by
  unfold intern_store_string_add_x intern_store_string_add; infer_instance
def intern_New_x (n : Nat) : Option (ITable) :=
  some (⟨(⟨([] : List (List Int)), (FM.emp : FM (List UInt8) Int)⟩ : IStore)⟩ : ITable)
instance intern_New_le {n : Nat}  : LeC (intern_New_x n) (intern_New) := by
  unfold intern_New_x intern_New; infer_instance
def intern_Table_Put_x (n : Nat) (x0 : ITable) (x1 : List Int) : Option (Int × Bool × Int × ITable) :=
  bnd (intern_Sort_x n x1) (fun v10 => bnd (intern_key_x n v10) (fun v13 => bnd (intern_store_string_find_x n (⟨x0.of.rows, x0.of.places⟩ : IStore) v13) (fun v19 => iteO v19.2 (some (v19.1, false, 0, (⟨(⟨x0.of.rows, x0.of.places⟩ : IStore)⟩ : ITable))) (iteO (decide (4096 ≤ ((x0.of.rows.length : Nat) : Int))) (some (0, false, 2, (⟨(⟨x0.of.rows, x0.of.places⟩ : IStore)⟩ : ITable))) (bnd (intern_store_string_add_x n (⟨x0.of.rows, x0.of.places⟩ : IStore) v13 v10) (fun v45 => some (v45.1, true, 0, (⟨(⟨v45.2.rows, v45.2.places⟩ : IStore)⟩ : ITable))))))))
instance intern_Table_Put_le {n : Nat} {x0 : ITable} {x1 : List Int} : LeC (intern_Table_Put_x n x0 x1) (intern_Table_Put x0 x1) := by
  unfold intern_Table_Put_x intern_Table_Put; infer_instance
def intern_Table_Row_x (n : Nat) (x0 : ITable) (x1 : Int) : Option ((List Int) × Int) :=
  iteO (decide (x1 < 0)) (some (([] : List Int), 1)) (iteO (decide (((x0.of.rows.length : Nat) : Int) ≤ x1)) (some (([] : List Int), 1)) (grd (0 ≤ x1 ∧ x1 < (x0.of.rows.length : Int)) (grd ((nth x0.of.rows x1.toNat ([] : List Int)).length * 8 ≤ 140737488355328) (some ((nth x0.of.rows x1.toNat ([] : List Int)), 0)))))
instance intern_Table_Row_le {n : Nat} {x0 : ITable} {x1 : Int} : LeC (intern_Table_Row_x n x0 x1) (intern_Table_Row x0 x1) := by
  unfold intern_Table_Row_x intern_Table_Row; infer_instance
def putKeep_x (n : Nat) (x0 : ITable) (x1 : List Int) : Option (Int × Bool × Int × ITable) :=
  bnd (intern_Sort_x n x1) (fun v10 => bnd (intern_key_x n v10) (fun v13 => bnd (intern_store_string_find_x n (⟨x0.of.rows, x0.of.places⟩ : IStore) v13) (fun v19 => iteO v19.2 (some (v19.1, false, 0, (⟨(⟨x0.of.rows, x0.of.places⟩ : IStore)⟩ : ITable))) (iteO (decide (4096 ≤ ((x0.of.rows.length : Nat) : Int))) (some (0, false, 2, (⟨(⟨x0.of.rows, x0.of.places⟩ : IStore)⟩ : ITable))) (bnd (intern_store_string_add_x n (⟨x0.of.rows, x0.of.places⟩ : IStore) v13 v10) (fun v45 => some (v45.1, true, 0, (⟨(⟨v45.2.rows, v45.2.places⟩ : IStore)⟩ : ITable))))))))
instance putKeep_le {n : Nat} {x0 : ITable} {x1 : List Int} : LeC (putKeep_x n x0 x1) (putKeep x0 x1) := by
  unfold putKeep_x putKeep; infer_instance
def intern_Table_Size_x (n : Nat) (x0 : ITable) : Option (Int) :=
  some ((x0.of.rows.length : Nat) : Int)
instance intern_Table_Size_le {n : Nat} {x0 : ITable} : LeC (intern_Table_Size_x n x0) (intern_Table_Size x0) := by
  unfold intern_Table_Size_x intern_Table_Size; infer_instance
def B6_ (n : Nat) (x0 : Nat) : Option (Int) :=
  iteO (decide (x0 = 0)) (some 64) (grd ((u64shr (u64mul (u64and x0 (u64of (-((x0 : Nat) : Int)))) 285870213051353865) 58) < 64) (some (((nth deB (u64shr (u64mul (u64and x0 (u64of (-((x0 : Nat) : Int)))) 285870213051353865) 58) (0 : UInt8)).toNat : Nat) : Int)))
instance math_bits_TrailingZeros64_le {n : Nat} {x0 : Nat} : LeC (B6_ n x0) (A4_ x0) := by
  unfold B6_ A4_; infer_instance
def Fs_ (n : Nat) (x0 : BSet) (k105 : Nat) : Option ((Nat) ⊕ (UInt8 × Bool)) :=
  iteO (decide (((k105 : Nat) : Int) < 4)) (grd (k105 < 4) (iteO (decide ((BSet.word x0 k105) ≠ 0)) (bnd (B6_ n (BSet.word x0 k105)) (fun v16 => fin (some ((toU8 (IntKind.i64.wrap ((IntKind.i64.wrap (64 * ((k105 : Nat) : Int))) + v16))), true)))) (nxt (k105 + 1)))) (fin (some ((0 : UInt8), false)))
instance set_First_b1_le {n : Nat} {x0 : BSet} {k105 : Nat} : LeC (Fs_ n x0 k105) (Dd_ x0 k105) := by
  unfold Fs_ Dd_; infer_instance
def Fx_ (n : Nat) (x0 : BSet) : Option (UInt8 × Bool) :=
  iterX n (fun q : Nat => Fs_ n x0 q) 0
instance set_First_le {n : Nat} {x0 : BSet} : LeC (Fx_ n x0) (Ez_ x0) := by
  unfold Fx_ Ez_; infer_instance
def Gr_ (n : Nat) (x1 : BSet) (z111 : BSet) (k112 : Nat) : Option ((BSet × Nat) ⊕ (BSet)) :=
  iteO (decide (((k112 : Nat) : Int) < 4)) (grd (k112 < 4) (grd (k112 < 4) (grd (k112 < 4) (grd ((u64or (BSet.word z111 k112) (BSet.word x1 k112)) < 18446744073709551616) (nxt ((BSet.setWord z111 k112 (u64or (BSet.word z111 k112) (BSet.word x1 k112))), (k112 + 1))))))) (fin (some z111))
instance set_Any_b1_le {n : Nat} {x1 : BSet} {z111 : BSet} {k112 : Nat} : LeC (Gr_ n x1 z111 k112) (Bu_ x1 z111 k112) := by
  unfold Gr_ Bu_; infer_instance
def Hw_ (n : Nat) (x0 : BSet) (x1 : BSet) : Option (BSet) :=
  iterX n (fun q : BSet × Nat => Gr_ n x1 q.1 q.2) (x0, 0)
instance set_Any_le {n : Nat} {x0 : BSet} {x1 : BSet} : LeC (Hw_ n x0 x1) (Df_ x0 x1) := by
  unfold Hw_ Df_; infer_instance
def Es_ (n : Nat) (k112 : Nat) (l115 : List UInt8) : Option (((List UInt8) × Nat) ⊕ ((List UInt8))) :=
  nxt (l115, (k112 + 1))
instance part_key_j1_le {n : Nat} {k112 : Nat} {l115 : List UInt8} : LeC (Es_ n k112 l115) (D3_ k112 l115) := by
  unfold Es_ D3_; infer_instance
def Gh_ (n : Nat) (x0 : List BSet) (x1 : UInt8) (l110 : List UInt8) (k112 : Nat) : Option (((List UInt8) × Nat) ⊕ ((List UInt8))) :=
  iteO (decide (((k112 : Nat) : Int) < ((x0.length : Nat) : Int))) (iteO ((nth x0 k112 BSet.zero).has x1.toNat) (grd (k112 < l110.length) (Es_ n k112 (l110.set k112 (1 : UInt8)))) (Es_ n k112 l110)) (fin (some l110))
instance part_key_b1_le {n : Nat} {x0 : List BSet} {x1 : UInt8} {l110 : List UInt8} {k112 : Nat} : LeC (Gh_ n x0 x1 l110 k112) (D2_ x0 x1 l110 k112) := by
  unfold Gh_ D2_; infer_instance
def Hg_ (n : Nat) (x0 : List BSet) (x1 : UInt8) : Option ((List UInt8)) :=
  grd (1 * x0.length ≤ 281474976710656) (iterX n (fun q : (List UInt8) × Nat => Gh_ n x0 x1 q.1 q.2) ((List.replicate x0.length (0 : UInt8)), 0))
instance part_key_le {n : Nat} {x0 : List BSet} {x1 : UInt8} : LeC (Hg_ n x0 x1) (Gs_ x0 x1) := by
  unfold Hg_ Gs_; infer_instance
def D7_ (n : Nat) (k121 : Nat) (m125 : FM (List UInt8) Int) (l126 : List BSet) (i129 : Int) : Option (((FM (List UInt8) Int) × (List BSet) × Nat) ⊕ ((List BSet) × Int)) :=
  grd (0 ≤ i129 ∧ i129 < (l126.length : Int)) (grd ([(toU8 ((k121 : Nat) : Int))].length ≤ 1000000000000) (bnd (Hw_ n (nth l126 i129.toNat BSet.zero) (BSet.ofL [(toU8 ((k121 : Nat) : Int))])) (fun v52 => grd (0 ≤ i129 ∧ i129 < (l126.length : Int)) (nxt (m125, (l126.set i129.toNat v52), (k121 + 1))))))
instance part_Parts_j1_le {n : Nat} {k121 : Nat} {m125 : FM (List UInt8) Int} {l126 : List BSet} {i129 : Int} : LeC (D7_ n k121 m125 l126 i129) (Cr_ k121 m125 l126 i129) := by
  unfold D7_ Cr_; infer_instance
def E6_ (n : Nat) (x0 : List BSet) (m116 : FM (List UInt8) Int) (l118 : List BSet) (k121 : Nat) : Option (((FM (List UInt8) Int) × (List BSet) × Nat) ⊕ ((List BSet) × Int)) :=
  iteO (decide (((k121 : Nat) : Int) < 256)) (bnd (Hg_ n x0 (toU8 ((k121 : Nat) : Int))) (fun v18 => iteO (!(m116.has v18)) (grd ((l118.length + [BSet.zero].length) * 32 ≤ 140737488355328) (D7_ n k121 (m116.put v18 ((l118.length : Nat) : Int)) (l118 ++ [BSet.zero]) ((l118.length : Nat) : Int))) (D7_ n k121 m116 l118 (m116.get v18 0)))) (fin (some (l118, 0)))
instance part_Parts_b1_le {n : Nat} {x0 : List BSet} {m116 : FM (List UInt8) Int} {l118 : List BSet} {k121 : Nat} : LeC (E6_ n x0 m116 l118 k121) (Cq_ x0 m116 l118 k121) := by
  unfold E6_ Cq_; infer_instance
def Gp_ (n : Nat) (x0 : List BSet) : Option ((List BSet) × Int) :=
  iteO (decide (1024 < ((x0.length : Nat) : Int))) (some (([] : List BSet), 2)) (iterX n (fun q : (FM (List UInt8) Int) × (List BSet) × Nat => E6_ n x0 q.1 q.2.1 q.2.2) ((FM.emp : FM (List UInt8) Int), ([] : List BSet), 0))
instance part_Parts_le {n : Nat} {x0 : List BSet} : LeC (Gp_ n x0) (Fc_ x0) := by
  unfold Gp_ Fc_; infer_instance
def Ea_ (n : Nat) (k146 : Nat) (l149 : List Int) : Option (((List Int) × Nat) ⊕ (((List Int) × Int × Nat) ⊕ ((List Int) × Int))) :=
  nxt (l149, (k146 + 1))
instance part_Class_j1_le {n : Nat} {k146 : Nat} {l149 : List Int} : LeC (Ea_ n k146 l149) (Cp_ k146 l149) := by
  unfold Ea_ Cp_; infer_instance
def E5_ (n : Nat) (x0 : List BSet) (k130 : Nat) (v29 : UInt8 × Bool) (l144 : List Int) (k146 : Nat) : Option (((List Int) × Nat) ⊕ (((List Int) × Int × Nat) ⊕ ((List Int) × Int))) :=
  iteO (decide (((k146 : Nat) : Int) < 256)) (iteO (!((nth x0 k130 BSet.zero).has (toU8 ((k146 : Nat) : Int)).toNat)) (Ea_ n k146 l144) (grd (k146 < l144.length) (iteO (decide (0 ≤ (nth l144 k146 (0 : Int)))) (fin (fin (some (([] : List Int), 1)))) (grd (k146 < l144.length) (Ea_ n k146 (l144.set k146 ((k130 : Nat) : Int))))))) (fin (nxt (l144, ((v29.1.toNat : Nat) : Int), (k130 + 1))))
instance part_Class_b3_le {n : Nat} {x0 : List BSet} {k130 : Nat} {v29 : UInt8 × Bool} {l144 : List Int} {k146 : Nat} : LeC (E5_ n x0 k130 v29 l144 k146) (Co_ x0 k130 v29 l144 k146) := by
  unfold E5_ Co_; infer_instance
def E4_ (n : Nat) (l127 : List Int) (k165 : Nat) : Option ((Nat) ⊕ ((List Int) × Int)) :=
  iteO (decide (((k165 : Nat) : Int) < (((List.replicate 256 (0 : Int)).length : Nat) : Int))) (grd (k165 < l127.length) (iteO (decide ((nth l127 k165 (0 : Int)) < 0)) (fin (some (([] : List Int), 1))) (nxt (k165 + 1)))) (fin (some (l127, 0)))
instance part_Class_b4_le {n : Nat} {l127 : List Int} {k165 : Nat} : LeC (E4_ n l127 k165) (Ct_ l127 k165) := by
  unfold E4_ Ct_; infer_instance
def Fd_ (n : Nat) (x0 : List BSet) (l127 : List Int) (i129 : Int) (k130 : Nat) : Option (((List Int) × Int × Nat) ⊕ ((List Int) × Int)) :=
  iteO (decide (((k130 : Nat) : Int) < ((x0.length : Nat) : Int))) (bnd (Fx_ n (nth x0 k130 BSet.zero)) (fun v29 => iteO (!v29.2) (fin (some (([] : List Int), 1))) (iteO (decide (((v29.1.toNat : Nat) : Int) ≤ i129)) (fin (some (([] : List Int), 1))) (iterX n (fun q : (List Int) × Nat => E5_ n x0 k130 v29 q.1 q.2) (l127, 0))))) (fin (iterX n (fun q : Nat => E4_ n l127 q) 0))
instance part_Class_b2_le {n : Nat} {x0 : List BSet} {l127 : List Int} {i129 : Int} {k130 : Nat} : LeC (Fd_ n x0 l127 i129 k130) (Cu_ x0 l127 i129 k130) := by
  unfold Fd_ Cu_; infer_instance
def Fg_ (n : Nat) (x0 : List BSet) (l110 : List Int) (k112 : Nat) : Option (((List Int) × Nat) ⊕ ((List Int) × Int)) :=
  iteO (decide (((k112 : Nat) : Int) < (((List.replicate 256 (0 : Int)).length : Nat) : Int))) (grd (k112 < l110.length) (nxt ((l110.set k112 (-1)), (k112 + 1)))) (fin (iterX n (fun q : (List Int) × Int × Nat => Fd_ n x0 q.1 q.2.1 q.2.2) (l110, (-1), 0)))
instance part_Class_b1_le {n : Nat} {x0 : List BSet} {l110 : List Int} {k112 : Nat} : LeC (Fg_ n x0 l110 k112) (Cv_ x0 l110 k112) := by
  unfold Fg_ Cv_; infer_instance
def Go_ (n : Nat) (x0 : List BSet) : Option ((List Int) × Int) :=
  iterX n (fun q : (List Int) × Nat => Fg_ n x0 q.1 q.2) ((List.replicate 256 (0 : Int)), 0)
instance part_Class_le {n : Nat} {x0 : List BSet} : LeC (Go_ n x0) (E9_ x0) := by
  unfold Go_ E9_; infer_instance
def D8_ (n : Nat) (k120 : Nat) (m124 : FM BSet Int) (l125 : List BSet) : Option (((FM BSet Int) × (List BSet) × Nat) ⊕ ((List BSet))) :=
  nxt (m124, l125, (k120 + 1))
instance dfa_unlike_j1_le {n : Nat} {k120 : Nat} {m124 : FM BSet Int} {l125 : List BSet} : LeC (D8_ n k120 m124 l125) (Cx_ k120 m124 l125) := by
  unfold D8_ Cx_; infer_instance
def Fj_ (n : Nat) (x0 : List Arrow) (m115 : FM BSet Int) (l117 : List BSet) (k120 : Nat) : Option (((FM BSet Int) × (List BSet) × Nat) ⊕ ((List BSet))) :=
  iteO (decide (((k120 : Nat) : Int) < ((x0.length : Nat) : Int))) (iteO (!(m115.has ((nth x0 k120 Arrow.zero).set))) (grd ((l117.length + [(nth x0 k120 Arrow.zero).set].length) * 32 ≤ 140737488355328) (D8_ n k120 (m115.put ((nth x0 k120 Arrow.zero).set) ((l117.length : Nat) : Int)) (l117 ++ [(nth x0 k120 Arrow.zero).set]))) (D8_ n k120 m115 l117)) (fin (some l117))
instance dfa_unlike_b1_le {n : Nat} {x0 : List Arrow} {m115 : FM BSet Int} {l117 : List BSet} {k120 : Nat} : LeC (Fj_ n x0 m115 l117 k120) (Cs_ x0 m115 l117 k120) := by
  unfold Fj_ Cs_; infer_instance
def Gq_ (n : Nat) (x0 : List Arrow) : Option ((List BSet)) :=
  iterX n (fun q : (FM BSet Int) × (List BSet) × Nat => Fj_ n x0 q.1 q.2.1 q.2.2) ((FM.emp : FM BSet Int), ([] : List BSet), 0)
instance dfa_unlike_le {n : Nat} {x0 : List Arrow} : LeC (Gq_ n x0) (Fi_ x0) := by
  unfold Gq_ Fi_; infer_instance
def Eb_ (n : Nat) (k133 : Nat) (l136 : List Int) : Option (((List Int) × Nat) ⊕ (((List Int) × Nat) ⊕ ((List Int)))) :=
  nxt (l136, (k133 + 1))
instance dfa_behind_j1_le {n : Nat} {k133 : Nat} {l136 : List Int} : LeC (Eb_ n k133 l136) (Cy_ k133 l136) := by
  unfold Eb_ Cy_; infer_instance
def Fe_ (n : Nat) (x0 : List (List Arrow)) (x1 : List Int) (k117 : Nat) (v4 : UInt8 × Bool) (l130 : List Int) (k133 : Nat) : Option (((List Int) × Nat) ⊕ (((List Int) × Nat) ⊕ ((List Int)))) :=
  iteO (decide (((k133 : Nat) : Int) < (((nth x0 ((nth x1 k117 (0 : Int)).toNat) ([] : List Arrow)).length : Nat) : Int))) (iteO (((nth (nth x0 ((nth x1 k117 (0 : Int)).toNat) ([] : List Arrow)) k133 Arrow.zero).set).has v4.1.toNat) (grd ((l130.length + [(nth (nth x0 ((nth x1 k117 (0 : Int)).toNat) ([] : List Arrow)) k133 Arrow.zero).to].length) * 8 ≤ 140737488355328) (Eb_ n k133 (l130 ++ [(nth (nth x0 ((nth x1 k117 (0 : Int)).toNat) ([] : List Arrow)) k133 Arrow.zero).to]))) (Eb_ n k133 l130)) (fin (nxt (l130, (k117 + 1))))
instance dfa_behind_b2_le {n : Nat} {x0 : List (List Arrow)} {x1 : List Int} {k117 : Nat} {v4 : UInt8 × Bool} {l130 : List Int} {k133 : Nat} : LeC (Fe_ n x0 x1 k117 v4 l130 k133) (Cw_ x0 x1 k117 v4 l130 k133) := by
  unfold Fe_ Cw_; infer_instance
def Fk_ (n : Nat) (x1 : List Int) (x0 : List (List Arrow)) (v4 : UInt8 × Bool) (l114 : List Int) (k117 : Nat) : Option (((List Int) × Nat) ⊕ ((List Int))) :=
  iteO (decide (((k117 : Nat) : Int) < ((x1.length : Nat) : Int))) (grd (0 ≤ (nth x1 k117 (0 : Int)) ∧ (nth x1 k117 (0 : Int)) < (x0.length : Int)) (iterX n (fun q : (List Int) × Nat => Fe_ n x0 x1 k117 v4 q.1 q.2) (l114, 0))) (fin (some l114))
instance dfa_behind_b1_le {n : Nat} {x1 : List Int} {x0 : List (List Arrow)} {v4 : UInt8 × Bool} {l114 : List Int} {k117 : Nat} : LeC (Fk_ n x1 x0 v4 l114 k117) (Cz_ x1 x0 v4 l114 k117) := by
  unfold Fk_ Cz_; infer_instance
def Gx_ (n : Nat) (x0 : List (List Arrow)) (x1 : List Int) (x2 : BSet) : Option ((List Int)) :=
  bnd (Fx_ n x2) (fun v4 => iterX n (fun q : (List Int) × Nat => Fk_ n x1 x0 v4 q.1 q.2) (([] : List Int), 0))
instance dfa_behind_le {n : Nat} {x0 : List (List Arrow)} {x1 : List Int} {x2 : BSet} : LeC (Gx_ n x0 x1 x2) (Ff_ x0 x1 x2) := by
  unfold Gx_ Ff_; infer_instance
def Ed_ (n : Nat) {Sy : Type} (x1 : List BSet) (Y : Sy → Int × BSet → Option (Sy × Bool)) (k111 : Nat) (s112 : Sy) : Option ((Nat × Sy) ⊕ (Sy)) :=
  iteO (decide (((k111 : Nat) : Int) < ((x1.length : Nat) : Int))) (bnd (Y s112 (((k111 : Nat) : Int), (nth x1 k111 BSet.zero))) (fun v14 => iteO (!v14.2) (fin (some v14.1)) (nxt ((k111 + 1), v14.1)))) (fin (some s112))
instance dfa_classes_1_b1_le {n : Nat} {Sy : Type} {x1 : List BSet} {Y : Sy → Int × BSet → Option (Sy × Bool)} {k111 : Nat} {s112 : Sy} {Y' : Sy → Int × BSet → Option (Sy × Bool)} [hY : ∀ s x, LeC (Y s x) (Y' s x)] : LeC (Ed_ n x1 Y k111 s112) (Ao_ x1 Y' k111 s112) := by
  unfold Ed_ Ao_; infer_instance
def Fa_ (n : Nat) {Sy : Type} (Y : Sy → Int × BSet → Option (Sy × Bool)) (s0 : Sy) (x1 : List BSet) : Option (Sy) :=
  iterX n (fun q : Nat × Sy => Ed_ n x1 Y q.1 q.2) (0, s0)
instance dfa_classes_1_le {n : Nat} {Sy : Type} {Y : Sy → Int × BSet → Option (Sy × Bool)} {s0 : Sy} {x1 : List BSet} {Y' : Sy → Int × BSet → Option (Sy × Bool)} [hY : ∀ s x, LeC (Y s x) (Y' s x)] : LeC (Fa_ n Y s0 x1) (Bl_ Y' s0 x1) := by
  unfold Fa_ Bl_; infer_instance
def Gc_ (n : Nat) (x0 : List BSet) : Option ((List BSet)) :=
  some x0
instance dfa_classes_le {n : Nat} {x0 : List BSet} : LeC (Gc_ n x0) (C7_ x0) := by
  unfold Gc_ C7_; infer_instance
def G9_ (n : Nat) (l130 : List (List Arrow)) (x0 : Nfa) (k134 : Nat) : Option (((List (List Arrow)) × Nat) ⊕ (Dfa × Int)) :=
  nxt ((l130.set (((nth x0.edges k134 Arrow.zero).frm).toNat) ((nth l130 (((nth x0.edges k134 Arrow.zero).frm).toNat) ([] : List Arrow)) ++ [(nth x0.edges k134 Arrow.zero)])), (k134 + 1))
instance dfa_Of_j1_le {n : Nat} {l130 : List (List Arrow)} {x0 : Nfa} {k134 : Nat} : LeC (G9_ n l130 x0 k134) (F1_ l130 x0 k134) := by
  unfold G9_ F1_; infer_instance
def Fy_ (n : Nat) (k323 : Nat) (t335 : Bool) : Option ((Bool × Nat) ⊕ ((Int × (List (List Int)) × (FM (List UInt8) Int) × (List (List Int)) × (List Bool) × Nat) ⊕ (Dfa × Int))) :=
  nxt (t335, (k323 + 1))
instance dfa_Of_j2_le {n : Nat} {k323 : Nat} {t335 : Bool} : LeC (Fy_ n k323 t335) (E2_ k323 t335) := by
  unfold Fy_ E2_; infer_instance
def Gf_ (n : Nat) (l130 : List (List Arrow)) (v116 : (List Int) × Int) (i388 : Int) (l391 : List (List Int)) (m397 : FM (List UInt8) Int) (l401 : List Int) (y256_0 : Int) (y256_1 : BSet) : Option (Nat × (Int × (List (List Int)) × (FM (List UInt8) Int) × (List Int))) :=
  bnd (Gx_ n l130 v116.1 y256_1) (fun v161 => bnd (putKeep_x n (⟨(⟨l391, m397⟩ : IStore)⟩ : ITable) v161) (fun v162 => iteO (decide (v162.2.2.1 ≠ 0)) (some (1, (v162.2.2.1, v162.2.2.2.of.rows, v162.2.2.2.of.places, l401))) (iteO (decide (1024 ≤ v162.1)) (some (1, (2, v162.2.2.2.of.rows, v162.2.2.2.of.places, l401))) (grd (0 ≤ y256_0 ∧ y256_0 < (l401.length : Int)) (some (0, (i388, v162.2.2.2.of.rows, v162.2.2.2.of.places, (l401.set y256_0.toNat v162.1))))))))
instance dfa_Of_r256_le {n : Nat} {l130 : List (List Arrow)} {v116 : (List Int) × Int} {i388 : Int} {l391 : List (List Int)} {m397 : FM (List UInt8) Int} {l401 : List Int} {y256_0 : Int} {y256_1 : BSet} : LeC (Gf_ n l130 v116 i388 l391 m397 l401 y256_0 y256_1) (Ep_ l130 v116 i388 l391 m397 l401 y256_0 y256_1) := by
  unfold Gf_ Ep_; infer_instance
def Gb_ (n : Nat) (l277 : List (List Int)) (l283 : List Bool) (t322 : Bool) (k286 : Nat) (jz : Nat) (i388 : Int) (l391 : List (List Int)) (m397 : FM (List UInt8) Int) (l401 : List Int) : Option ((Int × (List (List Int)) × (FM (List UInt8) Int) × (List (List Int)) × (List Bool) × Nat) ⊕ (Dfa × Int)) :=
  jsel jz (grd ((l277.length + [l401].length) * 24 ≤ 140737488355328) (grd ((l283.length + [t322].length) * 1 ≤ 140737488355328) (grd (k286 + 1 ≤ 9223372036854775807) (nxt (i388, l391, m397, (l277 ++ [l401]), (l283 ++ [t322]), (k286 + 1)))))) (fun j_ => jsel j_ (fin (some ((⟨([] : List Int), ([] : List (List Int)), ([] : List Bool)⟩ : Dfa), i388))) (fun _ => none))
instance dfa_Of_k256_le {n : Nat} {l277 : List (List Int)} {l283 : List Bool} {t322 : Bool} {k286 : Nat} {jz : Nat} {i388 : Int} {l391 : List (List Int)} {m397 : FM (List UInt8) Int} {l401 : List Int} : LeC (Gb_ n l277 l283 t322 k286 jz i388 l391 m397 l401) (Fv_ l277 l283 t322 k286 jz i388 l391 m397 l401) := by
  unfold Gb_ Fv_; infer_instance
def G5_ (n : Nat) (v116 : (List Int) × Int) (l193 : List Bool) (v13 : (List BSet) × Int) (l130 : List (List Arrow)) (i264 : Int) (l268 : List (List Int)) (m274 : FM (List UInt8) Int) (l277 : List (List Int)) (l283 : List Bool) (k286 : Nat) (t322 : Bool) (k323 : Nat) : Option ((Bool × Nat) ⊕ ((Int × (List (List Int)) × (FM (List UInt8) Int) × (List (List Int)) × (List Bool) × Nat) ⊕ (Dfa × Int))) :=
  iteO (decide (((k323 : Nat) : Int) < ((v116.1.length : Nat) : Int))) (iteO t322 (Fy_ n k323 true) (grd (0 ≤ (nth v116.1 k323 (0 : Int)) ∧ (nth v116.1 k323 (0 : Int)) < (l193.length : Int)) (Fy_ n k323 (nth l193 ((nth v116.1 k323 (0 : Int)).toNat) false)))) (fin (grd (8 * v13.1.length ≤ 281474976710656) (bnd (Gc_ n v13.1) (fun v153 => bnd (Fa_ n (stepY (fun (q : Int × (List (List Int)) × (FM (List UInt8) Int) × (List Int)) (x : Int × BSet) => Gf_ n l130 v116 q.1 q.2.1 q.2.2.1 q.2.2.2 x.1 x.2)) (0, (i264, l268, m274, (List.replicate v13.1.length (0 : Int)))) v153) (fun zr256 => Gb_ n l277 l283 t322 k286 zr256.1 zr256.2.1 zr256.2.2.1 zr256.2.2.2.1 zr256.2.2.2.2)))))
instance dfa_Of_b4_le {n : Nat} {v116 : (List Int) × Int} {l193 : List Bool} {v13 : (List BSet) × Int} {l130 : List (List Arrow)} {i264 : Int} {l268 : List (List Int)} {m274 : FM (List UInt8) Int} {l277 : List (List Int)} {l283 : List Bool} {k286 : Nat} {t322 : Bool} {k323 : Nat} : LeC (G5_ n v116 l193 v13 l130 i264 l268 m274 l277 l283 k286 t322 k323) (E1_ v116 l193 v13 l130 i264 l268 m274 l277 l283 k286 t322 k323) := by
  unfold G5_ E1_; infer_instance
def G2_ (n : Nat) (l193 : List Bool) (v13 : (List BSet) × Int) (l130 : List (List Arrow)) (v26 : (List Int) × Int) (i264 : Int) (l268 : List (List Int)) (m274 : FM (List UInt8) Int) (l277 : List (List Int)) (l283 : List Bool) (k286 : Nat) : Option ((Int × (List (List Int)) × (FM (List UInt8) Int) × (List (List Int)) × (List Bool) × Nat) ⊕ (Dfa × Int)) :=
  bnd (intern_Table_Size_x n (⟨(⟨l268, m274⟩ : IStore)⟩ : ITable)) (fun v112 => iteO (decide (((k286 : Nat) : Int) < v112)) (bnd (intern_Table_Row_x n (⟨(⟨l268, m274⟩ : IStore)⟩ : ITable) ((k286 : Nat) : Int)) (fun v116 => iteO (decide (v116.2 ≠ 0)) (fin (some ((⟨([] : List Int), ([] : List (List Int)), ([] : List Bool)⟩ : Dfa), v116.2))) (iterX n (fun q : Bool × Nat => G5_ n v116 l193 v13 l130 i264 l268 m274 l277 l283 k286 q.1 q.2) (false, 0)))) (fin (some ((⟨v26.1, l277, l283⟩ : Dfa), 0))))
instance dfa_Of_b3_le {n : Nat} {l193 : List Bool} {v13 : (List BSet) × Int} {l130 : List (List Arrow)} {v26 : (List Int) × Int} {i264 : Int} {l268 : List (List Int)} {m274 : FM (List UInt8) Int} {l277 : List (List Int)} {l283 : List Bool} {k286 : Nat} : LeC (G2_ n l193 v13 l130 v26 i264 l268 m274 l277 l283 k286) (Ex_ l193 v13 l130 v26 i264 l268 m274 l277 l283 k286) := by
  unfold G2_ Ex_; infer_instance
def G3_ (n : Nat) (x0 : Nfa) (v13 : (List BSet) × Int) (l130 : List (List Arrow)) (v26 : (List Int) × Int) (l193 : List Bool) (k195 : Nat) : Option (((List Bool) × Nat) ⊕ (Dfa × Int)) :=
  iteO (decide (((k195 : Nat) : Int) < ((x0.ends.length : Nat) : Int))) (grd (0 ≤ (nth x0.ends k195 (0 : Int)) ∧ (nth x0.ends k195 (0 : Int)) < (l193.length : Int)) (nxt ((l193.set ((nth x0.ends k195 (0 : Int)).toNat) true), (k195 + 1)))) (fin (bnd (intern_New_x n) (fun v85 => bnd (intern_Table_Put_x n (⟨(⟨v85.of.rows, v85.of.places⟩ : IStore)⟩ : ITable) x0.starts) (fun v91 => iteO (decide (v91.2.2.1 ≠ 0)) (some ((⟨([] : List Int), ([] : List (List Int)), ([] : List Bool)⟩ : Dfa), v91.2.2.1)) (iterX n (fun q : Int × (List (List Int)) × (FM (List UInt8) Int) × (List (List Int)) × (List Bool) × Nat => G2_ n l193 v13 l130 v26 q.1 q.2.1 q.2.2.1 q.2.2.2.1 q.2.2.2.2.1 q.2.2.2.2.2) (0, v91.2.2.2.of.rows, v91.2.2.2.of.places, ([] : List (List Int)), ([] : List Bool), 0))))))
instance dfa_Of_b2_le {n : Nat} {x0 : Nfa} {v13 : (List BSet) × Int} {l130 : List (List Arrow)} {v26 : (List Int) × Int} {l193 : List Bool} {k195 : Nat} : LeC (G3_ n x0 v13 l130 v26 l193 k195) (E0_ x0 v13 l130 v26 l193 k195) := by
  unfold G3_ E0_; infer_instance
def G4_ (n : Nat) (x0 : Nfa) (v13 : (List BSet) × Int) (v26 : (List Int) × Int) (l130 : List (List Arrow)) (k134 : Nat) : Option (((List (List Arrow)) × Nat) ⊕ (Dfa × Int)) :=
  iteO (decide (((k134 : Nat) : Int) < ((x0.edges.length : Nat) : Int))) (grd (0 ≤ ((nth x0.edges k134 Arrow.zero).frm) ∧ ((nth x0.edges k134 Arrow.zero).frm) < (l130.length : Int)) (grd (((nth l130 (((nth x0.edges k134 Arrow.zero).frm).toNat) ([] : List Arrow)).length + [(nth x0.edges k134 Arrow.zero)].length) * 48 ≤ 140737488355328) (grd (0 ≤ ((nth x0.edges k134 Arrow.zero).frm) ∧ ((nth x0.edges k134 Arrow.zero).frm) < (l130.length : Int)) (G9_ n l130 x0 k134)))) (fin (grd (0 ≤ x0.states ∧ 1 * x0.states.toNat ≤ 281474976710656) (iterX n (fun q : (List Bool) × Nat => G3_ n x0 v13 l130 v26 q.1 q.2) ((List.replicate x0.states.toNat false), 0))))
instance dfa_Of_b1_le {n : Nat} {x0 : Nfa} {v13 : (List BSet) × Int} {v26 : (List Int) × Int} {l130 : List (List Arrow)} {k134 : Nat} : LeC (G4_ n x0 v13 v26 l130 k134) (Ey_ x0 v13 v26 l130 k134) := by
  unfold G4_ Ey_; infer_instance
def Hj_ (n : Nat) (x0 : Nfa) : Option (Dfa × Int) :=
  iteO (decide ((errB (checkB x0)) ≠ 0)) (some ((⟨([] : List Int), ([] : List (List Int)), ([] : List Bool)⟩ : Dfa), 1)) (bnd (Gq_ n x0.edges) (fun v12 => bnd (Gp_ n v12) (fun v13 => iteO (decide (v13.2 ≠ 0)) (some ((⟨([] : List Int), ([] : List (List Int)), ([] : List Bool)⟩ : Dfa), v13.2)) (bnd (Go_ n v13.1) (fun v26 => iteO (decide (v26.2 ≠ 0)) (some ((⟨([] : List Int), ([] : List (List Int)), ([] : List Bool)⟩ : Dfa), v26.2)) (grd (0 ≤ x0.states ∧ 24 * x0.states.toNat ≤ 281474976710656) (iterX n (fun q : (List (List Arrow)) × Nat => G4_ n x0 v13 v26 q.1 q.2) ((List.replicate x0.states.toNat ([] : List Arrow)), 0))))))))
instance dfa_Of_le {n : Nat} {x0 : Nfa} : LeC (Hj_ n x0) (Gv_ x0) := by
  unfold Hj_ Gv_; infer_instance
def Eq_ (n : Nat) (x0 : Int) (x1 : Int) : Option (Bool) :=
  iteO (decide (0 ≤ x0)) (some (decide (x0 < x1))) (some false)
instance fst_state_le {n : Nat} {x0 : Int} {x1 : Int} : LeC (Eq_ n x0 x1) (C4_ x0 x1) := by
  unfold Eq_ C4_; infer_instance
def Ei_ (n : Nat) (x0 : List Tip) (x1 : Int) (k104 : Nat) : Option ((Nat) ⊕ (Bool)) :=
  iteO (decide (((k104 : Nat) : Int) < ((x0.length : Nat) : Int))) (bnd (Eq_ n ((nth x0 k104 Tip.zero).state) x1) (fun v17 => iteO (!v17) (fin (some false)) (iteO (decide (1024 < ((((nth x0 k104 Tip.zero).out).length : Nat) : Int))) (fin (some false)) (nxt (k104 + 1))))) (fin (some true))
instance fst_rightTips_b1_le {n : Nat} {x0 : List Tip} {x1 : Int} {k104 : Nat} : LeC (Ei_ n x0 x1 k104) (Az_ x0 x1 k104) := by
  unfold Ei_ Az_; infer_instance
def D9_ (n : Nat) (x0 : List Tip) (x1 : Int) : Option (Bool) :=
  iteO (decide (1024 < ((x0.length : Nat) : Int))) (some false) (iterX n (fun q : Nat => Ei_ n x0 x1 q) 0)
instance fst_rightTips_le {n : Nat} {x0 : List Tip} {x1 : Int} : LeC (D9_ n x0 x1) (Bv_ x0 x1) := by
  unfold D9_ Bv_; infer_instance
def Fq_ (n : Nat) (x0 : Fst) (k110 : Nat) : Option ((Nat) ⊕ (Int)) :=
  iteO (decide (((k110 : Nat) : Int) < ((x0.arcs.length : Nat) : Int))) (bnd (Eq_ n ((nth x0.arcs k110 Arc.zero).frm) x0.states) (fun v46 => iteO (!v46) (fin (some 1)) (bnd (Eq_ n ((nth x0.arcs k110 Arc.zero).to) x0.states) (fun v53 => iteO (!v53) (fin (some 1)) (iteO (decide ((nth x0.arcs k110 Arc.zero).set = BSet.zero)) (fin (some 1)) (iteO (decide (1024 < ((((nth x0.arcs k110 Arc.zero).out).length : Nat) : Int))) (fin (some 1)) (nxt (k110 + 1)))))))) (fin (some 0))
instance fst_Check_b1_le {n : Nat} {x0 : Fst} {k110 : Nat} : LeC (Fq_ n x0 k110) (Bs_ x0 k110) := by
  unfold Fq_ Bs_; infer_instance
def Er_ (n : Nat) (x0 : Fst) : Option (Int) :=
  iteO (decide (x0.states < 0)) (some 1) (iteO (decide (1024 < x0.states)) (some 1) (iteO (decide (16384 < ((x0.arcs.length : Nat) : Int))) (some 1) (bnd (D9_ n x0.starts x0.states) (fun v22 => iteO (!v22) (some 1) (bnd (D9_ n x0.ends x0.states) (fun v29 => iteO (!v29) (some 1) (iterX n (fun q : Nat => Fq_ n x0 q) 0)))))))
instance fst_Check_le {n : Nat} {x0 : Fst} : LeC (Er_ n x0) (B7_ x0) := by
  unfold Er_ B7_; infer_instance
def Dj_ (n : Nat) (x0 : Grow) (x1 : Tip) : Option (Grow) :=
  iteO x0.over (some (⟨(⟨x0.f.states, x0.f.starts, x0.f.ends, x0.f.arcs⟩ : Fst), true⟩ : Grow)) (iteO (decide (1024 ≤ ((x0.f.starts.length : Nat) : Int))) (some (⟨(⟨x0.f.states, x0.f.starts, x0.f.ends, x0.f.arcs⟩ : Fst), true⟩ : Grow)) (iteO (decide (1024 < ((x1.out.length : Nat) : Int))) (some (⟨(⟨x0.f.states, x0.f.starts, x0.f.ends, x0.f.arcs⟩ : Fst), true⟩ : Grow)) (grd ((x0.f.starts.length + [x1].length) * 24 ≤ 140737488355328) (some (⟨(⟨x0.f.states, (x0.f.starts ++ [x1]), x0.f.ends, x0.f.arcs⟩ : Fst), x0.over⟩ : Grow)))))
instance rat_grow_start_le {n : Nat} {x0 : Grow} {x1 : Tip} : LeC (Dj_ n x0 x1) (A1_ x0 x1) := by
  unfold Dj_ A1_; infer_instance
def El_ (n : Nat) (x0 : Grow) (x1 : Tip) : Option (Grow) :=
  iteO x0.over (some (⟨(⟨x0.f.states, x0.f.starts, x0.f.ends, x0.f.arcs⟩ : Fst), true⟩ : Grow)) (iteO (decide (1024 ≤ ((x0.f.ends.length : Nat) : Int))) (some (⟨(⟨x0.f.states, x0.f.starts, x0.f.ends, x0.f.arcs⟩ : Fst), true⟩ : Grow)) (iteO (decide (1024 < ((x1.out.length : Nat) : Int))) (some (⟨(⟨x0.f.states, x0.f.starts, x0.f.ends, x0.f.arcs⟩ : Fst), true⟩ : Grow)) (grd ((x0.f.ends.length + [x1].length) * 24 ≤ 140737488355328) (some (⟨(⟨x0.f.states, x0.f.starts, (x0.f.ends ++ [x1]), x0.f.arcs⟩ : Fst), x0.over⟩ : Grow)))))
instance rat_grow_end_le {n : Nat} {x0 : Grow} {x1 : Tip} : LeC (El_ n x0 x1) (A6_ x0 x1) := by
  unfold El_ A6_; infer_instance
def Ek_ (n : Nat) (x0 : Grow) (x1 : Arc) : Option (Grow) :=
  iteO x0.over (some (⟨(⟨x0.f.states, x0.f.starts, x0.f.ends, x0.f.arcs⟩ : Fst), true⟩ : Grow)) (iteO (decide (16384 ≤ ((x0.f.arcs.length : Nat) : Int))) (some (⟨(⟨x0.f.states, x0.f.starts, x0.f.ends, x0.f.arcs⟩ : Fst), true⟩ : Grow)) (iteO (decide (1024 < ((x1.out.length : Nat) : Int))) (some (⟨(⟨x0.f.states, x0.f.starts, x0.f.ends, x0.f.arcs⟩ : Fst), true⟩ : Grow)) (grd ((x0.f.arcs.length + [x1].length) * 72 ≤ 140737488355328) (some (⟨(⟨x0.f.states, x0.f.starts, x0.f.ends, (x0.f.arcs ++ [x1])⟩ : Fst), x0.over⟩ : Grow)))))
instance rat_grow_arc_le {n : Nat} {x0 : Grow} {x1 : Arc} : LeC (Ek_ n x0 x1) (Bh_ x0 x1) := by
  unfold Ek_ Bh_; infer_instance
def C6_ (n : Nat) (x0 : Grow) : Option (Fst × Int) :=
  iteO x0.over (some ((⟨0, ([] : List Tip), ([] : List Tip), ([] : List Arc)⟩ : Fst), 2)) (iteO (decide (1024 < x0.f.states)) (some ((⟨0, ([] : List Tip), ([] : List Tip), ([] : List Arc)⟩ : Fst), 2)) (some ((⟨x0.f.states, x0.f.starts, x0.f.ends, x0.f.arcs⟩ : Fst), 0)))
instance rat_grow_look_le {n : Nat} {x0 : Grow} : LeC (C6_ n x0) (Ae_ x0) := by
  unfold C6_ Ae_; infer_instance
def Do_ (n : Nat) (x1 : List Tip) (x2 : Int) (i138 : Int) (l140 : List Tip) (l144 : List Tip) (l148 : List Arc) (t151 : Bool) (k152 : Nat) : Option ((Int × (List Tip) × (List Tip) × (List Arc) × Bool × Nat) ⊕ (Grow)) :=
  iteO (decide (((k152 : Nat) : Int) < ((x1.length : Nat) : Int))) (bnd (Dj_ n (⟨(⟨i138, l140, l144, l148⟩ : Fst), t151⟩ : Grow) (⟨IntKind.i64.wrap (((nth x1 k152 Tip.zero).state) + x2), (nth x1 k152 Tip.zero).out⟩ : Tip)) (fun v17 => nxt (v17.f.states, v17.f.starts, v17.f.ends, v17.f.arcs, v17.over, (k152 + 1)))) (fin (some (⟨(⟨i138, l140, l144, l148⟩ : Fst), t151⟩ : Grow)))
instance rat_grow_starts_b1_le {n : Nat} {x1 : List Tip} {x2 : Int} {i138 : Int} {l140 : List Tip} {l144 : List Tip} {l148 : List Arc} {t151 : Bool} {k152 : Nat} : LeC (Do_ n x1 x2 i138 l140 l144 l148 t151 k152) (Af_ x1 x2 i138 l140 l144 l148 t151 k152) := by
  unfold Do_ Af_; infer_instance
def C8_ (n : Nat) (x0 : Grow) (x1 : List Tip) (x2 : Int) : Option (Grow) :=
  iterX n (fun q : Int × (List Tip) × (List Tip) × (List Arc) × Bool × Nat => Do_ n x1 x2 q.1 q.2.1 q.2.2.1 q.2.2.2.1 q.2.2.2.2.1 q.2.2.2.2.2) (x0.f.states, x0.f.starts, x0.f.ends, x0.f.arcs, x0.over, 0)
instance rat_grow_starts_le {n : Nat} {x0 : Grow} {x1 : List Tip} {x2 : Int} : LeC (C8_ n x0 x1 x2) (A3_ x0 x1 x2) := by
  unfold C8_ A3_; infer_instance
def Ee_ (n : Nat) (x1 : List Tip) (x2 : Int) (i138 : Int) (l140 : List Tip) (l144 : List Tip) (l148 : List Arc) (t151 : Bool) (k152 : Nat) : Option ((Int × (List Tip) × (List Tip) × (List Arc) × Bool × Nat) ⊕ (Grow)) :=
  iteO (decide (((k152 : Nat) : Int) < ((x1.length : Nat) : Int))) (bnd (El_ n (⟨(⟨i138, l140, l144, l148⟩ : Fst), t151⟩ : Grow) (⟨IntKind.i64.wrap (((nth x1 k152 Tip.zero).state) + x2), (nth x1 k152 Tip.zero).out⟩ : Tip)) (fun v17 => nxt (v17.f.states, v17.f.starts, v17.f.ends, v17.f.arcs, v17.over, (k152 + 1)))) (fin (some (⟨(⟨i138, l140, l144, l148⟩ : Fst), t151⟩ : Grow)))
instance rat_grow_ends_b1_le {n : Nat} {x1 : List Tip} {x2 : Int} {i138 : Int} {l140 : List Tip} {l144 : List Tip} {l148 : List Arc} {t151 : Bool} {k152 : Nat} : LeC (Ee_ n x1 x2 i138 l140 l144 l148 t151 k152) (An_ x1 x2 i138 l140 l144 l148 t151 k152) := by
  unfold Ee_ An_; infer_instance
def C5_ (n : Nat) (x0 : Grow) (x1 : List Tip) (x2 : Int) : Option (Grow) :=
  iterX n (fun q : Int × (List Tip) × (List Tip) × (List Arc) × Bool × Nat => Ee_ n x1 x2 q.1 q.2.1 q.2.2.1 q.2.2.2.1 q.2.2.2.2.1 q.2.2.2.2.2) (x0.f.states, x0.f.starts, x0.f.ends, x0.f.arcs, x0.over, 0)
instance rat_grow_ends_le {n : Nat} {x0 : Grow} {x1 : List Tip} {x2 : Int} : LeC (C5_ n x0 x1 x2) (A8_ x0 x1 x2) := by
  unfold C5_ A8_; infer_instance
def Ec_ (n : Nat) (x1 : List Arc) (x2 : Int) (i138 : Int) (l140 : List Tip) (l144 : List Tip) (l148 : List Arc) (t151 : Bool) (k152 : Nat) : Option ((Int × (List Tip) × (List Tip) × (List Arc) × Bool × Nat) ⊕ (Grow)) :=
  iteO (decide (((k152 : Nat) : Int) < ((x1.length : Nat) : Int))) (bnd (Ek_ n (⟨(⟨i138, l140, l144, l148⟩ : Fst), t151⟩ : Grow) (⟨IntKind.i64.wrap (((nth x1 k152 Arc.zero).frm) + x2), IntKind.i64.wrap (((nth x1 k152 Arc.zero).to) + x2), (nth x1 k152 Arc.zero).set, (nth x1 k152 Arc.zero).out, (nth x1 k152 Arc.zero).copy⟩ : Arc)) (fun v25 => nxt (v25.f.states, v25.f.starts, v25.f.ends, v25.f.arcs, v25.over, (k152 + 1)))) (fin (some (⟨(⟨i138, l140, l144, l148⟩ : Fst), t151⟩ : Grow)))
instance rat_grow_arcs_b1_le {n : Nat} {x1 : List Arc} {x2 : Int} {i138 : Int} {l140 : List Tip} {l144 : List Tip} {l148 : List Arc} {t151 : Bool} {k152 : Nat} : LeC (Ec_ n x1 x2 i138 l140 l144 l148 t151 k152) (Ap_ x1 x2 i138 l140 l144 l148 t151 k152) := by
  unfold Ec_ Ap_; infer_instance
def C0_ (n : Nat) (x0 : Grow) (x1 : List Arc) (x2 : Int) : Option (Grow) :=
  iterX n (fun q : Int × (List Tip) × (List Tip) × (List Arc) × Bool × Nat => Ec_ n x1 x2 q.1 q.2.1 q.2.2.1 q.2.2.2.1 q.2.2.2.2.1 q.2.2.2.2.2) (x0.f.states, x0.f.starts, x0.f.ends, x0.f.arcs, x0.over, 0)
instance rat_grow_arcs_le {n : Nat} {x0 : Grow} {x1 : List Arc} {x2 : Int} : LeC (C0_ n x0 x1 x2) (A0_ x0 x1 x2) := by
  unfold C0_ A0_; infer_instance
def Dl_ (n : Nat) (x4 : List Arc) (x2 : List UInt8) (x3 : List UInt8) (x1 : Int) (x5 : Int) (i138 : Int) (l140 : List Tip) (l144 : List Tip) (l148 : List Arc) (t151 : Bool) (k152 : Nat) : Option ((Int × (List Tip) × (List Tip) × (List Arc) × Bool × Nat) ⊕ (Grow)) :=
  iteO (decide (((k152 : Nat) : Int) < ((x4.length : Nat) : Int))) (grd (x2.length + x3.length ≤ 9223372036854775807) (grd ((x2 ++ x3).length + ((nth x4 k152 Arc.zero).out).length ≤ 9223372036854775807) (bnd (Ek_ n (⟨(⟨i138, l140, l144, l148⟩ : Fst), t151⟩ : Grow) (⟨x1, IntKind.i64.wrap (((nth x4 k152 Arc.zero).to) + x5), (nth x4 k152 Arc.zero).set, ((x2 ++ x3) ++ (nth x4 k152 Arc.zero).out), (nth x4 k152 Arc.zero).copy⟩ : Arc)) (fun v26 => iteO v26.over (fin (some (⟨(⟨v26.f.states, v26.f.starts, v26.f.ends, v26.f.arcs⟩ : Fst), v26.over⟩ : Grow))) (nxt (v26.f.states, v26.f.starts, v26.f.ends, v26.f.arcs, v26.over, (k152 + 1))))))) (fin (some (⟨(⟨i138, l140, l144, l148⟩ : Fst), t151⟩ : Grow)))
instance rat_grow_bridge_b1_le {n : Nat} {x4 : List Arc} {x2 : List UInt8} {x3 : List UInt8} {x1 : Int} {x5 : Int} {i138 : Int} {l140 : List Tip} {l144 : List Tip} {l148 : List Arc} {t151 : Bool} {k152 : Nat} : LeC (Dl_ n x4 x2 x3 x1 x5 i138 l140 l144 l148 t151 k152) (Ad_ x4 x2 x3 x1 x5 i138 l140 l144 l148 t151 k152) := by
  unfold Dl_ Ad_; infer_instance
def Da_ (n : Nat) (x0 : Grow) (x1 : Int) (x2 : List UInt8) (x3 : List UInt8) (x4 : List Arc) (x5 : Int) : Option (Grow) :=
  grd (x2.length ≤ 281474976710656) (grd (x3.length ≤ 281474976710656) (iterX n (fun q : Int × (List Tip) × (List Tip) × (List Arc) × Bool × Nat => Dl_ n x4 x2 x3 x1 x5 q.1 q.2.1 q.2.2.1 q.2.2.2.1 q.2.2.2.2.1 q.2.2.2.2.2) (x0.f.states, x0.f.starts, x0.f.ends, x0.f.arcs, x0.over, 0)))
instance rat_grow_bridge_le {n : Nat} {x0 : Grow} {x1 : Int} {x2 : List UInt8} {x3 : List UInt8} {x4 : List Arc} {x5 : Int} : LeC (Da_ n x0 x1 x2 x3 x4 x5) (Aw_ x0 x1 x2 x3 x4 x5) := by
  unfold Da_ Aw_; infer_instance
def Hb_ (n : Nat) (x0 : Fst) (x1 : Fst) : Option (Bool) :=
  bnd (Er_ n x0) (fun v5 => iteO (decide (v5 = 0)) (bnd (Er_ n x1) (fun v9 => some (decide (v9 = 0)))) (some false))
instance rat_both_le {n : Nat} {x0 : Fst} {x1 : Fst} : LeC (Hb_ n x0 x1) (Ef_ x0 x1) := by
  unfold Hb_ Ef_; infer_instance
def Ev_ (n : Nat) (l118 : List (List Arc)) (x0 : Fst) (k122 : Nat) : Option (((List (List Arc)) × Nat) ⊕ ((List (List Arc)))) :=
  nxt ((l118.set (((nth x0.arcs k122 Arc.zero).frm).toNat) ((nth l118 (((nth x0.arcs k122 Arc.zero).frm).toNat) ([] : List Arc)) ++ [(nth x0.arcs k122 Arc.zero)])), (k122 + 1))
instance rat_leaving_j1_le {n : Nat} {l118 : List (List Arc)} {x0 : Fst} {k122 : Nat} : LeC (Ev_ n l118 x0 k122) (De_ l118 x0 k122) := by
  unfold Ev_ De_; infer_instance
def Ew_ (n : Nat) (x0 : Fst) (l118 : List (List Arc)) (k122 : Nat) : Option (((List (List Arc)) × Nat) ⊕ ((List (List Arc)))) :=
  iteO (decide (((k122 : Nat) : Int) < ((x0.arcs.length : Nat) : Int))) (grd (0 ≤ ((nth x0.arcs k122 Arc.zero).frm) ∧ ((nth x0.arcs k122 Arc.zero).frm) < (l118.length : Int)) (grd (((nth l118 (((nth x0.arcs k122 Arc.zero).frm).toNat) ([] : List Arc)).length + [(nth x0.arcs k122 Arc.zero)].length) * 72 ≤ 140737488355328) (grd (0 ≤ ((nth x0.arcs k122 Arc.zero).frm) ∧ ((nth x0.arcs k122 Arc.zero).frm) < (l118.length : Int)) (Ev_ n l118 x0 k122)))) (fin (some l118))
instance rat_leaving_b1_le {n : Nat} {x0 : Fst} {l118 : List (List Arc)} {k122 : Nat} : LeC (Ew_ n x0 l118 k122) (Av_ x0 l118 k122) := by
  unfold Ew_ Av_; infer_instance
def Ge_ (n : Nat) (x0 : Fst) : Option ((List (List Arc))) :=
  grd (0 ≤ x0.states ∧ 24 * x0.states.toNat ≤ 281474976710656) (iterX n (fun q : (List (List Arc)) × Nat => Ew_ n x0 q.1 q.2) ((List.replicate x0.states.toNat ([] : List Arc)), 0))
instance rat_leaving_le {n : Nat} {x0 : Fst} : LeC (Ge_ n x0) (Cd_ x0) := by
  unfold Ge_ Cd_; infer_instance
def Gz_ (n : Nat) (x0 : Fst) (x1 : Fst) : Option (Fst × Int) :=
  bnd (Hb_ n x0 x1) (fun v7 => iteO (!v7) (some ((⟨0, ([] : List Tip), ([] : List Tip), ([] : List Arc)⟩ : Fst), 1)) (bnd (C8_ n (⟨(⟨IntKind.i64.wrap (x0.states + x1.states), ([] : List Tip), ([] : List Tip), ([] : List Arc)⟩ : Fst), false⟩ : Grow) x0.starts 0) (fun v30 => bnd (C8_ n (⟨(⟨v30.f.states, v30.f.starts, v30.f.ends, v30.f.arcs⟩ : Fst), v30.over⟩ : Grow) x1.starts x0.states) (fun v36 => bnd (C5_ n (⟨(⟨v36.f.states, v36.f.starts, v36.f.ends, v36.f.arcs⟩ : Fst), v36.over⟩ : Grow) x0.ends 0) (fun v40 => bnd (C5_ n (⟨(⟨v40.f.states, v40.f.starts, v40.f.ends, v40.f.arcs⟩ : Fst), v40.over⟩ : Grow) x1.ends x0.states) (fun v46 => bnd (C0_ n (⟨(⟨v46.f.states, v46.f.starts, v46.f.ends, v46.f.arcs⟩ : Fst), v46.over⟩ : Grow) x0.arcs 0) (fun v50 => bnd (C0_ n (⟨(⟨v50.f.states, v50.f.starts, v50.f.ends, v50.f.arcs⟩ : Fst), v50.over⟩ : Grow) x1.arcs x0.states) (fun v56 => bnd (C6_ n (⟨(⟨v56.f.states, v56.f.starts, v56.f.ends, v56.f.arcs⟩ : Fst), v56.over⟩ : Grow)) (fun v57 => some ((⟨v57.1.states, v57.1.starts, v57.1.ends, v57.1.arcs⟩ : Fst), v57.2))))))))))
instance rat_Alt_le {n : Nat} {x0 : Fst} {x1 : Fst} : LeC (Gz_ n x0 x1) (Dc_ x0 x1) := by
  unfold Gz_ Dc_; infer_instance
def Eu_ (n : Nat) (k111 : Nat) : Option ((Nat) ⊕ ((Nat) ⊕ (Bool))) :=
  nxt (k111 + 1)
instance rat_free_j1_le {n : Nat} {k111 : Nat} : LeC (Eu_ n k111) (Dz_ k111) := by
  unfold Eu_ Dz_; infer_instance
def F5_ (n : Nat) (x0 : Fst) (k105 : Nat) (k111 : Nat) : Option ((Nat) ⊕ ((Nat) ⊕ (Bool))) :=
  iteO (decide (((k111 : Nat) : Int) < ((x0.ends.length : Nat) : Int))) (iteO (decide (((nth x0.starts k105 Tip.zero).state) = ((nth x0.ends k111 Tip.zero).state))) (iteO (decide ((nth x0.starts k105 Tip.zero).out ≠ ([] : List UInt8))) (fin (fin (some true))) (iteO (decide ((nth x0.ends k111 Tip.zero).out ≠ ([] : List UInt8))) (fin (fin (some true))) (Eu_ n k111))) (Eu_ n k111)) (fin (nxt (k105 + 1)))
instance rat_free_b2_le {n : Nat} {x0 : Fst} {k105 : Nat} {k111 : Nat} : LeC (F5_ n x0 k105 k111) (Dx_ x0 k105 k111) := by
  unfold F5_ Dx_; infer_instance
def Gd_ (n : Nat) (x0 : Fst) (k105 : Nat) : Option ((Nat) ⊕ (Bool)) :=
  iteO (decide (((k105 : Nat) : Int) < ((x0.starts.length : Nat) : Int))) (iterX n (fun q : Nat => F5_ n x0 k105 q) 0) (fin (some false))
instance rat_free_b1_le {n : Nat} {x0 : Fst} {k105 : Nat} : LeC (Gd_ n x0 k105) (D4_ x0 k105) := by
  unfold Gd_ D4_; infer_instance
def Hc_ (n : Nat) (x0 : Fst) : Option (Bool) :=
  iterX n (fun q : Nat => Gd_ n x0 q) 0
instance rat_free_le {n : Nat} {x0 : Fst} : LeC (Hc_ n x0) (Gn_ x0) := by
  unfold Hc_ Gn_; infer_instance
def F6_ (n : Nat) (x0 : Fst) (v47 : (List (List Arc))) (k237 : Nat) (i274 : Int) (l276 : List Tip) (l280 : List Tip) (l284 : List Arc) (t287 : Bool) (k288 : Nat) : Option ((Int × (List Tip) × (List Tip) × (List Arc) × Bool × Nat) ⊕ ((Int × (List Tip) × (List Tip) × (List Arc) × Bool × Nat) ⊕ (Fst × Int))) :=
  iteO (decide (((k288 : Nat) : Int) < ((x0.starts.length : Nat) : Int))) (grd (0 ≤ ((nth x0.starts k288 Tip.zero).state) ∧ ((nth x0.starts k288 Tip.zero).state) < (v47.length : Int)) (bnd (Da_ n (⟨(⟨i274, l276, l280, l284⟩ : Fst), t287⟩ : Grow) ((nth x0.ends k237 Tip.zero).state) ((nth x0.ends k237 Tip.zero).out) ((nth x0.starts k288 Tip.zero).out) (nth v47 (((nth x0.starts k288 Tip.zero).state).toNat) ([] : List Arc)) 0) (fun v101 => iteO v101.over (bnd (C6_ n (⟨(⟨v101.f.states, v101.f.starts, v101.f.ends, v101.f.arcs⟩ : Fst), v101.over⟩ : Grow)) (fun v120 => fin (fin (some ((⟨v120.1.states, v120.1.starts, v120.1.ends, v120.1.arcs⟩ : Fst), v120.2))))) (nxt (v101.f.states, v101.f.starts, v101.f.ends, v101.f.arcs, v101.over, (k288 + 1)))))) (fin (nxt (i274, l276, l280, l284, t287, (k237 + 1))))
instance rat_Star_b3_le {n : Nat} {x0 : Fst} {v47 : (List (List Arc))} {k237 : Nat} {i274 : Int} {l276 : List Tip} {l280 : List Tip} {l284 : List Arc} {t287 : Bool} {k288 : Nat} : LeC (F6_ n x0 v47 k237 i274 l276 l280 l284 t287 k288) (Dy_ x0 v47 k237 i274 l276 l280 l284 t287 k288) := by
  unfold F6_ Dy_; infer_instance
def Gg_ (n : Nat) (x0 : Fst) (v47 : (List (List Arc))) (i223 : Int) (l225 : List Tip) (l229 : List Tip) (l233 : List Arc) (t236 : Bool) (k237 : Nat) : Option ((Int × (List Tip) × (List Tip) × (List Arc) × Bool × Nat) ⊕ (Fst × Int)) :=
  iteO (decide (((k237 : Nat) : Int) < ((x0.ends.length : Nat) : Int))) (iterX n (fun q : Int × (List Tip) × (List Tip) × (List Arc) × Bool × Nat => F6_ n x0 v47 k237 q.1 q.2.1 q.2.2.1 q.2.2.2.1 q.2.2.2.2.1 q.2.2.2.2.2) (i223, l225, l229, l233, t236, 0)) (fin (bnd (C6_ n (⟨(⟨i223, l225, l229, l233⟩ : Fst), t236⟩ : Grow)) (fun v121 => some ((⟨v121.1.states, v121.1.starts, v121.1.ends, v121.1.arcs⟩ : Fst), v121.2))))
instance rat_Star_b2_le {n : Nat} {x0 : Fst} {v47 : (List (List Arc))} {i223 : Int} {l225 : List Tip} {l229 : List Tip} {l233 : List Arc} {t236 : Bool} {k237 : Nat} : LeC (Gg_ n x0 v47 i223 l225 l229 l233 t236 k237) (Dv_ x0 v47 i223 l225 l229 l233 t236 k237) := by
  unfold Gg_ Dv_; infer_instance
def F9_ (n : Nat) (x0 : Fst) (v47 : (List (List Arc))) (i161 : Int) (l163 : List Tip) (l167 : List Tip) (l171 : List Arc) (t174 : Bool) (k175 : Nat) : Option ((Int × (List Tip) × (List Tip) × (List Arc) × Bool × Nat) ⊕ (Fst × Int)) :=
  iteO (decide (((k175 : Nat) : Int) < ((x0.starts.length : Nat) : Int))) (grd (0 ≤ ((nth x0.starts k175 Tip.zero).state) ∧ ((nth x0.starts k175 Tip.zero).state) < (v47.length : Int)) (bnd (Da_ n (⟨(⟨i161, l163, l167, l171⟩ : Fst), t174⟩ : Grow) x0.states ([] : List UInt8) ((nth x0.starts k175 Tip.zero).out) (nth v47 (((nth x0.starts k175 Tip.zero).state).toNat) ([] : List Arc)) 0) (fun v68 => nxt (v68.f.states, v68.f.starts, v68.f.ends, v68.f.arcs, v68.over, (k175 + 1))))) (fin (iterX n (fun q : Int × (List Tip) × (List Tip) × (List Arc) × Bool × Nat => Gg_ n x0 v47 q.1 q.2.1 q.2.2.1 q.2.2.2.1 q.2.2.2.2.1 q.2.2.2.2.2) (i161, l163, l167, l171, t174, 0)))
instance rat_Star_b1_le {n : Nat} {x0 : Fst} {v47 : (List (List Arc))} {i161 : Int} {l163 : List Tip} {l167 : List Tip} {l171 : List Arc} {t174 : Bool} {k175 : Nat} : LeC (F9_ n x0 v47 i161 l163 l167 l171 t174 k175) (Ds_ x0 v47 i161 l163 l167 l171 t174 k175) := by
  unfold F9_ Ds_; infer_instance
def Gm_ (n : Nat) (x0 : Fst) : Option (Fst × Int) :=
  bnd (Er_ n x0) (fun v5 => iteO (decide (v5 ≠ 0)) (some ((⟨0, ([] : List Tip), ([] : List Tip), ([] : List Arc)⟩ : Fst), 1)) (bnd (Hc_ n x0) (fun v11 => iteO v11 (some ((⟨0, ([] : List Tip), ([] : List Tip), ([] : List Arc)⟩ : Fst), 11)) (bnd (Dj_ n (⟨(⟨IntKind.i64.wrap (x0.states + 1), ([] : List Tip), ([] : List Tip), ([] : List Arc)⟩ : Fst), false⟩ : Grow) (⟨x0.states, ([] : List UInt8)⟩ : Tip)) (fun v32 => bnd (El_ n (⟨(⟨v32.f.states, v32.f.starts, v32.f.ends, v32.f.arcs⟩ : Fst), v32.over⟩ : Grow) (⟨x0.states, ([] : List UInt8)⟩ : Tip)) (fun v37 => bnd (C5_ n (⟨(⟨v37.f.states, v37.f.starts, v37.f.ends, v37.f.arcs⟩ : Fst), v37.over⟩ : Grow) x0.ends 0) (fun v41 => bnd (C0_ n (⟨(⟨v41.f.states, v41.f.starts, v41.f.ends, v41.f.arcs⟩ : Fst), v41.over⟩ : Grow) x0.arcs 0) (fun v45 => bnd (Ge_ n x0) (fun v47 => iterX n (fun q : Int × (List Tip) × (List Tip) × (List Arc) × Bool × Nat => F9_ n x0 v47 q.1 q.2.1 q.2.2.1 q.2.2.2.1 q.2.2.2.2.1 q.2.2.2.2.2) (v45.f.states, v45.f.starts, v45.f.ends, v45.f.arcs, v45.over, 0))))))))))
instance rat_Star_le {n : Nat} {x0 : Fst} : LeC (Gm_ n x0) (Fp_ x0) := by
  unfold Gm_ Fp_; infer_instance
end Go.Proofs.YtcaaiphgikpgjaaGreatDoor
end

section
namespace Go.Proofs.YtcaaiphgikpgjaaGreatDoor
open Go Go.E
def cls1 (n : Nat) : List Int := List.replicate n 0 ++ 1 :: List.replicate (255 - n) 0
def dOne (n : Nat) : Dfa := ⟨cls1 n, [[1, 2], [1, 1], [1, 1]], [false, false, true]⟩
theorem one_a : Hj_ 300 (setN (BSet.ofL [97])) = some (dOne 97, 0) := by kernel_rfl
theorem one_b : Hj_ 300 (setN (BSet.ofL [98])) = some (dOne 98, 0) := by kernel_rfl
theorem one16_a : A7_ 97 = some (dOne 97) := by
  unfold A7_
  rw [grd_mk (by decide), show Gv_ (setN (BSet.ofL [97])) = some (dOne 97, 0) from LeC.le _ one_a, bnd_mk]
theorem one16_b : A7_ 98 = some (dOne 98) := by
  unfold A7_
  rw [grd_mk (by decide), show Gv_ (setN (BSet.ofL [98])) = some (dOne 98, 0) from LeC.le _ one_b, bnd_mk]
theorem right_a : rightD (dOne 97) = true := by kernel_rfl
theorem right_b : rightD (dOne 98) = true := by kernel_rfl
def altF : Fst × Int := (Gz_ 300 (mkF (dOne 97) [120] false) (mkF (dOne 98) [] true)).getD (⟨0, [], [], []⟩, 9)
theorem altE : Gz_ 300 (mkF (dOne 97) [120] false) (mkF (dOne 98) [] true) = some altF := by kernel_rfl
theorem alt2 : altF.2 = 0 := by kernel_rfl
def astF : Fst × Int := (Gm_ 300 altF.1).getD (⟨0, [], [], []⟩, 9)
theorem astE : Gm_ 300 altF.1 = some astF := by kernel_rfl
theorem star2 : astF.2 = 0 := by kernel_rfl
theorem star_b : fstB astF.1 = true := by kernel_rfl
theorem star_f : fitsB astF.1 [97, 98, 97] = true := by kernel_rfl
theorem star_end : endT astF.1 (pairsL astF.1 [97, 98, 97]) = [[120, 98, 120]] := by kernel_rfl
theorem star_outs : outsL astF.1 [97, 98, 97] = [[120, 98, 120]] := by
  rw [outsL, star_end]
  exact I8_ cmpB_good (List.pairwise_singleton ..)
theorem awake16 : Aa_ = some true := by
  unfold Aa_
  rw [one16_a, bnd_mk, cross_eq (by decide) _ (by decide), if_pos right_a, if_neg (by decide), bnd_mk, one16_b, bnd_mk, same16_eq (by decide), if_pos right_b, bnd_mk]
  simp only []
  rw [show Dc_ (mkF (dOne 97) [120] false) (mkF (dOne 98) [] true) = some altF from LeC.le _ altE, bnd_mk, show Fp_ altF.1 = some astF from LeC.le _ astE, bnd_mk, outs_eq _ _ (by decide), if_pos star_b, if_pos (by decide), if_pos star_f, star_outs, bnd_mk, alt2, star2]
  simp only []
  rw [iteO_dt trivial, iteO_dt trivial, iteO_dt trivial, iteO_dt trivial, iteO_dt trivial, texts_refl, bnd_mk]
end Go.Proofs.YtcaaiphgikpgjaaGreatDoor
end

section
namespace Go.Proofs.YtcaaiphgikpgjaaGreatDoor
open Go Go.E Go.E.OpVal Go.E.OpOk Go.Proofs.Tryz
private theorem pf46 : Go.E.plainF Tryz.prog 46 = true := by kernel_rfl
noncomputable def Dn_ (x2 : List UInt8) (x0 : Dfa) (i110 : Int) (k111 : Nat) : Option ((Int × Nat) ⊕ (Int × Int)) :=
 iteO (decide (((k111 : Nat) : Int) < ((x2.length : Nat) : Int))) (grd (0 ≤ i110 ∧ i110 < (x0.next.length : Int)) (grd ((nth x2 k111 (0 : UInt8)).toNat < x0.cls.length) (grd (0 ≤ (nth x0.cls ((nth x2 k111 (0 : UInt8)).toNat) (0 : Int)) ∧ (nth x0.cls ((nth x2 k111 (0 : UInt8)).toNat) (0 : Int)) < ((nth x0.next i110.toNat ([] : List Int)).length : Int)) (nxt ((nth (nth x0.next i110.toNat ([] : List Int)) ((nth x0.cls ((nth x2 k111 (0 : UInt8)).toNat) (0 : Int)).toNat) (0 : Int)), (k111 + 1)))))) (fin (some (i110, 0)))
noncomputable def Hx_ (x0 : Dfa) (x1 : Int) (x2 : List UInt8) : Option (Int × Int) :=
 grd (x2.length ≤ 281474976710656) (bnd (C1_ x0) (fun v5 => iteO (decide (v5 ≠ 0)) (some (0, 1)) (iteO (decide (x1 < 0)) (some (0, 1)) (iteO (decide (((x0.next.length : Nat) : Int) ≤ x1)) (some (0, 1)) (iter (fun q : Int × Nat => Dn_ x2 x0 q.1 q.2) (x1, 0))))))
theorem Io_ {σ : Store} {x0 : Dfa} {a0_0 : Option Addr} {c0_0 : Nat} {a0_1 : Option Addr} {c0_1 : Nat} {a0_2 : Option Addr} {c0_2 : Nat} {x1 : Int} {x2 : List UInt8} (f0_0 : RS σ 1 Go.E.encI (.slice a0_0 x0.cls.length c0_0) x0.cls) (f0_1 : RZ σ (pkSl 1 Go.E.encI Go.E.encI_len) (.slice a0_1 x0.next.length c0_1) x0.next) (f0_2 : RS σ 1 encB (.slice a0_2 x0.fin.length c0_2) x0.fin) {r : Int × Int} (hh : Hx_ x0 x1 x2 = some r) :
  Con Tryz.prog 46 #[.agg #[.slice a0_0 x0.cls.length c0_0, .slice a0_1 x0.next.length c0_1, .slice a0_2 x0.fin.length c0_2], .int .i64 x1, .string (bs x2)] σ [] (PureP (.tuple #[.int .i64 r.1, .int .i64 r.2]) σ) := by
 dsimp only [Hx_] at hh
 have f0_0b := f0_0.rv.big
 have f0_1b := f0_1.big
 have f0_2b := f0_2.rv.big
 refine Con.mk (n := 44) Tryz.func46 z z z (fun w0 => ?_)
 have x2b := grd_c hh
 replace hh := grd_t hh
 refine TC.a (TL.op z (boxA z z z z (fun b101 => ?_)))
 refine TL.i z z (TL.i z z (TL.en (TC.seq (TC.a (TL.w z (loadAll z ag30 sz30 z (i := 0) z z) ?_)))))
 obtain ⟨v5, u5, hh⟩ := bnd_e hh
 refine TL.op z (callP (Dr_ (x0 := x0) f0_0 f0_1 f0_2 u5) z z pf25 z z z ?_)
 refine TL.w z (OpVal.neq z z z) (TL.j z z (TL.split 12 z (fun h103 => ?_) (fun h103 => ?_)))
 ·replace hh := iteO_t h103 hh
  replace h103 := of_decide_eq_true h103
  refine TL.f z (TL.f z (TL.w z (pickTB z z z) (TL.j z z (TL.f z (TL.f z (TL.f z (TL.f z (TL.f z (TL.w z (pickTB z z z) (TL.en (TC.t z (TC.a (TL.i z z (TL.i z z (TL.en (TC.rt 0 (S.r ?_)))))))))))))))))
  obtain rfl := so hh
  exact rq [6, 7] ⟨z, z, z⟩
 ·replace hh := iteO_f h103 hh
  replace h103 := of_decide_eq_false h103
  refine TL.g z (moveI (.inl z) z) (TL.g z (OpVal.lss z z z) (TL.w z (pickFB z z z) (TL.j z z (TL.split 16 z (fun h104 => ?_) (fun h104 => ?_)))))
  ·replace hh := iteO_t h104 hh
   replace h104 := of_decide_eq_true h104
   refine TL.f z (TL.f z (TL.f z (TL.f z (TL.f z (TL.w z (pickTB z z z) (TL.en (TC.t z (TC.a (TL.i z z (TL.i z z (TL.en (TC.rt 0 (S.r ?_)))))))))))))
   obtain rfl := so hh
   exact rq [6, 7] ⟨z, z, z⟩
  ·replace hh := iteO_f h104 hh
   replace h104 := of_decide_eq_false h104
   refine TL.g z (moveI (.inl z) z) (TL.g z (fieldLoc z fo30_1 z) (TL.g z (loadLoc z ag27 z (i := 0) z z) (TL.g z (lenC z underlying27 z) (TL.g z (OpVal.geq z z z) (TL.w z (pickFB z z z) (TL.en (TC.cD z hh (fun h105 hh => ?_) (fun h105 hh => ?_))))))))
   ·refine TC.a (TL.i z z (TL.i z z (TL.en (TC.rt 0 (S.r ?_)))))
    obtain rfl := so hh
    exact rq [6, 7] ⟨z, z, z⟩
   ·refine TC.skip (S.n (TC.seq (TC.a (TL.w z (moveStr (.inl z) z) (TL.w z (lenBs z underlying9 z) (TL.i z z (TL.en (TC.block (TC.loopG (α := (Int × Nat) × (Unit)) (rgs [(1, 1), (8, 1), (25, 18)]) (fun g => [(1, .int .i64 g.1.1), (25, .int .i64 ((g.1.2 : Nat) : Int))]) (fun g => [Res.cells b101 #[.slice a0_0 x0.cls.length c0_0, .slice a0_1 x0.next.length c0_1, .slice a0_2 x0.fin.length c0_2] 30]) (fun g => σ) (fun g => iter (fun q : Int × Nat => Dn_ x2 x0 q.1 q.2) g.1 = some r) (fun g => rounds (fun q : Int × Nat => Dn_ x2 x0 q.1 q.2) g.1) ((x1, 0), ()) (Sub.pre 1 z) z (by repeat (first | exact trivial | refine ⟨z, ?_⟩)) hh (fun g1 j1 hg1 => ?_))))))))))
    obtain ⟨⟨i110, k111⟩, _⟩ := g1
    have hh := hg1; clear hg1
    try dsimp only
    obtain ⟨z1, hh, hR1⟩ := iter_e hh
    dsimp only [Dn_] at hh
    refine TC.a (TL.w z (OpVal.lss z z z) (TL.en (TC.seq (TC.cD z hh (fun h112 hh => ?_) (fun h112 hh => ?_)))))
    ·refine TC.skip (S.n (TC.seq (TC.block (TC.a (TL.i z z (TL.i z z (TL.en ?_)))))))
     have u29 := grd_c hh
     replace hh := grd_t hh
     have u36 := grd_c hh
     replace hh := grd_t hh
     have u38 := grd_c hh
     replace hh := grd_t hh
     refine TC.draw [] (by kernel_rfl) (TA.a 0 z (fieldLoc z fo30_1 z) z (TA.b 1 z (loadLoc z ag27 z (i := 0) z z) z (TA.a 2 z (moveI (.inl z) z) z (TA.b 3 z (OpVal.index z underlying27 sz26 z z f0_1.isSl u29.1 u29.2) z ?_))))
     obtain ⟨p114, hk114, hg114⟩ := RZ.seg f0_1 i110.toNat (by omega)
     replace hk114 : RS _ 1 Go.E.encI (.slice p114.1 (nth x0.next i110.toNat ([] : List Int)).length p114.2) (nth x0.next i110.toNat ([] : List Int)) := hk114
     have hk114b := hk114.rv.big
     refine TA.b 4 z (OpVal.of (loadSeg0 z ag26 z hg114 z) (v' := .slice p114.1 ((nth x0.next i110.toNat ([] : List Int)).length) p114.2) z) z (TA.a 5 z (fieldLoc z fo30_0 z) z (TA.b 6 z (loadLoc z ag26 z (i := 0) z z) z (TA.a 7 z (moveStr (.inl z) z) z (TA.a 8 z (moveI (.inl z) z) z (TA.a 9 z (indexBs z underlying9 z z (by omega)) z (TA.b 10 z (indexN z underlying26 sz3 z z f0_0.rv.sl (by omega)) z (TA.b 11 z (loadS1 (0 : Int) z ag3 z f0_0 (by omega) z) z (TA.b 12 z (OpVal.index z underlying26 sz3 z z hk114.rv.sl u38.1 u38.2) z (TA.b 13 z (loadS1 (0 : Int) z ag3 z hk114 (by omega) z) z (TA.a 14 z (moveI (.inr z) z) z (TA.dn (B.n (S.n (TC.region (TL.w z (OpVal.succ z z z (by omega)) (TL.i z z (TL.en ?_)))))))))))))))))
     obtain ⟨hh, hlt115⟩ := nxt_x hR1 hh
     exact lf (((nth (nth x0.next i110.toNat ([] : List Int)) ((nth x0.cls ((nth x2 k111 (0 : UInt8)).toNat) (0 : Int)).toNat) (0 : Int)), (k111 + 1)), ()) hlt115 hh (Sub.pre 1 z)
    ·refine TC.exit (S.x (S.x ?_))
     replace hh := fin_x hR1 hh
     refine TC.exitHere (S.n (TC.a (TL.i z z (TL.i z z (TL.i z z (TL.en (TC.rt 0 ?_)))))))
     obtain rfl := so hh
     exact rq [6, 7] ⟨z, z, z⟩
noncomputable def F4_ (x0 : Dfa) (x1 : List UInt8) : Option (Bool × Int) :=
 grd (x1.length ≤ 281474976710656) (bnd (Hx_ x0 0 x1) (fun v6 => iteO (decide (v6.2 ≠ 0)) (some (false, v6.2)) (grd (0 ≤ v6.1 ∧ v6.1 < (x0.fin.length : Int)) (some ((nth x0.fin v6.1.toNat false), 0)))))
theorem H8_ {σ : Store} {x0 : Dfa} {a0_0 : Option Addr} {c0_0 : Nat} {a0_1 : Option Addr} {c0_1 : Nat} {a0_2 : Option Addr} {c0_2 : Nat} {x1 : List UInt8} (f0_0 : RS σ 1 Go.E.encI (.slice a0_0 x0.cls.length c0_0) x0.cls) (f0_1 : RZ σ (pkSl 1 Go.E.encI Go.E.encI_len) (.slice a0_1 x0.next.length c0_1) x0.next) (f0_2 : RS σ 1 encB (.slice a0_2 x0.fin.length c0_2) x0.fin) {r : Bool × Int} (hh : F4_ x0 x1 = some r) :
  Con Tryz.prog 17 #[.agg #[.slice a0_0 x0.cls.length c0_0, .slice a0_1 x0.next.length c0_1, .slice a0_2 x0.fin.length c0_2], .string (bs x1)] σ [] (PureP (.tuple #[.bool r.1, .int .i64 r.2]) σ) := by
 dsimp only [F4_] at hh
 have f0_0b := f0_0.rv.big
 have f0_1b := f0_1.big
 have f0_2b := f0_2.rv.big
 refine Con.mk (n := 22) Tryz.func17 z z z (fun w0 => ?_)
 have x1b := grd_c hh
 replace hh := grd_t hh
 refine TC.a (TL.op z (boxA z z z z (fun b101 => ?_)))
 refine TL.j z z (TL.i z z (TL.en (TC.a (TL.w z (loadAll z ag30 sz30 z (i := 0) z z) (TL.w z (moveStr (.inl z) z) ?_)))))
 obtain ⟨v6, u6, hh⟩ := bnd_e hh
 refine TL.op z (callP (Io_ (x0 := x0) f0_0 f0_1 f0_2 u6) z z pf46 z z z ?_)
 refine TL.w z (moveT (.inl z) z) (TL.w z (OpVal.extract z z z) (TL.w z (OpVal.extract z z z) (TL.i z z (TL.i z z (TL.en (TC.seq (TC.a (TL.i z z (TL.w z (OpVal.neq z z z) (TL.en (TC.cD z hh (fun h103 hh => ?_) (fun h103 hh => ?_))))))))))))
 ·refine TC.a (TL.i z z (TL.j z z (TL.i z z (TL.en (TC.rt 0 (S.r ?_))))))
  obtain rfl := so hh
  exact rq [4, 5] ⟨z, z, z⟩
 ·refine TC.skip (S.n (TC.a (TL.w z (fieldLoc z fo30_2 z) (TL.w z (loadLoc z ag28 z (i := 0) z z) (TL.i z z ?_)))))
  have u20 := grd_c hh
  replace hh := grd_t hh
  refine TL.w z (OpVal.index z underlying28 sz4 z z f0_2.rv.sl u20.1 u20.2) (TL.w z (loadS1 false z ag4 z f0_2 (by omega) z) (TL.j z z (TL.i z z (TL.en (TC.rt 0 ?_)))))
  obtain rfl := so hh
  exact rq [4, 5] ⟨z, z, z⟩
end Go.Proofs.YtcaaiphgikpgjaaGreatDoor
end

section
namespace Go.Proofs.YtcaaiphgikpgjaaGreatDoor
open Go Go.E
theorem drop_nthT (l : List UInt8) {i : Nat} (hi : i < l.length) : l.drop i = nth l i 0 :: l.drop (i + 1) := by
  rw [List.drop_eq_getElem_cons hi]
  have := getD_some l hi (0 : UInt8)
  rw [List.getElem?_eq_getElem hi] at this
  rw [Option.some.inj this]
theorem tk_loop {d : Dfa} (h : rightD d = true) (l : List UInt8) : ∀ (m k : Nat) (q : Int), l.length - k = m → k ≤ l.length → okS d q → iter (fun q : Int × Nat => Dn_ l d q.1 q.2) (q, k) = some (runD d q (l.drop k), 0)
  | 0, k, q, hm, hk, hq => by
    have e : k = l.length := by omega
    subst e
    refine iter_done ?_
    simp only [Dn_]
    rw [iteO_df (by omega), List.drop_length]; rfl
  | m + 1, k, q, hm, hk, hq => by
    have hs := dlt_ok h hq (nth l k (0 : UInt8))
    rw [drop_nthT l (by omega), runD, List.foldl_cons]
    refine iter_next ?_ (tk_loop h l m (k + 1) (dlt d q (nth l k 0)) (by omega) (by omega) hs.nx)
    simp only [Dn_]
    rw [iteO_dt (by omega), grd_mk (show 0 ≤ q ∧ q < (d.next.length : Int) from hq), grd_mk hs.cl, grd_mk hs.c]
    rfl
theorem tk_eq (d : Dfa) (l : List UInt8) (hl : l.length ≤ 281474976710656) : F4_ d l = some (if rightD d = true then (nth d.fin (runD d 0 l).toNat false, 0) else (false, 1)) := by
  unfold F4_ Hx_
  rw [grd_mk hl, grd_mk hl, dcheck_eq, bnd_mk]
  by_cases h : rightD d = true
  · obtain ⟨m, hm1, hm2, hn1, hn2, hfl, _⟩ := right_parts h
    rw [if_pos h, if_pos h, iteO_df (by omega), iteO_df (by omega), iteO_df (by omega), tk_loop h l _ 0 0 rfl (Nat.zero_le _) (ok0 h), bnd_mk]
    have hq := runD_ok h l (ok0 h)
    rw [List.drop_zero]
    simp only []
    rw [iteO_df (by omega), grd_mk (by rw [hfl]; exact hq)]
  · rw [if_neg h, if_neg h]
    rfl
end Go.Proofs.YtcaaiphgikpgjaaGreatDoor
end

section
namespace Go.Proofs.YtcaaiphgikpgjaaGreatDoor
open Go Go.E Go.E.OpVal Go.E.OpOk Go.Proofs.Tryz
noncomputable def Bc_ (x0 : Dfa) : Option (Bool) :=
 iteO (decide (((x0.next.length : Nat) : Int) ≤ 40)) (some (decide (((x0.cls.length : Nat) : Int) ≤ 300))) (some false)
noncomputable def A2_ (x0 : Dfa) (k105 : Nat) : Option ((Nat) ⊕ (Bool)) :=
 iteO (decide (((k105 : Nat) : Int) < ((x0.next.length : Nat) : Int))) (iteO (decide (((x0.next.length : Nat) : Int) ≤ 40)) (iteO (decide (20 < (((nth x0.next k105 ([] : List Int)).length : Nat) : Int))) (fin (some false)) (nxt (k105 + 1))) (fin (Bc_ x0))) (fin (Bc_ x0))
noncomputable def Cm_ (x0 : Dfa) : Option (Bool) :=
 iter (fun q : Nat => A2_ x0 q) 0
theorem Hi_ {σ : Store} {x0 : Dfa} {a0_0 : Option Addr} {c0_0 : Nat} {a0_1 : Option Addr} {c0_1 : Nat} {a0_2 : Option Addr} {c0_2 : Nat} (f0_0 : RS σ 1 Go.E.encI (.slice a0_0 x0.cls.length c0_0) x0.cls) (f0_1 : RZ σ (pkSl 1 Go.E.encI Go.E.encI_len) (.slice a0_1 x0.next.length c0_1) x0.next) (f0_2 : RS σ 1 encB (.slice a0_2 x0.fin.length c0_2) x0.fin) {r : Bool} (hh : Cm_ x0 = some r) :
  Con Tryz.prog 6 #[.agg #[.slice a0_0 x0.cls.length c0_0, .slice a0_1 x0.next.length c0_1, .slice a0_2 x0.fin.length c0_2]] σ [] (PureP (.bool r) σ) := by
 dsimp only [Cm_] at hh
 have f0_0b := f0_0.rv.big
 have f0_1b := f0_1.big
 have f0_2b := f0_2.rv.big
 refine Con.mk (n := 34) Tryz.func6 z z z (fun w0 => ?_)
 refine TC.a (TL.op z (boxA z z z z (fun b101 => ?_)))
 refine TL.j z z (TL.en (TC.cutG (α := (Unit) × (Unit)) (rgs [(2, 22)]) (fun g => []) (fun g => [Res.cells b101 #[.slice a0_0 x0.cls.length c0_0, .slice a0_1 x0.next.length c0_1, .slice a0_2 x0.fin.length c0_2] 30]) (fun g => σ) (fun g => Bc_ x0 = some r) ?_ (fun g j hg => ?_)))
 ·skip
  refine TC.a (TL.i z z (TL.en (TC.block (TC.loopG (α := (Nat) × (Unit)) (rgs [(2, 22)]) (fun g => [(3, .int .i64 ((g.1 : Nat) : Int))]) (fun g => [Res.cells b101 #[.slice a0_0 x0.cls.length c0_0, .slice a0_1 x0.next.length c0_1, .slice a0_2 x0.fin.length c0_2] 30]) (fun g => σ) (fun g => iter (fun q : Nat => A2_ x0 q) g.1 = some r) (fun g => rounds (fun q : Nat => A2_ x0 q) g.1) (0, ()) (Sub.pre 1 z) z (by repeat (first | exact trivial | refine ⟨z, ?_⟩)) hh (fun g1 j1 hg1 => ?_)))))
  obtain ⟨k105, _⟩ := g1
  have hh := hg1; clear hg1
  try dsimp only
  obtain ⟨z1, hh, hR1⟩ := iter_e hh
  dsimp only [A2_] at hh
  refine TC.seq (TC.a (TL.i z z (TL.w z (fieldLoc z fo30_1 z) (TL.w z (loadLoc z ag27 z (i := 0) z z) (TL.w z (lenC z underlying27 z) (TL.w z (OpVal.lss z z z) (TL.j z z (TL.split 9 z (fun h106 => ?_) (fun h106 => ?_)))))))))
  ·replace hh := iteO_t h106 hh
   replace h106 := of_decide_eq_true h106
   refine TL.g z (fieldLoc z fo30_1 z) (TL.g z (loadLoc z ag27 z (i := 0) z z) (TL.g z (lenC z underlying27 z) (TL.g z (OpVal.leq z z z) (TL.w z (pickTB z z z) (TL.en (TC.cD z hh (fun h107 hh => ?_) (fun h107 hh => ?_)))))))
   ·refine TC.skip (S.n (TC.seq (TC.block (TC.a (TL.w z (fieldLoc z fo30_1 z) (TL.w z (loadLoc z ag27 z (i := 0) z z) (TL.i z z (TL.w z (indexN z underlying27 sz26 z z f0_1.isSl (by omega)) ?_))))))))
    obtain ⟨p108, hk108, hg108⟩ := RZ.seg f0_1 k105 (by omega)
    replace hk108 : RS _ 1 Go.E.encI (.slice p108.1 (nth x0.next k105 ([] : List Int)).length p108.2) (nth x0.next k105 ([] : List Int)) := hk108
    have hk108b := hk108.rv.big
    refine TL.w z (OpVal.of (loadSeg0 z ag26 z hg108 z) (v' := .slice p108.1 ((nth x0.next k105 ([] : List Int)).length) p108.2) z) (TL.w z (lenC z underlying26 z) (TL.w z (OpVal.gtr z z z) (TL.en (TC.cD z hh (fun h109 hh => ?_) (fun h109 hh => ?_)))))
    ·refine TC.a (TL.j z z (TL.en (TC.rt 0 (B.r (S.r (S.r ?_))))))
     replace hh := fin_x hR1 hh
     refine B.r (S.r ?_)
     obtain rfl := so hh
     exact rq [2] ⟨z, z, z⟩
    ·refine TC.skip (B.n (S.n (TC.region (TL.i z z (TL.w z (OpVal.succ z z z (by omega)) (TL.i z z (TL.en ?_)))))))
     obtain ⟨hh, hlt110⟩ := nxt_x hR1 hh
     exact lf ((k105 + 1), ()) hlt110 hh (Sub.pre 1 z)
   ·refine TC.exit (S.x (S.x ?_))
    replace hh := fin_x hR1 hh
    exact TC.exitHere (S.n (cf ((), ()) hh (Sub.pre 1 z)))
  ·replace hh := iteO_f h106 hh
   replace h106 := of_decide_eq_false h106
   refine TL.f z (TL.f z (TL.f z (TL.f z (TL.w z (pickFB z z z) (TL.en (TC.f z (TC.exit (S.x (S.x ?_)))))))))
   replace hh := fin_x hR1 hh
   exact TC.exitHere (S.n (cf ((), ()) hh (Sub.pre 1 z)))
 ·skip
  obtain ⟨_, _⟩ := g
  have hh := hg; clear hg
  try dsimp only
  dsimp only [Bc_] at hh
  refine TC.a (TL.w z (fieldLoc z fo30_1 z) (TL.w z (loadLoc z ag27 z (i := 0) z z) (TL.w z (lenC z underlying27 z) (TL.w z (OpVal.leq z z z) (TL.j z z (TL.split 28 z (fun h111 => ?_) (fun h111 => ?_)))))))
  ·replace hh := iteO_t h111 hh
   replace h111 := of_decide_eq_true h111
   refine TL.g z (fieldLoc z fo30_0 z) (TL.g z (loadLoc z ag26 z (i := 0) z z) (TL.g z (lenC z underlying26 z) (TL.g z (OpVal.leq z z z) (TL.w z (pickTB z z z) (TL.j z z (TL.en (TC.rt 0 ?_)))))))
   obtain rfl := so hh
   exact rq [2] ⟨z, z, z⟩
  ·replace hh := iteO_f h111 hh
   replace h111 := of_decide_eq_false h111
   refine TL.f z (TL.f z (TL.f z (TL.f z (TL.w z (pickFB z z z) (TL.j z z (TL.en (TC.rt 0 ?_)))))))
   obtain rfl := so hh
   exact rq [2] ⟨z, z, z⟩
end Go.Proofs.YtcaaiphgikpgjaaGreatDoor
end

section
namespace Go.Proofs.YtcaaiphgikpgjaaGreatDoor
open Go Go.E
theorem few11_ok (d : Dfa) : ∃ b, Cm_ d = some b ∧ (b = true → d.next.length ≤ 40) := by
  unfold Cm_
  obtain ⟨r, h1, h2⟩ := iter_up (step := fun q : Nat => A2_ d q) (fun (_ : Unit) k => k) d.next.length (fun _ _ => True) (fun r => r = true → d.next.length ≤ 40)
    (fun k s hk _ => by
      simp only [A2_, Bc_]
      rw [iteO_dt (by omega)]
      by_cases c : d.next.length ≤ 40
      · rw [iteO_dt (by omega)]
        by_cases c2 : 20 < (nth d.next k ([] : List Int)).length
        · rw [iteO_dt (by omega)]; right; exact ⟨_, rfl, fun _ => c⟩
        · rw [iteO_df (by omega)]; left; exact ⟨(), rfl, trivial⟩
      · rw [iteO_df (by omega), iteO_df (by omega)]; right; exact ⟨_, rfl, fun h => by cases h⟩)
    (fun s _ => by
      simp only [A2_, Bc_]
      rw [iteO_df (by omega)]
      by_cases c : d.next.length ≤ 40
      · rw [iteO_dt (by omega)]; exact ⟨_, rfl, fun _ => c⟩
      · rw [iteO_df (by omega)]; exact ⟨_, rfl, fun h => by cases h⟩) (s0 := ()) trivial
  exact ⟨r, h1, h2⟩
end Go.Proofs.YtcaaiphgikpgjaaGreatDoor
end

section
namespace Go.Proofs.YtcaaiphgikpgjaaGreatDoor
open Go Go.E Go.E.OpVal Go.E.OpOk Go.Proofs.Tryz
private theorem pf12 : Go.E.plainF Tryz.prog 12 = true := by kernel_rfl
private theorem pf13 : Go.E.plainF Tryz.prog 13 = true := by kernel_rfl
private theorem pf14 : Go.E.plainF Tryz.prog 14 = true := by kernel_rfl
private theorem pf15 : Go.E.plainF Tryz.prog 15 = true := by kernel_rfl
private theorem pf16 : Go.E.plainF Tryz.prog 16 = true := by kernel_rfl
private theorem pf17 : Go.E.plainF Tryz.prog 17 = true := by kernel_rfl
private theorem pf19 : Go.E.plainF Tryz.prog 19 = true := by kernel_rfl
private theorem pf6 : Go.E.plainF Tryz.prog 6 = true := by kernel_rfl
private theorem pf9 : Go.E.plainF Tryz.prog 9 = true := by kernel_rfl
noncomputable def Au_ (v187 : Bool × Int) (v118 : (List (List UInt8)) × Bool) (v126 : (List (List UInt8)) × Bool) (v134 : (List (List UInt8)) × Bool) (l134 : List (List UInt8)) (v142 : (List (List UInt8)) × Bool) (v150 : (List (List UInt8)) × Bool) (l169 : List (List UInt8)) : Option (Bool) :=
 bnd (Aa_) (fun v196 => iteO v196 (iteO (decide (v187.2 = 0)) (bnd (Bn_ ((([] : List (List UInt8)) ++ v118.1) ++ v126.1)) (fun v204 => bnd (Ax_ v134.1 v204) (fun v205 => iteO v205 (bnd (Bn_ l134) (fun v210 => bnd (Ax_ v142.1 v210) (fun v211 => iteO v211 (bnd (Ax_ v150.1 l169) (fun v216 => some v216)) (some false)))) (some false)))) (some false)) (some false))
noncomputable def Ac_ (x3 : List UInt8) (x0 : Fst) (x1 : Fst) (v28 : Fst × Int) (v37 : Fst × Int) (v46 : Fst × Int) (x2 : Dfa) (l134 : List (List UInt8)) (k137 : Nat) : Option (((List (List UInt8)) × Nat) ⊕ (Bool)) :=
 iteO (decide (((k137 : Nat) : Int) ≤ ((x3.length : Nat) : Int))) (grd (0 ≤ k137 ∧ k137 ≤ x3.length) (bnd (Am_ x0 (x3.take k137)) (fun v75 => grd (k137 ≤ x3.length ∧ x3.length ≤ x3.length) (bnd (Am_ x1 (x3.drop k137)) (fun v85 => iteO (!v75.2) (bnd (Aa_) (fun v105 => fin (some v105))) (iteO (!v85.2) (bnd (Aa_) (fun v105 => fin (some v105))) (iteO (decide (500 < (IntKind.i64.wrap (((v75.1.length : Nat) : Int) * ((v85.1.length : Nat) : Int))))) (bnd (Aa_) (fun v105 => fin (some v105))) (bnd (B5_ v75.1 v85.1) (fun v110 => grd ((l134.length + v110.length) * 16 ≤ 140737488355328) (nxt ((l134 ++ v110), (k137 + 1)))))))))))) (fin (bnd (Am_ x0 x3) (fun v118 => bnd (Am_ x1 x3) (fun v126 => bnd (Am_ v28.1 x3) (fun v134 => bnd (Am_ v37.1 x3) (fun v142 => bnd (Am_ v46.1 x3) (fun v150 => iteO (!v118.2) (bnd (Aa_) (fun v174 => some v174)) (iteO (!v126.2) (bnd (Aa_) (fun v174 => some v174)) (iteO (!v134.2) (bnd (Aa_) (fun v174 => some v174)) (iteO (!v142.2) (bnd (Aa_) (fun v174 => some v174)) (iteO (!v150.2) (bnd (Aa_) (fun v174 => some v174)) (grd ((([] : List (List UInt8)).length + v118.1.length) * 16 ≤ 140737488355328) (grd (((([] : List (List UInt8)) ++ v118.1).length + v126.1.length) * 16 ≤ 140737488355328) (bnd (F4_ x2 x3) (fun v187 => iteO (!v187.1) (Au_ v187 v118 v126 v134 l134 v142 v150 ([] : List (List UInt8))) (Au_ v187 v118 v126 v134 l134 v142 v150 v118.1))))))))))))))))
noncomputable def Ca_ (x0 : Fst) (x1 : Fst) (x2 : Dfa) (x3 : List UInt8) : Option (Bool) :=
 grd (x3.length ≤ 281474976710656) (bnd (Dk_ x0 x1) (fun v7 => iteO (!v7) (some true) (iteO (decide (3 < ((x3.length : Nat) : Int))) (some true) (bnd (Cm_ x2) (fun v16 => iteO (!v16) (some true) (iteO (decide (8 < ((x2.next.length : Nat) : Int))) (some true) (bnd (Dc_ x0 x1) (fun v28 => bnd (Fn_ x0 x1) (fun v37 => bnd (Di_ x0 x2) (fun v46 => iteO (decide (v28.2 ≠ 0)) (bnd (Aa_) (fun v63 => some v63)) (iteO (decide (v37.2 ≠ 0)) (bnd (Aa_) (fun v63 => some v63)) (iteO (decide (v46.2 ≠ 0)) (bnd (Aa_) (fun v63 => some v63)) (iter (fun q : (List (List UInt8)) × Nat => Ac_ x3 x0 x1 v28 v37 v46 x2 q.1 q.2) (([] : List (List UInt8)), 0))))))))))))))
theorem Gl_ {σ : Store} {x0 : Fst} {a0_0 : Option Addr} {c0_0 : Nat} {a0_1 : Option Addr} {c0_1 : Nat} {a0_2 : Option Addr} {c0_2 : Nat} {x1 : Fst} {a1_0 : Option Addr} {c1_0 : Nat} {a1_1 : Option Addr} {c1_1 : Nat} {a1_2 : Option Addr} {c1_2 : Nat} {x2 : Dfa} {a2_0 : Option Addr} {c2_0 : Nat} {a2_1 : Option Addr} {c2_1 : Nat} {a2_2 : Option Addr} {c2_2 : Nat} {x3 : List UInt8} (hgl : GT σ 1 encU8 deB) (f0_0 : RS σ 2 encTip (.slice a0_0 x0.starts.length c0_0) x0.starts) (f0_1 : RS σ 2 encTip (.slice a0_1 x0.ends.length c0_1) x0.ends) (f0_2 : RS σ 8 encArc (.slice a0_2 x0.arcs.length c0_2) x0.arcs) (f1_0 : RS σ 2 encTip (.slice a1_0 x1.starts.length c1_0) x1.starts) (f1_1 : RS σ 2 encTip (.slice a1_1 x1.ends.length c1_1) x1.ends) (f1_2 : RS σ 8 encArc (.slice a1_2 x1.arcs.length c1_2) x1.arcs) (f2_0 : RS σ 1 Go.E.encI (.slice a2_0 x2.cls.length c2_0) x2.cls) (f2_1 : RZ σ (pkSl 1 Go.E.encI Go.E.encI_len) (.slice a2_1 x2.next.length c2_1) x2.next) (f2_2 : RS σ 1 encB (.slice a2_2 x2.fin.length c2_2) x2.fin) {r : Bool} (hh : Ca_ x0 x1 x2 x3 = some r) :
  Con Tryz.prog 4 #[.agg #[.int .i64 x0.states, .slice a0_0 x0.starts.length c0_0, .slice a0_1 x0.ends.length c0_1, .slice a0_2 x0.arcs.length c0_2], .agg #[.int .i64 x1.states, .slice a1_0 x1.starts.length c1_0, .slice a1_1 x1.ends.length c1_1, .slice a1_2 x1.arcs.length c1_2], .agg #[.slice a2_0 x2.cls.length c2_0, .slice a2_1 x2.next.length c2_1, .slice a2_2 x2.fin.length c2_2], .string (bs x3)] σ [] (PureP (.bool r) σ) := by
 dsimp only [Ca_] at hh
 have f0_0b := f0_0.rv.big
 have f0_1b := f0_1.rv.big
 have f0_2b := f0_2.rv.big
 have f1_0b := f1_0.rv.big
 have f1_1b := f1_1.rv.big
 have f1_2b := f1_2.rv.big
 have f2_0b := f2_0.rv.big
 have f2_1b := f2_1.big
 have f2_2b := f2_2.rv.big
 refine Con.mk (n := 210) Tryz.func4 z z z (fun w0 => ?_)
 have x3b := grd_c hh
 replace hh := grd_t hh
 refine TC.a (TL.op z (boxA z z z z (fun b101 => ?_)))
 refine TL.op z (boxA z z z z (fun b103 => ?_))
 refine TL.op z (boxA z z z z (fun b105 => ?_))
 refine TL.j z z (TL.en (TC.seq (TC.a (TL.w z (loadAll z ag25 sz25 z (i := 2) z z) (TL.w z (loadAll z ag25 sz25 z (i := 1) z z) ?_)))))
 obtain ⟨v7, u7, hh⟩ := bnd_e hh
 refine TL.op z (callP (Hd_ (x0 := x0) (x1 := x1) f0_0 f0_1 f0_2 f1_0 f1_1 f1_2 u7) z z pf12 z z z ?_)
 refine TL.w z (OpVal.not z z) (TL.j z z (TL.split 38 z (fun h107 => ?_) (fun h107 => ?_)))
 ·replace hh := iteO_t h107 hh
  refine TL.f z (TL.f z (TL.f z (TL.w z (pickTB z z z) (TL.j z z (TL.f z (TL.f z (TL.f z (TL.w z (pickTB z z z) (TL.j z z (TL.f z (TL.f z (TL.f z (TL.f z (TL.w z (pickTB z z z) (TL.en (TC.t z (TC.a (TL.j z z (TL.en (TC.rt 0 (S.r ?_)))))))))))))))))))))
  obtain rfl := so hh
  exact rq [8] ⟨z, z, z⟩
 ·replace hh := iteO_f h107 hh
  refine TL.g z (moveStr (.inl z) z) (TL.g z (lenBs z underlying9 z) (TL.g z (OpVal.gtr z z z) (TL.w z (pickFB z z z) (TL.j z z (TL.split 43 z (fun h108 => ?_) (fun h108 => ?_))))))
  ·replace hh := iteO_t h108 hh
   replace h108 := of_decide_eq_true h108
   refine TL.f z (TL.f z (TL.f z (TL.w z (pickTB z z z) (TL.j z z (TL.f z (TL.f z (TL.f z (TL.f z (TL.w z (pickTB z z z) (TL.en (TC.t z (TC.a (TL.j z z (TL.en (TC.rt 0 (S.r ?_))))))))))))))))
   obtain rfl := so hh
   exact rq [8] ⟨z, z, z⟩
  ·replace hh := iteO_f h108 hh
   replace h108 := of_decide_eq_false h108
   refine TL.g z (loadAll z ag30 sz30 z (i := 0) z z) ?_
   obtain ⟨v16, u16, hh⟩ := bnd_e hh
   refine TL.gon z z z z z (callP (Hi_ (x0 := x2) f2_0 f2_1 f2_2 u16) z z pf6 z z z ?_)
   refine TL.g z (OpVal.not z z) (TL.w z (pickFB z z z) (TL.j z z (TL.split 48 z (fun h109 => ?_) (fun h109 => ?_))))
   ·replace hh := iteO_t h109 hh
    refine TL.f z (TL.f z (TL.f z (TL.f z (TL.w z (pickTB z z z) (TL.en (TC.t z (TC.a (TL.j z z (TL.en (TC.rt 0 (S.r ?_)))))))))))
    obtain rfl := so hh
    exact rq [8] ⟨z, z, z⟩
   ·replace hh := iteO_f h109 hh
    refine TL.g z (fieldLoc z fo30_1 z) (TL.g z (loadLoc z ag27 z (i := 0) z z) (TL.g z (lenC z underlying27 z) (TL.g z (OpVal.gtr z z z) (TL.w z (pickFB z z z) (TL.en (TC.cD z hh (fun h110 hh => ?_) (fun h110 hh => ?_)))))))
    ·refine TC.a (TL.j z z (TL.en (TC.rt 0 (S.r ?_))))
     obtain rfl := so hh
     exact rq [8] ⟨z, z, z⟩
    ·refine TC.skip (S.n (TC.a (TL.w z (loadAll z ag25 sz25 z (i := 2) z z) (TL.w z (loadAll z ag25 sz25 z (i := 1) z z) ?_))))
     obtain ⟨v28, u28, hh⟩ := bnd_e hh
     refine TL.op z (OpOk.call (Hy_ (x0 := x0) (x1 := x1) f0_0 f0_1 f0_2 f1_0 f1_1 f1_2 u28) z z pf10 z z z z ?_)
     rintro _ τ111 _ hle111 ⟨a111_1, c111_1, a111_2, c111_2, a111_3, c111_3, rfl, hr111_0, hr111_1, hr111_2, rfl⟩
     replace f0_0 := f0_0.mono hle111
     replace f0_1 := f0_1.mono hle111
     replace f0_2 := f0_2.mono hle111
     replace f1_0 := f1_0.mono hle111
     replace f1_1 := f1_1.mono hle111
     replace f1_2 := f1_2.mono hle111
     replace f2_0 := f2_0.mono hle111
     replace f2_1 := f2_1.mono hle111
     replace f2_2 := f2_2.mono hle111
     replace hgl := hgl.mono hle111
     have hr111_0b := hr111_0.rv.big
     have hr111_1b := hr111_1.rv.big
     have hr111_2b := hr111_2.rv.big
     refine TL.w z (moveT (.inl z) z) (TL.w z (OpVal.extract z z z) (TL.w z (OpVal.extract z z z) (TL.op z (OpOk.alloc z ze25 z z (fun b112 => ?_)))))
     refine TL.op z (storeAll z sz25 z z z z z z ?_)
     refine TL.i z z (TL.en (TC.a (TL.w z (loadAll z ag25 sz25 z (i := 3) z z) (TL.w z (loadAll z ag25 sz25 z (i := 2) z z) ?_))))
     obtain ⟨v37, u37, hh⟩ := bnd_e hh
     refine TL.op z (OpOk.call (Ip_ (x0 := x0) (x1 := x1) f0_0 f0_1 f0_2 f1_0 f1_1 f1_2 u37) z z pf13 z z z z ?_)
     rintro _ τ114 _ hle114 ⟨a114_1, c114_1, a114_2, c114_2, a114_3, c114_3, rfl, hr114_0, hr114_1, hr114_2, rfl⟩
     replace f0_0 := f0_0.mono hle114
     replace f0_1 := f0_1.mono hle114
     replace f0_2 := f0_2.mono hle114
     replace f1_0 := f1_0.mono hle114
     replace f1_1 := f1_1.mono hle114
     replace f1_2 := f1_2.mono hle114
     replace f2_0 := f2_0.mono hle114
     replace f2_1 := f2_1.mono hle114
     replace f2_2 := f2_2.mono hle114
     replace hgl := hgl.mono hle114
     replace hr111_0 := hr111_0.mono hle114
     replace hr111_1 := hr111_1.mono hle114
     replace hr111_2 := hr111_2.mono hle114
     have hr114_0b := hr114_0.rv.big
     have hr114_1b := hr114_1.rv.big
     have hr114_2b := hr114_2.rv.big
     refine TL.w z (moveT (.inl z) z) (TL.w z (OpVal.extract z z z) (TL.w z (OpVal.extract z z z) (TL.op z (OpOk.alloc z ze25 z z (fun b115 => ?_)))))
     refine TL.op z (storeAll z sz25 z z z z z z ?_)
     refine TL.i z z (TL.en (TC.a (TL.w z (loadAll z ag25 sz25 z (i := 4) z z) (TL.w z (loadAll z ag30 sz30 z (i := 2) z z) ?_))))
     obtain ⟨v46, u46, hh⟩ := bnd_e hh
     refine TL.op z (OpOk.call (H9_ (x0 := x0) (x1 := x2) f0_0 f0_1 f0_2 f2_0 f2_1 f2_2 u46) z z pf9 z z z z ?_)
     rintro _ τ117 _ hle117 ⟨a117_1, c117_1, a117_2, c117_2, a117_3, c117_3, rfl, hr117_0, hr117_1, hr117_2, rfl⟩
     replace f0_0 := f0_0.mono hle117
     replace f0_1 := f0_1.mono hle117
     replace f0_2 := f0_2.mono hle117
     replace f1_0 := f1_0.mono hle117
     replace f1_1 := f1_1.mono hle117
     replace f1_2 := f1_2.mono hle117
     replace f2_0 := f2_0.mono hle117
     replace f2_1 := f2_1.mono hle117
     replace f2_2 := f2_2.mono hle117
     replace hgl := hgl.mono hle117
     replace hr111_0 := hr111_0.mono hle117
     replace hr111_1 := hr111_1.mono hle117
     replace hr111_2 := hr111_2.mono hle117
     replace hr114_0 := hr114_0.mono hle117
     replace hr114_1 := hr114_1.mono hle117
     replace hr114_2 := hr114_2.mono hle117
     have hr117_0b := hr117_0.rv.big
     have hr117_1b := hr117_1.rv.big
     have hr117_2b := hr117_2.rv.big
     refine TL.w z (moveT (.inl z) z) (TL.w z (OpVal.extract z z z) (TL.w z (OpVal.extract z z z) (TL.op z (OpOk.alloc z ze25 z z (fun b118 => ?_)))))
     refine TL.op z (storeAll z sz25 z z z z z z ?_)
     refine TL.i z z (TL.en (TC.seq (TC.a (TL.i z z (TL.w z (OpVal.neq z z z) (TL.j z z (TL.split 74 z (fun h120 => ?_) (fun h120 => ?_))))))))
     ·replace hh := iteO_t h120 hh
      replace h120 := of_decide_eq_true h120
      refine TL.f z (TL.f z (TL.w z (pickTB z z z) (TL.j z z (TL.f z (TL.f z (TL.w z (pickTB z z z) (TL.en (TC.t z (TC.a ?_)))))))))
      obtain ⟨v63, u63, hh⟩ := bnd_e hh
      refine TL.op z (callP (Ab_ hgl u63) z z pf14 z z z ?_)
      refine TL.j z z (TL.en (TC.ofSub (Sub.pre 0 z) (TC.back (TC.ret (S.r ?_)))))
      obtain rfl := so hh
      exact rq [8] ⟨z, z, z⟩
     ·replace hh := iteO_f h120 hh
      replace h120 := of_decide_eq_false h120
      refine TL.g z (moveI (.inl z) z) (TL.g z (OpVal.neq z z z) (TL.w z (pickFB z z z) (TL.j z z (TL.split 78 z (fun h121 => ?_) (fun h121 => ?_)))))
      ·replace hh := iteO_t h121 hh
       replace h121 := of_decide_eq_true h121
       refine TL.f z (TL.f z (TL.w z (pickTB z z z) (TL.en (TC.t z (TC.a ?_)))))
       obtain ⟨v63, u63, hh⟩ := bnd_e hh
       refine TL.op z (callP (Ab_ hgl u63) z z pf14 z z z ?_)
       refine TL.j z z (TL.en (TC.ofSub (Sub.pre 0 z) (TC.back (TC.ret (S.r ?_)))))
       obtain rfl := so hh
       exact rq [8] ⟨z, z, z⟩
      ·replace hh := iteO_f h121 hh
       replace h121 := of_decide_eq_false h121
       refine TL.g z (moveI (.inl z) z) (TL.g z (OpVal.neq z z z) (TL.w z (pickFB z z z) (TL.en (TC.cD z hh (fun h122 hh => ?_) (fun h122 hh => ?_)))))
       ·refine TC.a ?_
        obtain ⟨v63, u63, hh⟩ := bnd_e hh
        refine TL.op z (callP (Ab_ hgl u63) z z pf14 z z z ?_)
        refine TL.j z z (TL.en (TC.ofSub (Sub.pre 0 z) (TC.back (TC.ret (S.r ?_)))))
        obtain rfl := so hh
        exact rq [8] ⟨z, z, z⟩
       ·refine TC.skip (S.n (TC.a (TL.s z z (TL.en (TC.seq (TC.a (TL.i z z (TL.en (TC.block (TC.nilS 9 1 Go.E.encS (TC.loopG (α := ((List (List UInt8)) × Nat) × ((Option Addr) × Nat × Store)) (rgs [(8, 1), (15, 6), (83, 42)]) (fun g => [(15, .slice g.2.1 g.1.1.length g.2.2.1), (16, .int .i64 ((g.1.2 : Nat) : Int))]) (fun g => [Res.cells b101 #[.int .i64 x0.states, .slice a0_0 x0.starts.length c0_0, .slice a0_1 x0.ends.length c0_1, .slice a0_2 x0.arcs.length c0_2] 25, Res.cells b103 #[.int .i64 x1.states, .slice a1_0 x1.starts.length c1_0, .slice a1_1 x1.ends.length c1_1, .slice a1_2 x1.arcs.length c1_2] 25, Res.cells b105 #[.slice a2_0 x2.cls.length c2_0, .slice a2_1 x2.next.length c2_1, .slice a2_2 x2.fin.length c2_2] 30, Res.cells b112 #[.int .i64 v28.1.states, .slice a111_1 v28.1.starts.length c111_1, .slice a111_2 v28.1.ends.length c111_2, .slice a111_3 v28.1.arcs.length c111_3] 25, Res.cells b115 #[.int .i64 v37.1.states, .slice a114_1 v37.1.starts.length c114_1, .slice a114_2 v37.1.ends.length c114_2, .slice a114_3 v37.1.arcs.length c114_3] 25, Res.cells b118 #[.int .i64 v46.1.states, .slice a117_1 v46.1.starts.length c117_1, .slice a117_2 v46.1.ends.length c117_2, .slice a117_3 v46.1.arcs.length c117_3] 25, Res.rowS 9 1 Go.E.encS (.slice g.2.1 g.1.1.length g.2.2.1) g.1.1]) (fun g => g.2.2.2) (fun g => iter (fun q : (List (List UInt8)) × Nat => Ac_ x3 x0 x1 v28 v37 v46 x2 q.1 q.2) g.1 = some r ∧ Store.le τ117 g.2.2.2) (fun g => rounds (fun q : (List (List UInt8)) × Nat => Ac_ x3 x0 x1 v28 v37 v46 x2 q.1 q.2) g.1) ((([] : List (List UInt8)), 0), (none, 0, τ117)) (Sub.f [1, 2, 3, 4, 5, 6] 7) z (by repeat (first | exact trivial | refine ⟨z, ?_⟩)) ⟨hh, (Store.le.refl _)⟩ (fun g1 j1 hg1 => ?_))))))))))))
        obtain ⟨⟨l134, k137⟩, ⟨a135, c136, τ139⟩⟩ := g1
        obtain ⟨hh, hle140⟩ := hg1
        dsimp only at hle140
        replace f0_0 := f0_0.mono hle140
        replace f0_1 := f0_1.mono hle140
        replace f0_2 := f0_2.mono hle140
        replace f1_0 := f1_0.mono hle140
        replace f1_1 := f1_1.mono hle140
        replace f1_2 := f1_2.mono hle140
        replace f2_0 := f2_0.mono hle140
        replace f2_1 := f2_1.mono hle140
        replace f2_2 := f2_2.mono hle140
        replace hgl := hgl.mono hle140
        replace hr111_0 := hr111_0.mono hle140
        replace hr111_1 := hr111_1.mono hle140
        replace hr111_2 := hr111_2.mono hle140
        replace hr114_0 := hr114_0.mono hle140
        replace hr114_1 := hr114_1.mono hle140
        replace hr114_2 := hr114_2.mono hle140
        replace hr117_0 := hr117_0.mono hle140
        replace hr117_1 := hr117_1.mono hle140
        replace hr117_2 := hr117_2.mono hle140
        try dsimp only
        obtain ⟨z1, hh, hR1⟩ := iter_e hh
        dsimp only [Ac_] at hh
        refine TC.isSl (i := 6) z (fun _ hb141 _ => ?_)
        refine TC.seq (TC.a (TL.i z z (TL.w z (moveStr (.inl z) z) (TL.w z (lenBs z underlying9 z) (TL.w z (OpVal.leq z z z) (TL.en (TC.cD z hh (fun h142 hh => ?_) (fun h142 hh => ?_))))))))
        ·refine TC.skip (S.n (TC.seq (TC.block (TC.seq ?_))))
         have u74 := grd_c hh
         replace hh := grd_t hh
         obtain ⟨v75, u75, hh⟩ := bnd_e hh
         refine TC.draw [] (by kernel_rfl) (TA.b 0 z (loadAll z ag25 sz25 z (i := 0) z z) z (TA.a 1 z (moveStr (.inl z) z) z (TA.a 2 z (moveI (.inl z) z) z (TA.b 3 z (sliceBsH (l := x3) (j := k137) z underlying9 z z (by omega) (by omega)) z (TA.ac 4 z (OpOk.call (At_ (x0 := x0) f0_0 f0_1 f0_2 u75) z z pf15 z z z z ?_))))))
         rintro _ τ144 _ hle144 ⟨a144_1, c144_1, rfl, hr144_0, rfl⟩
         replace f0_0 := f0_0.mono hle144
         replace f0_1 := f0_1.mono hle144
         replace f0_2 := f0_2.mono hle144
         replace f1_0 := f1_0.mono hle144
         replace f1_1 := f1_1.mono hle144
         replace f1_2 := f1_2.mono hle144
         replace f2_0 := f2_0.mono hle144
         replace f2_1 := f2_1.mono hle144
         replace f2_2 := f2_2.mono hle144
         replace hgl := hgl.mono hle144
         replace hr111_0 := hr111_0.mono hle144
         replace hr111_1 := hr111_1.mono hle144
         replace hr111_2 := hr111_2.mono hle144
         replace hr114_0 := hr114_0.mono hle144
         replace hr114_1 := hr114_1.mono hle144
         replace hr114_2 := hr114_2.mono hle144
         replace hr117_0 := hr117_0.mono hle144
         replace hr117_1 := hr117_1.mono hle144
         replace hr117_2 := hr117_2.mono hle144
         have hr144_0b := hr144_0.rv.big
         refine kl 0 hle144 (TA.a 5 z (moveT (.inl z) z) z (TA.a 6 z (OpVal.extract z z z) z (TA.a 7 z (OpVal.extract z z z) z (TA.a 8 z (moveSl (.inr z) z) z (TA.a 9 z (moveB (.inr z) z) z (TA.dn (S.n (TC.seq ?_))))))))
         have u84 := grd_c hh
         replace hh := grd_t hh
         obtain ⟨v85, u85, hh⟩ := bnd_e hh
         refine TC.draw [] (by kernel_rfl) (TA.b 0 z (loadAll z ag25 sz25 z (i := 1) z z) z (TA.a 1 z (moveStr (.inl z) z) z (TA.a 2 z (moveI (.inl z) z) z (TA.b 3 z (sliceBsL (l := x3) (i := k137) z underlying9 z z (by omega) (by omega)) z (TA.ac 4 z (OpOk.call (At_ (x0 := x1) f1_0 f1_1 f1_2 u85) z z pf15 z z z z ?_))))))
         rintro _ τ146 _ hle146 ⟨a146_1, c146_1, rfl, hr146_0, rfl⟩
         replace f0_0 := f0_0.mono hle146
         replace f0_1 := f0_1.mono hle146
         replace f0_2 := f0_2.mono hle146
         replace f1_0 := f1_0.mono hle146
         replace f1_1 := f1_1.mono hle146
         replace f1_2 := f1_2.mono hle146
         replace f2_0 := f2_0.mono hle146
         replace f2_1 := f2_1.mono hle146
         replace f2_2 := f2_2.mono hle146
         replace hgl := hgl.mono hle146
         replace hr111_0 := hr111_0.mono hle146
         replace hr111_1 := hr111_1.mono hle146
         replace hr111_2 := hr111_2.mono hle146
         replace hr114_0 := hr114_0.mono hle146
         replace hr114_1 := hr114_1.mono hle146
         replace hr114_2 := hr114_2.mono hle146
         replace hr117_0 := hr117_0.mono hle146
         replace hr117_1 := hr117_1.mono hle146
         replace hr117_2 := hr117_2.mono hle146
         replace hr144_0 := hr144_0.mono hle146
         have hr146_0b := hr146_0.rv.big
         refine kl 0 hle146 (TA.a 5 z (moveT (.inl z) z) z (TA.a 6 z (OpVal.extract z z z) z (TA.a 7 z (OpVal.extract z z z) z (TA.a 8 z (moveSl (.inr z) z) z (TA.a 9 z (moveB (.inr z) z) z (TA.dn (S.n (TC.seq (TC.a (TL.j z z (TL.w z (OpVal.not z z) (TL.j z z (TL.split 107 z (fun h147 => ?_) (fun h147 => ?_))))))))))))))
         ·replace hh := iteO_t h147 hh
          refine TL.f z (TL.f z (TL.w z (pickTB z z z) (TL.j z z (TL.f z (TL.f z (TL.f z (TL.f z (TL.f z (TL.f z (TL.w z (pickTB z z z) (TL.en (TC.t z (TC.a ?_)))))))))))))
          obtain ⟨v105, u105, hh⟩ := bnd_e hh
          refine TL.op z (callP (Ab_ hgl u105) z z pf14 z z z ?_)
          refine TL.j z z (TL.en (TC.ofSub (Sub.pre 0 z) (TC.back (TC.ret (S.r (B.r (S.r (S.r ?_))))))))
          replace hh := fin_x hR1 hh
          refine B.r (S.r ?_)
          obtain rfl := so hh
          exact rq [8] ⟨z, z, z⟩
         ·replace hh := iteO_f h147 hh
          refine TL.g z (moveB (.inl z) z) (TL.g z (OpVal.not z z) (TL.w z (pickFB z z z) (TL.j z z (TL.split 111 z (fun h148 => ?_) (fun h148 => ?_)))))
          ·replace hh := iteO_t h148 hh
           refine TL.f z (TL.f z (TL.f z (TL.f z (TL.f z (TL.f z (TL.w z (pickTB z z z) (TL.en (TC.t z (TC.a ?_)))))))))
           obtain ⟨v105, u105, hh⟩ := bnd_e hh
           refine TL.op z (callP (Ab_ hgl u105) z z pf14 z z z ?_)
           refine TL.j z z (TL.en (TC.ofSub (Sub.pre 0 z) (TC.back (TC.ret (S.r (B.r (S.r (S.r ?_))))))))
           replace hh := fin_x hR1 hh
           refine B.r (S.r ?_)
           obtain rfl := so hh
           exact rq [8] ⟨z, z, z⟩
          ·replace hh := iteO_f h148 hh
           refine TL.g z (moveSl (.inl z) z) (TL.g z (lenC z underlying45 z) (TL.g z (moveSl (.inl z) z) (TL.g z (lenC z underlying45 z) (TL.g z (mulW z z z) (TL.g z (OpVal.gtr z z z) (TL.w z (pickFB z z z) (TL.en (TC.cD z hh (fun h149 hh => ?_) (fun h149 hh => ?_)))))))))
           ·refine TC.a ?_
            obtain ⟨v105, u105, hh⟩ := bnd_e hh
            refine TL.op z (callP (Ab_ hgl u105) z z pf14 z z z ?_)
            refine TL.j z z (TL.en (TC.ofSub (Sub.pre 0 z) (TC.back (TC.ret (S.r (B.r (S.r (S.r ?_))))))))
            replace hh := fin_x hR1 hh
            refine B.r (S.r ?_)
            obtain rfl := so hh
            exact rq [8] ⟨z, z, z⟩
           ·refine TC.skip (S.n (TC.region (TL.s z z (TL.s z z (TL.s z z ?_)))))
            obtain ⟨v110, u110, hh⟩ := bnd_e hh
            refine TL.op z (OpOk.call (G7_ hr144_0 hr146_0 u110) z z pf16 z z z z ?_)
            rintro _ τ150 _ hle150 ⟨a150_1, c150_1, rfl, hr150_0, rfl⟩
            replace f0_0 := f0_0.mono hle150
            replace f0_1 := f0_1.mono hle150
            replace f0_2 := f0_2.mono hle150
            replace f1_0 := f1_0.mono hle150
            replace f1_1 := f1_1.mono hle150
            replace f1_2 := f1_2.mono hle150
            replace f2_0 := f2_0.mono hle150
            replace f2_1 := f2_1.mono hle150
            replace f2_2 := f2_2.mono hle150
            replace hgl := hgl.mono hle150
            replace hr111_0 := hr111_0.mono hle150
            replace hr111_1 := hr111_1.mono hle150
            replace hr111_2 := hr111_2.mono hle150
            replace hr114_0 := hr114_0.mono hle150
            replace hr114_1 := hr114_1.mono hle150
            replace hr114_2 := hr114_2.mono hle150
            replace hr117_0 := hr117_0.mono hle150
            replace hr117_1 := hr117_1.mono hle150
            replace hr117_2 := hr117_2.mono hle150
            have hr150_0b := hr150_0.rv.big
            refine TL.front 6 z z ?_
            have u111 := grd_c hh
            replace hh := grd_t hh
            refine TL.op z (appendS z z underlying45 sz9 by9 ze9 z z (by decide) z z z (.inl hr150_0) (by simpa using u111) (by decide) (fun a151 c152 => ?_))
            refine TL.s z z (TL.nil (B.n (S.n (TC.region (TL.i z z (TL.w z (OpVal.succ z z z (by omega)) (TL.i z z (TL.en ?_))))))))
            obtain ⟨hh, hlt153⟩ := nxt_x hR1 hh
            exact lf (((l134 ++ v110), (k137 + 1)), (a151, c152, τ150)) hlt153 ⟨hh, (((hle140.trans hle144).trans hle146).trans hle150)⟩ (Sub.f [6, 6, 6, 6, 6, 6] 7)
        ·refine TC.exit (S.x (S.x ?_))
         replace hh := fin_x hR1 hh
         refine TC.exitHere (S.n (TC.a (TL.w z (loadAll z ag25 sz25 z (i := 0) z z) (TL.w z (moveStr (.inl z) z) ?_))))
         obtain ⟨v118, u118, hh⟩ := bnd_e hh
         refine TL.op z (OpOk.call (At_ (x0 := x0) f0_0 f0_1 f0_2 u118) z z pf15 z z z z ?_)
         rintro _ τ154 _ hle154 ⟨a154_1, c154_1, rfl, hr154_0, rfl⟩
         replace f1_0 := f1_0.mono hle154
         replace f1_1 := f1_1.mono hle154
         replace f1_2 := f1_2.mono hle154
         replace f2_0 := f2_0.mono hle154
         replace f2_1 := f2_1.mono hle154
         replace f2_2 := f2_2.mono hle154
         replace hgl := hgl.mono hle154
         replace hr111_0 := hr111_0.mono hle154
         replace hr111_1 := hr111_1.mono hle154
         replace hr111_2 := hr111_2.mono hle154
         replace hr114_0 := hr114_0.mono hle154
         replace hr114_1 := hr114_1.mono hle154
         replace hr114_2 := hr114_2.mono hle154
         replace hr117_0 := hr117_0.mono hle154
         replace hr117_1 := hr117_1.mono hle154
         replace hr117_2 := hr117_2.mono hle154
         have hr154_0b := hr154_0.rv.big
         refine TL.w z (moveT (.inl z) z) (TL.w z (OpVal.extract z z z) (TL.w z (OpVal.extract z z z) (TL.s z z (TL.j z z (TL.en (TC.a (TL.w z (loadAll z ag25 sz25 z (i := 1) z z) (TL.w z (moveStr (.inl z) z) ?_))))))))
         obtain ⟨v126, u126, hh⟩ := bnd_e hh
         refine TL.op z (OpOk.call (At_ (x0 := x1) f1_0 f1_1 f1_2 u126) z z pf15 z z z z ?_)
         rintro _ τ155 _ hle155 ⟨a155_1, c155_1, rfl, hr155_0, rfl⟩
         replace f2_0 := f2_0.mono hle155
         replace f2_1 := f2_1.mono hle155
         replace f2_2 := f2_2.mono hle155
         replace hgl := hgl.mono hle155
         replace hr111_0 := hr111_0.mono hle155
         replace hr111_1 := hr111_1.mono hle155
         replace hr111_2 := hr111_2.mono hle155
         replace hr114_0 := hr114_0.mono hle155
         replace hr114_1 := hr114_1.mono hle155
         replace hr114_2 := hr114_2.mono hle155
         replace hr117_0 := hr117_0.mono hle155
         replace hr117_1 := hr117_1.mono hle155
         replace hr117_2 := hr117_2.mono hle155
         replace hr154_0 := hr154_0.mono hle155
         have hr155_0b := hr155_0.rv.big
         refine TL.w z (moveT (.inl z) z) (TL.w z (OpVal.extract z z z) (TL.w z (OpVal.extract z z z) (TL.s z z (TL.j z z (TL.en (TC.a (TL.w z (loadAll z ag25 sz25 z (i := 3) z z) (TL.w z (moveStr (.inl z) z) ?_))))))))
         obtain ⟨v134, u134, hh⟩ := bnd_e hh
         refine TL.op z (OpOk.call (At_ (x0 := v28.1) hr111_0 hr111_1 hr111_2 u134) z z pf15 z z z z ?_)
         rintro _ τ156 _ hle156 ⟨a156_1, c156_1, rfl, hr156_0, rfl⟩
         replace f2_0 := f2_0.mono hle156
         replace f2_1 := f2_1.mono hle156
         replace f2_2 := f2_2.mono hle156
         replace hgl := hgl.mono hle156
         replace hr114_0 := hr114_0.mono hle156
         replace hr114_1 := hr114_1.mono hle156
         replace hr114_2 := hr114_2.mono hle156
         replace hr117_0 := hr117_0.mono hle156
         replace hr117_1 := hr117_1.mono hle156
         replace hr117_2 := hr117_2.mono hle156
         replace hr154_0 := hr154_0.mono hle156
         replace hr155_0 := hr155_0.mono hle156
         have hr156_0b := hr156_0.rv.big
         refine TL.w z (moveT (.inl z) z) (TL.w z (OpVal.extract z z z) (TL.w z (OpVal.extract z z z) (TL.s z z (TL.j z z (TL.en (TC.a (TL.w z (loadAll z ag25 sz25 z (i := 4) z z) (TL.w z (moveStr (.inl z) z) ?_))))))))
         obtain ⟨v142, u142, hh⟩ := bnd_e hh
         refine TL.op z (OpOk.call (At_ (x0 := v37.1) hr114_0 hr114_1 hr114_2 u142) z z pf15 z z z z ?_)
         rintro _ τ157 _ hle157 ⟨a157_1, c157_1, rfl, hr157_0, rfl⟩
         replace f2_0 := f2_0.mono hle157
         replace f2_1 := f2_1.mono hle157
         replace f2_2 := f2_2.mono hle157
         replace hgl := hgl.mono hle157
         replace hr117_0 := hr117_0.mono hle157
         replace hr117_1 := hr117_1.mono hle157
         replace hr117_2 := hr117_2.mono hle157
         replace hr154_0 := hr154_0.mono hle157
         replace hr155_0 := hr155_0.mono hle157
         replace hr156_0 := hr156_0.mono hle157
         have hr157_0b := hr157_0.rv.big
         refine TL.w z (moveT (.inl z) z) (TL.w z (OpVal.extract z z z) (TL.w z (OpVal.extract z z z) (TL.s z z (TL.j z z (TL.en (TC.a (TL.w z (loadAll z ag25 sz25 z (i := 5) z z) (TL.w z (moveStr (.inl z) z) ?_))))))))
         obtain ⟨v150, u150, hh⟩ := bnd_e hh
         refine TL.op z (OpOk.call (At_ (x0 := v46.1) hr117_0 hr117_1 hr117_2 u150) z z pf15 z z z z ?_)
         rintro _ τ158 _ hle158 ⟨a158_1, c158_1, rfl, hr158_0, rfl⟩
         replace f2_0 := f2_0.mono hle158
         replace f2_1 := f2_1.mono hle158
         replace f2_2 := f2_2.mono hle158
         replace hgl := hgl.mono hle158
         replace hr154_0 := hr154_0.mono hle158
         replace hr155_0 := hr155_0.mono hle158
         replace hr156_0 := hr156_0.mono hle158
         replace hr157_0 := hr157_0.mono hle158
         have hr158_0b := hr158_0.rv.big
         refine TL.w z (moveT (.inl z) z) (TL.w z (OpVal.extract z z z) (TL.w z (OpVal.extract z z z) (TL.s z z (TL.j z z (TL.en (TC.seq (TC.a (TL.j z z (TL.w z (OpVal.not z z) (TL.j z z (TL.split 157 z (fun h159 => ?_) (fun h159 => ?_))))))))))))
         ·replace hh := iteO_t h159 hh
          refine TL.f z (TL.f z (TL.w z (pickTB z z z) (TL.j z z (TL.f z (TL.f z (TL.w z (pickTB z z z) (TL.j z z (TL.f z (TL.f z (TL.w z (pickTB z z z) (TL.j z z (TL.f z (TL.f z (TL.w z (pickTB z z z) (TL.en (TC.t z (TC.a ?_)))))))))))))))))
          obtain ⟨v174, u174, hh⟩ := bnd_e hh
          refine TL.op z (callP (Ab_ hgl u174) z z pf14 z z z ?_)
          refine TL.j z z (TL.en (TC.ofSub (Sub.pre 0 z) (TC.back (TC.ret (S.r ?_)))))
          obtain rfl := so hh
          exact rq [8] ⟨z, z, z⟩
         ·replace hh := iteO_f h159 hh
          refine TL.g z (moveB (.inl z) z) (TL.g z (OpVal.not z z) (TL.w z (pickFB z z z) (TL.j z z (TL.split 161 z (fun h160 => ?_) (fun h160 => ?_)))))
          ·replace hh := iteO_t h160 hh
           refine TL.f z (TL.f z (TL.w z (pickTB z z z) (TL.j z z (TL.f z (TL.f z (TL.w z (pickTB z z z) (TL.j z z (TL.f z (TL.f z (TL.w z (pickTB z z z) (TL.en (TC.t z (TC.a ?_)))))))))))))
           obtain ⟨v174, u174, hh⟩ := bnd_e hh
           refine TL.op z (callP (Ab_ hgl u174) z z pf14 z z z ?_)
           refine TL.j z z (TL.en (TC.ofSub (Sub.pre 0 z) (TC.back (TC.ret (S.r ?_)))))
           obtain rfl := so hh
           exact rq [8] ⟨z, z, z⟩
          ·replace hh := iteO_f h160 hh
           refine TL.g z (moveB (.inl z) z) (TL.g z (OpVal.not z z) (TL.w z (pickFB z z z) (TL.j z z (TL.split 165 z (fun h161 => ?_) (fun h161 => ?_)))))
           ·replace hh := iteO_t h161 hh
            refine TL.f z (TL.f z (TL.w z (pickTB z z z) (TL.j z z (TL.f z (TL.f z (TL.w z (pickTB z z z) (TL.en (TC.t z (TC.a ?_)))))))))
            obtain ⟨v174, u174, hh⟩ := bnd_e hh
            refine TL.op z (callP (Ab_ hgl u174) z z pf14 z z z ?_)
            refine TL.j z z (TL.en (TC.ofSub (Sub.pre 0 z) (TC.back (TC.ret (S.r ?_)))))
            obtain rfl := so hh
            exact rq [8] ⟨z, z, z⟩
           ·replace hh := iteO_f h161 hh
            refine TL.g z (moveB (.inl z) z) (TL.g z (OpVal.not z z) (TL.w z (pickFB z z z) (TL.j z z (TL.split 169 z (fun h162 => ?_) (fun h162 => ?_)))))
            ·replace hh := iteO_t h162 hh
             refine TL.f z (TL.f z (TL.w z (pickTB z z z) (TL.en (TC.t z (TC.a ?_)))))
             obtain ⟨v174, u174, hh⟩ := bnd_e hh
             refine TL.op z (callP (Ab_ hgl u174) z z pf14 z z z ?_)
             refine TL.j z z (TL.en (TC.ofSub (Sub.pre 0 z) (TC.back (TC.ret (S.r ?_)))))
             obtain rfl := so hh
             exact rq [8] ⟨z, z, z⟩
            ·replace hh := iteO_f h162 hh
             refine TL.g z (moveB (.inl z) z) (TL.g z (OpVal.not z z) (TL.w z (pickFB z z z) (TL.en (TC.cB z hh (fun h163 hh => ?_) (fun h163 hh => ?_)))))
             ·refine TC.a ?_
              obtain ⟨v174, u174, hh⟩ := bnd_e hh
              refine TL.op z (callP (Ab_ hgl u174) z z pf14 z z z ?_)
              refine TL.j z z (TL.en (TC.ofSub (Sub.pre 0 z) (TC.back (TC.ret (S.r ?_)))))
              obtain rfl := so hh
              exact rq [8] ⟨z, z, z⟩
             ·refine TC.skip (S.n (TC.a (TL.s z z (TL.en (TC.a (TL.s z z (TL.s z z (TL.nilS 9 1 Go.E.encS ?_))))))))
              have u179 := grd_c hh
              replace hh := grd_t hh
              refine TL.op z (appendS z z underlying45 sz9 by9 ze9 z z (by decide) z z z (.inl hr154_0) (by simpa using u179) (by decide) (fun a165 c166 => ?_))
              refine TL.s z z (TL.en (TC.a (TL.s z z (TL.s z z ?_))))
              have u183 := grd_c hh
              replace hh := grd_t hh
              refine TL.op z (appendS z z underlying45 sz9 by9 ze9 z z (by decide) z z z (.inl hr155_0) (by simpa using u183) (by decide) (fun a167 c168 => ?_))
              refine TL.s z z (TL.en (TC.a (TL.w z (loadAll z ag30 sz30 z (i := 3) z z) (TL.w z (moveStr (.inl z) z) ?_))))
              obtain ⟨v187, u187, hh⟩ := bnd_e hh
              refine TL.op z (callP (H8_ (x0 := x2) f2_0 f2_1 f2_2 u187) z z pf17 z z z ?_)
              refine TL.w z (moveT (.inl z) z) (TL.w z (OpVal.extract z z z) (TL.w z (OpVal.extract z z z) (TL.j z z (TL.i z z (TL.en (TC.cutG (α := ((List (List UInt8))) × ((Option Addr) × Nat × Store)) [21, 186, 187] (fun g => [(21, .slice g.2.1 g.1.length g.2.2.1)]) (fun g => [Res.rowS 9 1 Go.E.encS (.slice a135 l134.length c136) l134, Res.rowS 9 1 Go.E.encS (.slice a167 ((([] : List (List UInt8)) ++ v118.1) ++ v126.1).length c168) ((([] : List (List UInt8)) ++ v118.1) ++ v126.1)]) (fun g => g.2.2.2) (fun g => Au_ v187 v118 v126 v134 l134 v142 v150 g.1 = some r ∧ RS g.2.2.2 1 Go.E.encS (.slice g.2.1 g.1.length g.2.2.1) g.1 ∧ Store.le τ158 g.2.2.2) ?_ (fun g j hg => ?_)))))))
              ·skip
               refine TC.a (TL.j z z (TL.w z (OpVal.not z z) (TL.en (TC.cB z hh (fun h173 hh => ?_) (fun h173 hh => ?_)))))
               ·exact TC.region (TL.s z z (TL.en (cf (([] : List (List UInt8)), (none, 0, τ158)) ⟨hh, (RS.nilF _ Go.E.encS Go.E.encS_len), (Store.le.refl _)⟩ (Sub.f [7] 2))))
               ·exact TC.skip (S.n (cf (v118.1, (a154_1, c154_1, τ158)) ⟨hh, hr154_0, (Store.le.refl _)⟩ (Sub.f [7] 2)))
              ·skip
               obtain ⟨l169, ⟨a170, c171, τ174⟩⟩ := g
               obtain ⟨hh, hr172, hle175⟩ := hg
               try dsimp only at hr172
               dsimp only at hle175
               replace hgl := hgl.mono hle175
               replace hr156_0 := hr156_0.mono hle175
               replace hr157_0 := hr157_0.mono hle175
               replace hr158_0 := hr158_0.mono hle175
               try dsimp only
               dsimp only [Au_] at hh
               have hr172b := hr172.rv.big
               refine TC.isSl (i := 0) z (fun _ hb176 _ => ?_)
               refine TC.isSl (i := 1) z (fun _ hb177 _ => ?_)
               refine TC.a ?_
               obtain ⟨v196, u196, hh⟩ := bnd_e hh
               refine TL.op z (callP (Ab_ hgl u196) z z pf14 z z z ?_)
               refine TL.j z z (TL.split 189 z (fun h178 => ?_) (fun h178 => ?_))
               ·replace hh := iteO_t h178 hh
                refine TL.g z (moveI (.inl z) z) (TL.g z (OpVal.eql z z z) (TL.w z (pickTB z z z) (TL.j z z (TL.split 193 z (fun h179 => ?_) (fun h179 => ?_)))))
                ·replace hh := iteO_t h179 hh
                 replace h179 := of_decide_eq_true h179
                 refine TL.g z (moveSl (.inl z) z) (TL.g z (moveSl (.inl z) z) (TL.front 1 z z (TL.sealS Go.E.encS_len (fun τ182 hle181 hr180 => ?_))))
                 replace hr156_0 := hr156_0.mono hle181
                 replace hr157_0 := hr157_0.mono hle181
                 replace hr158_0 := hr158_0.mono hle181
                 replace hr172 := hr172.mono hle181
                 have hr180b := hr180.rv.big
                 obtain ⟨v204, u204, hh⟩ := bnd_e hh
                 refine TL.gon z z z z z (OpOk.call (Eo_ hr180 u204) z z pf19 z z z z ?_)
                 rintro _ τ183 _ hle183 ⟨a183_1, c183_1, rfl, hr183_0, rfl⟩
                 replace hr156_0 := hr156_0.mono hle183
                 replace hr157_0 := hr157_0.mono hle183
                 replace hr158_0 := hr158_0.mono hle183
                 replace hr172 := hr172.mono hle183
                 have hr183_0b := hr183_0.rv.big
                 obtain ⟨v205, u205, hh⟩ := bnd_e hh
                 refine TL.gon z z z z z (callP (By_ hr156_0 hr183_0 u205) z z pf18 z z z ?_)
                 refine TL.w z (pickTB z z z) (TL.j z z (TL.split 199 z (fun h184 => ?_) (fun h184 => ?_)))
                 ·replace hh := iteO_t h184 hh
                  refine TL.g z (moveSl (.inl z) z) (TL.g z (moveSl (.inl z) z) (TL.sealS Go.E.encS_len (fun τ187 hle186 hr185 => ?_)))
                  replace hr157_0 := hr157_0.mono hle186
                  replace hr158_0 := hr158_0.mono hle186
                  replace hr172 := hr172.mono hle186
                  have hr185b := hr185.rv.big
                  obtain ⟨v210, u210, hh⟩ := bnd_e hh
                  refine TL.gon z z z z z (OpOk.call (Eo_ hr185 u210) z z pf19 z z z z ?_)
                  rintro _ τ188 _ hle188 ⟨a188_1, c188_1, rfl, hr188_0, rfl⟩
                  replace hr157_0 := hr157_0.mono hle188
                  replace hr158_0 := hr158_0.mono hle188
                  replace hr172 := hr172.mono hle188
                  have hr188_0b := hr188_0.rv.big
                  obtain ⟨v211, u211, hh⟩ := bnd_e hh
                  refine TL.gon z z z z z (callP (By_ hr157_0 hr188_0 u211) z z pf18 z z z ?_)
                  refine TL.w z (pickTB z z z) (TL.j z z (TL.split 205 z (fun h189 => ?_) (fun h189 => ?_)))
                  ·replace hh := iteO_t h189 hh
                   refine TL.g z (moveSl (.inl z) z) (TL.g z (moveSl (.inl z) z) ?_)
                   obtain ⟨v216, u216, hh⟩ := bnd_e hh
                   refine TL.gon z z z z z (callP (By_ hr158_0 hr172 u216) z z pf18 z z z ?_)
                   refine TL.w z (pickTB z z z) (TL.j z z (TL.en (TC.back (TC.ret ?_))))
                   obtain rfl := so hh
                   exact rq [8] ⟨z, z, z⟩
                  ·replace hh := iteO_f h189 hh
                   refine TL.f z (TL.f z (TL.f z (TL.w z (pickFB z z z) (TL.j z z (TL.en (TC.back (TC.ret ?_)))))))
                   obtain rfl := so hh
                   exact rq [8] ⟨z, z, z⟩
                 ·replace hh := iteO_f h184 hh
                  refine TL.f z (TL.f z (TL.f z (TL.f z (TL.w z (pickFB z z z) (TL.j z z (TL.f z (TL.f z (TL.f z (TL.w z (pickFB z z z) (TL.j z z (TL.en (TC.ofSub (Sub.pre 0 z) (TC.back (TC.ret ?_))))))))))))))
                  obtain rfl := so hh
                  exact rq [8] ⟨z, z, z⟩
                ·replace hh := iteO_f h179 hh
                 replace h179 := of_decide_eq_false h179
                 refine TL.f z (TL.f z (TL.f z (TL.f z (TL.w z (pickFB z z z) (TL.j z z (TL.f z (TL.f z (TL.f z (TL.f z (TL.w z (pickFB z z z) (TL.j z z (TL.f z (TL.f z (TL.f z (TL.w z (pickFB z z z) (TL.j z z (TL.en (TC.ofSub (Sub.pre 0 z) (TC.back (TC.ret ?_))))))))))))))))))))
                 obtain rfl := so hh
                 exact rq [8] ⟨z, z, z⟩
               ·replace hh := iteO_f h178 hh
                refine TL.f z (TL.f z (TL.w z (pickFB z z z) (TL.j z z (TL.f z (TL.f z (TL.f z (TL.f z (TL.w z (pickFB z z z) (TL.j z z (TL.f z (TL.f z (TL.f z (TL.f z (TL.w z (pickFB z z z) (TL.j z z (TL.f z (TL.f z (TL.f z (TL.w z (pickFB z z z) (TL.j z z (TL.en (TC.ofSub (Sub.pre 0 z) (TC.back (TC.ret ?_))))))))))))))))))))))))
                obtain rfl := so hh
                exact rq [8] ⟨z, z, z⟩
end Go.Proofs.YtcaaiphgikpgjaaGreatDoor
end

section
namespace Go.Proofs.YtcaaiphgikpgjaaGreatDoor
open Go Go.E
structure PartI (a b : Fst) (w : List UInt8) (k : Nat) (l : List (List UInt8)) : Prop where
  mem : ∀ o, o ∈ l ↔ ∃ i, i < k ∧ ∃ o1 o2, Rel a (w.take i) o1 ∧ Rel b (w.drop i) o2 ∧ o = o1 ++ o2
  len : l.length ≤ 500 * k
  small : ∀ o ∈ l, o.length ≤ 600000
theorem pairs_len (x y : List (List UInt8)) : (x.flatMap fun p => y.map fun q => p ++ q).length = x.length * y.length := by
  rw [List.length_flatMap]
  have h1 : (List.map (fun p : List UInt8 => (y.map fun q => p ++ q).length) x) = List.map (fun _ => y.length) x := by
    refine List.map_congr_left fun p _ => ?_
    rw [List.length_map]
  rw [h1, List.map_const', List.sum_replicate_nat]
theorem parts_b1 {a b : Fst} (ha : FstOk a) (hb : FstOk b) {w : List UInt8} (hw : ¬ 3 < ((w.length : Nat) : Int)) (v28 v37 v46 : Fst × Int) (d : Dfa) {k : Nat} (hk : k < w.length + 1) {l : List (List UInt8)} (hI : PartI a b w k l) :
    (∃ s', Ac_ w a b v28 v37 v46 d l k = some (.inl (s', k + 1)) ∧ PartI a b w (k + 1) s') ∨ Ac_ w a b v28 v37 v46 d l k = some (.inr true) := by
  unfold Ac_
  rw [iteO_dt (by omega), grd_mk ⟨by omega, by omega⟩, outs16_eq _ _ (by rw [List.length_take]; omega), bnd_mk, grd_mk ⟨by omega, by omega⟩]
  rw [outs16_eq _ _ (by rw [List.length_drop]; omega), bnd_mk, (fstB_iff _).2 ha, (fstB_iff _).2 hb]
  have haw : (bnd Aa_ fun v93 => (fin (some v93) : Option ((List (List UInt8) × Nat) ⊕ Bool))) = some (.inr true) := by rw [awake16, bnd_mk]; rfl
  rw [haw]
  by_cases f2 : fitsB a (w.take k) = true
  · rw [if_pos ⟨rfl, f2⟩]
    dsimp only
    rw [iteO_nt]
    by_cases f3 : fitsB b (w.drop k) = true
    · rw [if_pos ⟨rfl, f3⟩]
      dsimp only
      rw [iteO_nt, wrap_mul (outsL_len ha f2) (outsL_len hb f3)]
      by_cases c : 500 < (((outsL a (w.take k)).length * (outsL b (w.drop k)).length : Nat) : Int)
      · rw [iteO_dt c]; exact .inr rfl
      · have hl1 := outsL_small ha (w := w.take k) (by rw [List.length_take]; omega)
        have hl2 := outsL_small hb (w := w.drop k) (by rw [List.length_drop]; omega)
        have hn := hI.len
        have hpl := pairs_len (outsL a (w.take k)) (outsL b (w.drop k))
        rw [iteO_df c, pairs_eq _ _ (fun o ho => by have := hl1 o ho; omega) (fun o ho => by have := hl2 o ho; omega) (by omega), bnd_mk, grd_mk (by rw [hpl]; omega)]
        refine .inl ⟨_, rfl, ⟨fun o => ?_, by rw [List.length_append, hpl]; omega, fun o ho => ?_⟩⟩
        · rw [List.mem_append, hI.mem]
          constructor
          · rintro (⟨i, h1, h3⟩ | h)
            · exact ⟨i, by omega, h3⟩
            · obtain ⟨p, hp, h⟩ := List.mem_flatMap.1 h
              obtain ⟨q, hq, rfl⟩ := List.mem_map.1 h
              exact ⟨k, by omega, p, q, mem_outs_rel.1 hp, mem_outs_rel.1 hq, rfl⟩
          · rintro ⟨i, h1, o1, o2, h3, h4, rfl⟩
            by_cases hi : i < k
            · exact .inl ⟨i, hi, o1, o2, h3, h4, rfl⟩
            · obtain rfl : i = k := by omega
              exact .inr (List.mem_flatMap.2 ⟨o1, mem_outs_rel.2 h3, List.mem_map.2 ⟨o2, mem_outs_rel.2 h4, rfl⟩⟩)
        · rcases List.mem_append.1 ho with ho | ho
          · exact hI.small o ho
          · obtain ⟨p, hp, h⟩ := List.mem_flatMap.1 ho
            obtain ⟨q, hq, rfl⟩ := List.mem_map.1 h
            have h1 := hl1 p hp
            have h2 := hl2 q hq
            rw [List.length_append]; omega
    · rw [if_neg (fun h => f3 h.2)]; exact .inr rfl
  · rw [if_neg (fun h => f2 h.2)]; exact .inr rfl
theorem parts_j1 {t : Bool} {x y o : List (List UInt8)} {c l p : List (List UInt8)} {b1 b2 b3 b4 b5 : Bool} (h1 : onceL [] Lib.compareBytes (x ++ y) = c) (h2 : onceL [] Lib.compareBytes l = p) (hx : x.length ≤ 4194304) (hy : y.length ≤ 4194304) (hl : l.length ≤ 1000000)
    (sx : ∀ o ∈ x, o.length ≤ 600000) (sy : ∀ o ∈ y, o.length ≤ 600000) (sl : ∀ o ∈ l, o.length ≤ 600000) :
    Au_ (t, 0) (x, b1) (y, b2) (c, b3) l (p, b4) (o, b5) o = some true := by
  unfold Au_
  rw [awake16, bnd_mk, iteO_true, iteO_dt rfl]
  dsimp only
  rw [List.nil_append, texts_eq (x ++ y) (by rw [List.length_append]; omega) (fun o ho => by rcases List.mem_append.1 ho with h | h; (have := sx o h; omega); (have := sy o h; omega)), bnd_mk, h1, texts_refl, bnd_mk, iteO_true,
    texts_eq l (by omega) (fun o ho => by have := sl o ho; omega), bnd_mk, h2, texts_refl, bnd_mk, iteO_true, texts_refl, bnd_mk]
theorem ratParts_eq (a b : Fst) (d : Dfa) (w : List UInt8) (hw0 : w.length ≤ 281474976710656) : Ca_ a b d w = some true := by
  unfold Ca_ Dk_
  rw [grd_mk hw0]
  obtain ⟨b1, hb1⟩ := few15_total a
  obtain ⟨b2, hb2⟩ := few15_total b
  rw [bnd_some hb1]
  cases b1 with
  | false => rfl
  | true =>
  rw [iteO_true, bnd_some hb2, bnd_mk]
  cases b2 with
  | false => rfl
  | true =>
  rw [Bool.not_true, iteO_false]
  by_cases hw : 3 < ((w.length : Nat) : Int)
  · rw [iteO_dt hw]
  rw [iteO_df hw]
  obtain ⟨c, hc, -⟩ := few11_ok d
  rw [bnd_some hc]
  cases c with
  | false => rfl
  | true =>
  rw [Bool.not_true, iteO_false]
  refine iteO_any (fun _ => rfl) fun _ => ?_
  have haw : (bnd Aa_ fun v => some v) = some true := by rw [awake16, bnd_mk]
  obtain ⟨p, ep, okp, hp⟩ := alt_any a b
  obtain ⟨q, eq, okq, hq⟩ := cat_any a b
  obtain ⟨l, el, okl, hl⟩ := lim_any a d
  rw [bnd_some ep, bnd_some eq, bnd_some el, haw]
  rcases hp with hp | ⟨ha, hb, rfl, hpo⟩
  · rw [iteO_dt hp]
  rcases hq with hq | ⟨-, -, rfl, hqo⟩
  · rw [iteO_df (by simp), iteO_dt hq]
  rcases hl with hl | ⟨-, hd, rfl, hlo⟩
  · rw [iteO_df (by simp), iteO_df (by simp), iteO_dt hl]
  rw [iteO_df (by simp), iteO_df (by simp), iteO_df (by simp)]
  obtain ⟨r, e, rfl⟩ := iter_up (step := fun q : (List (List UInt8)) × Nat => Ac_ w a b (fAlt a b, 0) (fCat a b, 0) (fLim a d, 0) d q.1 q.2) (fun (l : List (List UInt8)) k => (l, k)) (w.length + 1) (fun k l => PartI a b w k l) (fun r => r = true)
    (fun k l hk hI => (parts_b1 ha hb hw _ _ _ d hk hI).imp id fun h => ⟨true, h, rfl⟩)
    (fun l hI => by
      have hn := hI.len
      refine ⟨true, ?_, rfl⟩
      show Ac_ w a b (fAlt a b, 0) (fCat a b, 0) (fLim a d, 0) d l (w.length + 1) = _
      unfold Ac_
      rw [iteO_df (by omega)]
      refine (congrArg fin ?_ : fin _ = fin (some true))
      rw [haw, outs16_eq _ _ (by omega), bnd_mk, outs16_eq _ _ (by omega), bnd_mk, outs16_eq _ _ (by omega), bnd_mk, outs16_eq _ _ (by omega), bnd_mk, outs16_eq _ _ (by omega), bnd_mk,
        (fstB_iff _).2 ha, (fstB_iff _).2 hb, (fstB_iff _).2 hpo, (fstB_iff _).2 hqo, (fstB_iff _).2 hlo]
      by_cases f1 : fitsB a w = true
      · rw [if_pos ⟨rfl, f1⟩]
        by_cases f2 : fitsB b w = true
        · rw [if_pos ⟨rfl, f2⟩]
          by_cases f3 : fitsB (fAlt a b) w = true
          · rw [if_pos ⟨rfl, f3⟩]
            by_cases f4 : fitsB (fCat a b) w = true
            · rw [if_pos ⟨rfl, f4⟩]
              by_cases f5 : fitsB (fLim a d) w = true
              · rw [if_pos ⟨rfl, f5⟩]
                dsimp only
                have l1 := outsL_len ha f1
                have l2 := outsL_len hb f2
                have s1 := outsL_small ha (w := w) (by omega)
                have s2 := outsL_small hb (w := w) (by omega)
                have e1 : onceL [] Lib.compareBytes (outsL a w ++ outsL b w) = outsL (fAlt a b) w := outs_once fun o => by
                  rw [List.mem_append, mem_outs_rel, mem_outs_rel, rel_alt ha hb]
                have e2 : onceL [] Lib.compareBytes l = outsL (fCat a b) w := outs_once fun o => by
                  rw [hI.mem, rel_cat ha hb]
                  constructor
                  · rintro ⟨i, -, o1, o2, h1, h2, rfl⟩
                    exact ⟨w.take i, w.drop i, o1, o2, (List.take_append_drop i w).symm, h1, h2, rfl⟩
                  · rintro ⟨u, v, o1, o2, rfl, h1, h2, rfl⟩
                    exact ⟨u.length, by rw [List.length_append]; omega, o1, o2, by rw [List.take_left]; exact h1, by rw [List.drop_left]; exact h2, rfl⟩
                rw [iteO_nt, iteO_nt, iteO_nt, iteO_nt, iteO_nt, grd_mk (by simp only [List.length_nil]; omega), grd_mk (by rw [List.nil_append]; omega), tk_eq d w hw0, bnd_mk, if_pos hd]
                cases ht : nth d.fin (runD d 0 w).toNat false with
                | false =>
                  have e3 : outsL (fLim a d) w = [] := by
                    refine List.eq_nil_iff_forall_not_mem.2 fun o ho => ?_
                    have := ((rel_lim hd).1 (mem_outs_rel.1 ho)).2
                    rw [ht] at this; cases this
                  dsimp only
                  rw [iteO_nf, e3]
                  exact parts_j1 e1 e2 l1 l2 (by omega) (fun o ho => by have := s1 o ho; omega) (fun o ho => by have := s2 o ho; omega) hI.small
                | true =>
                  have e3 : outsL (fLim a d) w = outsL a w := outs_rel fun o => by
                    rw [rel_lim hd, ht]; exact ⟨fun h => h.1, fun h => ⟨h, rfl⟩⟩
                  dsimp only
                  rw [iteO_nt, e3]
                  exact parts_j1 e1 e2 l1 l2 (by omega) (fun o ho => by have := s1 o ho; omega) (fun o ho => by have := s2 o ho; omega) hI.small
              · rw [if_neg (fun h => f5 h.2)]; rfl
            · rw [if_neg (fun h => f4 h.2)]; rfl
          · rw [if_neg (fun h => f3 h.2)]; rfl
        · rw [if_neg (fun h => f2 h.2)]; rfl
      · rw [if_neg (fun h => f1 h.2)]; rfl)
    (s0 := []) ⟨fun o => ⟨fun h => (by cases h), fun ⟨i, h1, _⟩ => by omega⟩, by simp, fun o h => (by cases h)⟩
  exact e
end Go.Proofs.YtcaaiphgikpgjaaGreatDoor
end
