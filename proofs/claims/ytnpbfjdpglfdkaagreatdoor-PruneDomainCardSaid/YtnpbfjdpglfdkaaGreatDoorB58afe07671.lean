/- Parts of a proof, one behind the other: what a machine reaches, functions decompiled, plain lemmas. Conditions stand with each lemma. -/
import Derived.Test.YtnpbfjdpglfdkaaGreatDoorB0b137539b5
import Derived.Test.YtnpbfjdpglfdkaaGreatDoorBbad72b773d
import Derived.Test.YtnpbfjdpglfdkaaGreatDoorBa9cdb4c34f
import Derived.RangeFuncLeaves

set_option linter.unusedVariables false
set_option linter.unusedSimpArgs false
set_option linter.unusedSectionVars false
set_option maxRecDepth 100000

section
namespace Go.Proofs.YtnpbfjdpglfdkaaGreatDoor
open Go Go.E Go.E.OpVal Go.E.OpOk Go.Proofs.Tryz
private theorem ag28 : Go.E.aggOf Tryz.prog 28 = some false := by kernel_rfl
private theorem ag29 : Go.E.aggOf Tryz.prog 29 = some false := by kernel_rfl
private theorem ag80 : Go.E.aggOf Tryz.prog 80 = some false := by kernel_rfl
private theorem by5 : Go.E.byOf Tryz.prog 5 = some 1 := by kernel_rfl
private theorem by57 : Go.E.byOf Tryz.prog 57 = some 32 := by kernel_rfl
private theorem fo31_0 : Go.E.foOf Tryz.prog 31 0 = some 0 := by kernel_rfl
private theorem fo31_1 : Go.E.foOf Tryz.prog 31 1 = some 1 := by kernel_rfl
private theorem fo31_2 : Go.E.foOf Tryz.prog 31 2 = some 2 := by kernel_rfl
private theorem pf20 : Go.E.plainF Tryz.prog 20 = true := by kernel_rfl
private theorem pf43 : Go.E.plainF Tryz.prog 43 = true := by kernel_rfl
private theorem pf66 : Go.E.plainF Tryz.prog 66 = true := by kernel_rfl
private theorem pf67 : Go.E.plainF Tryz.prog 67 = true := by kernel_rfl
private theorem pf68 : Go.E.plainF Tryz.prog 68 = true := by kernel_rfl
private theorem pf74 : Go.E.plainF Tryz.prog 74 = true := by kernel_rfl
private theorem pf92 : Go.E.plainF Tryz.prog 92 = true := by kernel_rfl
private theorem sz27 : Go.E.szOf Tryz.prog 27 = some 1 := by kernel_rfl
private theorem sz46 : Go.E.szOf Tryz.prog 46 = some 1 := by kernel_rfl
private theorem ze5 : Go.E.zeroOf Tryz.prog 5 = some (.int .u8 0) := by kernel_rfl
noncomputable def Ae_ (x0 : Nat) : Option (Int) :=
 iteO (decide (x0 = 0)) (some 64) (grd ((u64shr (u64mul (u64and x0 (u64of (-((x0 : Nat) : Int)))) 285870213051353865) 58) < 64) (some (((nth deB (u64shr (u64mul (u64and x0 (u64of (-((x0 : Nat) : Int)))) 285870213051353865) 58) (0 : UInt8)).toNat : Nat) : Int)))
theorem E8_ {σ : Store} {x0 : Nat} (hgl : GT σ 1 encU8 deB) {r : Int} (hh : Ae_ x0 = some r) :
  Con Tryz.prog 92 #[.int .u64 ((x0 : Nat) : Int)] σ [] (PureP (.int .i64 r) σ) := by
 dsimp only [Ae_] at hh
 refine Con.mk (n := 14) Tryz.func92 z z z (fun w0 => ?_)
 refine TC.a (TL.i z z (TL.en (TC.seq (TC.a (TL.i z z (TL.w z (eqlU z z z) (TL.en (TC.cD z hh (fun h101 hh => ?_) (fun h101 hh => ?_)))))))))
 ·refine TC.a (TL.i z z (TL.en (TC.ret (S.r ?_))))
  obtain rfl := so hh
  exact rq [2] ⟨z, z, z⟩
 ·refine TC.skip (S.n (TC.a (TL.i z z (TL.i z z (TL.w z (negU z z) (TL.w z (andU z z z) (TL.w z (mulU (b := 285870213051353865) z z z) (TL.w z (shrU (b := 58) z z z) ?_))))))))
  have u11 := grd_c hh
  replace hh := grd_t hh
  refine TL.w z (indexArrN z underlying182 sz5 z z (by omega)) (TL.w z (loadG1 (0 : UInt8) z ag5 z hgl (by simp only [deB, List.length_cons, List.length_nil]; omega) encU8_len z) (TL.w z (convN z underlying5 underlying3 z (by have := UInt8.toNat_lt (nth deB (u64shr (u64mul (u64and x0 (u64of (-((x0 : Nat) : Int)))) 285870213051353865) 58) (0 : UInt8)); simp only [kmax]; omega)) (TL.i z z (TL.en (TC.ret ?_)))))
  obtain rfl := so hh
  exact rq [2] ⟨z, z, z⟩
noncomputable def Ag_ (x0 : BSet) (k105 : Nat) : Option ((Nat) ⊕ (UInt8 × Bool)) :=
 iteO (decide (((k105 : Nat) : Int) < 4)) (grd (k105 < 4) (iteO (decide ((BSet.word x0 k105) ≠ 0)) (bnd (Ae_ (BSet.word x0 k105)) (fun v16 => fin (some ((toU8 (IntKind.i64.wrap ((IntKind.i64.wrap (64 * ((k105 : Nat) : Int))) + v16))), true)))) (nxt (k105 + 1)))) (fin (some ((0 : UInt8), false)))
noncomputable def B2_ (x0 : BSet) : Option (UInt8 × Bool) :=
 iter (fun q : Nat => Ag_ x0 q) 0
theorem G9_ {σ : Store} {x0 : BSet} (hgl : GT σ 1 encU8 deB) {r : UInt8 × Bool} (hh : B2_ x0 = some r) :
  Con Tryz.prog 68 #[setV x0] σ [] (PureP (.tuple #[.int .u8 ((r.1.toNat : Nat) : Int), .bool r.2]) σ) := by
 dsimp only [B2_] at hh
 refine Con.mk (n := 20) Tryz.func68 z z z (fun w0 => ?_)
 refine TC.a (TL.op z (boxA z z z z (fun b101 => ?_)))
 refine TL.i z z (TL.j z z (TL.en (TC.seq (TC.a (TL.w z (loadAll z ag57 sz57 z (i := 0) z z) (TL.i z z (TL.en (TC.block (TC.loopG (α := (Nat) × (Unit)) (rgs [(2, 4), (7, 13)]) (fun g => [(7, .int .i64 ((g.1 : Nat) : Int))]) (fun g => []) (fun g => σ) (fun g => iter (fun q : Nat => Ag_ x0 q) g.1 = some r) (fun g => rounds (fun q : Nat => Ag_ x0 q) g.1) (0, ()) (Sub.pre 0 z) z (by repeat (first | exact trivial | refine ⟨z, ?_⟩)) hh (fun g1 j1 hg1 => ?_))))))))))
 obtain ⟨k105, _⟩ := g1
 have hh := hg1; clear hg1
 try dsimp only
 obtain ⟨z1, hh, hR1⟩ := iter_e hh
 dsimp only [Ag_] at hh
 refine TC.a (TL.w z (OpVal.lss z z z) (TL.en (TC.seq (TC.cD z hh (fun h106 hh => ?_) (fun h106 hh => ?_)))))
 ·refine TC.skip (S.n (TC.seq (TC.block (TC.a (TL.i z z ?_)))))
  have u8 := grd_c hh
  replace hh := grd_t hh
  refine TL.w z (indexSet z underlying57 sz55 ag55 z z (by omega)) (TL.i z z (TL.i z z (TL.en (TC.a (TL.i z z (TL.w z (neqU z z z) (TL.en (TC.cD z hh (fun h107 hh => ?_) (fun h107 hh => ?_)))))))))
  ·refine TC.a (TL.i z z (TL.w z (mulW z z z) (TL.i z z ?_)))
   obtain ⟨v16, u16, hh⟩ := bnd_e hh
   refine TL.op z (callP (E8_ hgl u16) z z pf92 z z z ?_)
   refine TL.w z (addW z z z) (TL.w z (convU8 z underlying3 underlying5 z) (TL.i z z (TL.j z z (TL.en (TC.ret (B.r (S.r (S.r ?_))))))))
   replace hh := fin_x hR1 hh
   refine B.r (S.r ?_)
   obtain rfl := so hh
   exact rq [2, 3] ⟨z, z, z⟩
  ·refine TC.skip (B.n (S.n (TC.region (TL.w z (OpVal.succ z z z (by omega)) (TL.i z z (TL.en ?_))))))
   obtain ⟨hh, hlt108⟩ := nxt_x hR1 hh
   exact lf ((k105 + 1), ()) hlt108 hh (Sub.pre 0 z)
 ·refine TC.exit (S.x (S.x ?_))
  replace hh := fin_x hR1 hh
  refine TC.exitHere (S.n (TC.a (TL.i z z (TL.j z z (TL.en (TC.ret ?_))))))
  obtain rfl := so hh
  exact rq [2, 3] ⟨z, z, z⟩
noncomputable def Bs_ (x1 : BSet) (z111 : BSet) (k112 : Nat) : Option ((BSet × Nat) ⊕ (BSet)) :=
 iteO (decide (((k112 : Nat) : Int) < 4)) (grd (k112 < 4) (grd (k112 < 4) (grd (k112 < 4) (grd ((u64or (BSet.word z111 k112) (BSet.word x1 k112)) < 18446744073709551616) (nxt ((BSet.setWord z111 k112 (u64or (BSet.word z111 k112) (BSet.word x1 k112))), (k112 + 1))))))) (fin (some z111))
noncomputable def Eb_ (x0 : BSet) (x1 : BSet) : Option (BSet) :=
 iter (fun q : BSet × Nat => Bs_ x1 q.1 q.2) (x0, 0)
theorem Hk_ {σ : Store} {x0 : BSet} {x1 : BSet}  {r : BSet} (hh : Eb_ x0 x1 = some r) :
  Con Tryz.prog 67 #[setV x0, setV x1] σ [] (PureP (setV r) σ) := by
 dsimp only [Eb_] at hh
 refine Con.mk (n := 19) Tryz.func67 z z z (fun w0 => ?_)
 refine TC.a (TL.op z (boxA z z z z (fun b101 => ?_)))
 refine TL.op z (boxA z z z z (fun b103 => ?_))
 refine TL.op z (OpOk.alloc z ze57 z z (fun b105 => ?_))
 refine TL.en (TC.seq (TC.a (TL.i z z (TL.en (TC.block (TC.loopG (α := (BSet × Nat) × (Unit)) (rgs [(5, 13)]) (fun g => [(6, .int .i64 ((g.1.2 : Nat) : Int))]) (fun g => [Res.cells b101 (setA g.1.1) 57, Res.cells b103 (setA x1) 57, Res.cells b105 (setA BSet.zero) 57]) (fun g => σ) (fun g => iter (fun q : BSet × Nat => Bs_ x1 q.1 q.2) g.1 = some r) (fun g => rounds (fun q : BSet × Nat => Bs_ x1 q.1 q.2) g.1) ((x0, 0), ()) (Sub.f [1, 2] 3) z (by repeat (first | exact trivial | refine ⟨z, ?_⟩)) hh (fun g1 j1 hg1 => ?_)))))))
 obtain ⟨⟨z111, k112⟩, _⟩ := g1
 have hh := hg1; clear hg1
 try dsimp only
 obtain ⟨z1, hh, hR1⟩ := iter_e hh
 dsimp only [Bs_] at hh
 refine TC.a (TL.w z (OpVal.lss z z z) (TL.en (TC.seq (TC.cD z hh (fun h113 hh => ?_) (fun h113 hh => ?_)))))
 ·refine TC.skip (S.n (TC.seq (TC.block (TC.a (TL.i z z (TL.i z z (TL.en ?_)))))))
  have u9 := grd_c hh
  replace hh := grd_t hh
  have u12 := grd_c hh
  replace hh := grd_t hh
  have u15 := grd_c hh
  replace hh := grd_t hh
  have u16 := grd_c hh
  replace hh := grd_t hh
  refine TC.draw [8] (by kernel_rfl) (TA.a 0 z (moveI (.inl z) z) z (TA.b 1 z (indexArrN z underlying57 sz55 z z (by omega)) z (TA.b 2 z (loadWordAt z111 z ag55 z (j := 0) z (by omega) z) z (TA.a 3 z (moveI (.inl z) z) z (TA.b 4 z (indexArrN z underlying57 sz55 z z (by omega)) z (TA.b 5 z (loadWordAt x1 z ag55 z (j := 1) z (by omega) z) z (TA.a 6 z (orU z z z) z (TA.b 7 z (indexArrN z underlying57 sz55 z z (by omega)) z (TA.last 8 (by kernel_rfl) z z z (storeWord z sz55 z z z (by omega) u16 ?_))))))))))
  refine TZ.done (by kernel_rfl) (B.n (S.n (TC.region (TL.w z (OpVal.succ z z z (by omega)) (TL.i z z (TL.en ?_))))))
  obtain ⟨hh, hlt114⟩ := nxt_x hR1 hh
  exact lf (((BSet.setWord z111 k112 (u64or (BSet.word z111 k112) (BSet.word x1 k112))), (k112 + 1)), ()) hlt114 hh (Sub.f [2, 2, 2] 3)
 ·refine TC.exit (S.x (S.x ?_))
  replace hh := fin_x hR1 hh
  refine TC.exitHere (S.n (TC.a (TL.w z (loadAll z ag57 sz57 z (i := 0) z z) (TL.front 2 z z (TL.op z (storeAll z sz57 z z z z z z ?_))))))
  refine TL.en (TC.rt 1 ?_)
  obtain rfl := so hh
  exact ro [] z (RVs.agg ag57 sz57 z (i := 0) z z RVs.nil) ⟨z, z, z⟩
noncomputable def Cz_ (k112 : Nat) (l115 : List UInt8) : Option (((List UInt8) × Nat) ⊕ ((List UInt8))) :=
 nxt (l115, (k112 + 1))
noncomputable def Bf_ (x0 : List BSet) (x1 : UInt8) (l110 : List UInt8) (k112 : Nat) : Option (((List UInt8) × Nat) ⊕ ((List UInt8))) :=
 iteO (decide (((k112 : Nat) : Int) < ((x0.length : Nat) : Int))) (iteO ((nth x0 k112 BSet.zero).has x1.toNat) (grd (k112 < l110.length) (Cz_ k112 (l110.set k112 (1 : UInt8)))) (Cz_ k112 l110)) (fin (some l110))
noncomputable def En_ (x0 : List BSet) (x1 : UInt8) : Option ((List UInt8)) :=
 grd (1 * x0.length ≤ 281474976710656) (iter (fun q : (List UInt8) × Nat => Bf_ x0 x1 q.1 q.2) ((List.replicate x0.length (0 : UInt8)), 0))
theorem Ia_ {σ : Store} {x0 : List BSet} {a0_0 : Option Addr} {c0_0 : Nat} {x1 : UInt8} (f0_0 : RS σ 4 encSet (.slice a0_0 x0.length c0_0) x0) {r : (List UInt8)} (hh : En_ x0 x1 = some r) :
  Con Tryz.prog 66 #[.slice a0_0 x0.length c0_0, .int .u8 ((x1.toNat : Nat) : Int)] σ [] (PureP (.string (bs r)) σ) := by
 dsimp only [En_] at hh
 have f0_0b := f0_0.rv.big
 refine Con.mk (n := 27) Tryz.func66 z z z (fun w0 => ?_)
 refine TC.a (TL.w z (moveStr (.inr z) z) (TL.en (TC.a (TL.s z z (TL.w z (lenC z underlying80 z) ?_)))))
 have u4 := grd_c hh
 replace hh := grd_t hh
 refine TL.op z (makeS2 (enc := encU8) (0 : UInt8) z underlying105 sz5 by5 ze5 z z z z (by omega) (by decide) encU8_len (by decide) z encU8_one (fun a101 c102 => ?_))
 refine TL.s z z (TL.en (TC.seq (TC.a (TL.s z z (TL.w z (lenC z underlying80 z) (TL.i z z (TL.en (TC.block (TC.loopG (α := ((List UInt8) × Nat) × (Unit)) (rgs [(6, 2), (13, 12)]) (fun g => [(13, .int .i64 ((g.1.2 : Nat) : Int))]) (fun g => [Res.rowS 5 1 encU8 (.slice a101 (List.replicate x0.length (0 : UInt8)).length c102) g.1.1]) (fun g => σ) (fun g => iter (fun q : (List UInt8) × Nat => Bf_ x0 x1 q.1 q.2) g.1 = some r ∧ g.1.1.length = (List.replicate x0.length (0 : UInt8)).length) (fun g => rounds (fun q : (List UInt8) × Nat => Bf_ x0 x1 q.1 q.2) g.1) (((List.replicate x0.length (0 : UInt8)), 0), ()) (Sub.pre 1 z) z (by repeat (first | exact trivial | refine ⟨z, ?_⟩)) ⟨hh, z⟩ (fun g1 j1 hg1 => ?_))))))))))
 obtain ⟨⟨l110, k112⟩, _⟩ := g1
 obtain ⟨hh, hn111⟩ := hg1
 try dsimp only at hn111 ⊢
 obtain ⟨z1, hh, hR1⟩ := iter_e hh
 dsimp only [Bf_] at hh
 have hn111b := hn111
 refine TC.isSl (i := 0) z (fun _ hb113 _ => ?_)
 refine TC.a (TL.w z (OpVal.lss z z z) (TL.en (TC.seq (TC.cD z hh (fun h114 hh => ?_) (fun h114 hh => ?_)))))
 ·refine TC.skip (S.n (TC.cutG (α := ((List UInt8)) × (Unit)) (rgs [(6, 2), (15, 9)]) (fun g => []) (fun g => [Res.rowS 5 1 encU8 (.slice a101 (List.replicate x0.length (0 : UInt8)).length c102) g.1]) (fun g => σ) (fun g => Cz_ k112 g.1 = some z1 ∧ g.1.length = (List.replicate x0.length (0 : UInt8)).length) ?_ (fun g j hg => ?_)))
  ·skip
   refine TC.block (TC.a (TL.i z z (TL.w z (indexN z underlying80 sz57 z z f0_0.rv.sl (by omega)) (TL.w z (loadSA BSet.zero z ag57 sz57 z f0_0 (by omega) (by omega)) (TL.op z (OpOk.alloc z ze57 z z (fun b117 => ?_)))))))
   refine TL.i z z (TL.op z (storeAll z sz57 z z z z z z ?_))
   refine TL.en (TC.a (TL.w z (loadAll z ag57 sz57 z (i := 0) z z) (TL.i z z (TL.op z (callP (has_con _ (nth x0 k112 BSet.zero) x1.toNat (BSet.isOk _) (UInt8.toNat_lt _)) z z pf43 z z z ?_)))))
   refine TL.en (TC.cB z hh (fun h119 hh => ?_) (fun h119 hh => ?_))
   ·refine TC.region (TL.s z z (TL.i z z ?_))
    have u21 := grd_c hh
    replace hh := grd_t hh
    refine TL.isSl (i := 1) z (fun hs120 _ _ => ?_)
    refine TL.w z (indexN z underlying105 sz5 z z hs120 (by omega)) (TL.front 1 z z ?_)
    have hn121 : (l110.set k112 (1 : UInt8)).length = (List.replicate x0.length (0 : UInt8)).length := by rw [List.length_set]; exact hn111
    refine TL.op z (storeS (1 : UInt8) z sz5 z z z z encU8_len encU8_one (by omega) (by omega) ?_)
    exact TL.nil (B.n (S.n (cf ((l110.set k112 (1 : UInt8)), ()) ⟨hh, hn121⟩ (Sub.pre 1 z))))
   ·exact TC.skip (B.n (S.n (cf (l110, ()) ⟨hh, hn111⟩ (Sub.f [1] 1))))
  ·skip
   obtain ⟨l115, _⟩ := g
   obtain ⟨hh, hn116⟩ := hg
   try dsimp only at hn116 ⊢
   dsimp only [Cz_] at hh
   have hn116b := hn116
   refine TC.isSl (i := 0) z (fun _ hb122 _ => ?_)
   refine TC.region (TL.w z (OpVal.succ z z z (by omega)) (TL.i z z (TL.en ?_)))
   obtain ⟨hh, hlt123⟩ := nxt_x hR1 hh
   exact lf ((l115, (k112 + 1)), ()) hlt123 ⟨hh, hn116⟩ (Sub.pre 1 z)
 ·refine TC.exit (S.x (S.x ?_))
  replace hh := fin_x hR1 hh
  refine TC.exitHere (S.n (TC.a (TL.s z z (TL.isSl (i := 0) z (fun hs124 _ _ => ?_)))))
  refine TL.w z (bytesStr (l := l110) z underlying105 underlying5 underlying9 z hs124 (fun w hw => rdb_row (q := 0) z hw)) (TL.w z (moveStr (.inr z) z) (TL.en (TC.rt 0 ?_)))
  obtain rfl := so hh
  exact rq [4] ⟨z, z, z⟩
noncomputable def B1_ (k121 : Nat) (m125 : FM (List UInt8) Int) (l126 : List BSet) (i129 : Int) : Option (((FM (List UInt8) Int) × (List BSet) × Nat) ⊕ ((List BSet) × Int)) :=
 grd (0 ≤ i129 ∧ i129 < (l126.length : Int)) (grd ([(toU8 ((k121 : Nat) : Int))].length ≤ 1000000000000) (bnd (Eb_ (nth l126 i129.toNat BSet.zero) (BSet.ofL [(toU8 ((k121 : Nat) : Int))])) (fun v52 => grd (0 ≤ i129 ∧ i129 < (l126.length : Int)) (nxt (m125, (l126.set i129.toNat v52), (k121 + 1))))))
noncomputable def A0_ (x0 : List BSet) (m116 : FM (List UInt8) Int) (l118 : List BSet) (k121 : Nat) : Option (((FM (List UInt8) Int) × (List BSet) × Nat) ⊕ ((List BSet) × Int)) :=
 iteO (decide (((k121 : Nat) : Int) < 256)) (bnd (En_ x0 (toU8 ((k121 : Nat) : Int))) (fun v18 => iteO (!(m116.has v18)) (grd ((l118.length + [BSet.zero].length) * 32 ≤ 140737488355328) (B1_ k121 (m116.put v18 ((l118.length : Nat) : Int)) (l118 ++ [BSet.zero]) ((l118.length : Nat) : Int))) (B1_ k121 m116 l118 (m116.get v18 0)))) (fin (some (l118, 0)))
noncomputable def Dh_ (x0 : List BSet) : Option ((List BSet) × Int) :=
 iteO (decide (1024 < ((x0.length : Nat) : Int))) (some (([] : List BSet), 2)) (iter (fun q : (FM (List UInt8) Int) × (List BSet) × Nat => A0_ x0 q.1 q.2.1 q.2.2) ((FM.emp : FM (List UInt8) Int), ([] : List BSet), 0))
def Im_ (σ : Store) (r : (List BSet) × Int) : Value → Store → List Res → Prop := fun v σ' H' =>
 ∃ (a1 : Option Addr), ∃ (c1 : Nat),  v = .tuple #[.slice a1 r.1.length c1, .int .i64 r.2] ∧ RS σ' 4 encSet (.slice a1 r.1.length c1) r.1 ∧ H' = []
theorem Hx_ {σ : Store} {x0 : List BSet} {a0_0 : Option Addr} {c0_0 : Nat} (f0_0 : RS σ 4 encSet (.slice a0_0 x0.length c0_0) x0) {r : (List BSet) × Int} (hh : Dh_ x0 = some r) :
  Con Tryz.prog 28 #[.slice a0_0 x0.length c0_0] σ [] (Im_ σ r) := by
 dsimp only [Dh_] at hh
 have f0_0b := f0_0.rv.big
 refine Con.mk (n := 52) Tryz.func28 z z z (fun w0 => ?_)
 refine TC.a (TL.s z z (TL.i z z (TL.en (TC.seq (TC.a (TL.s z z (TL.w z (lenC z underlying80 z) (TL.w z (OpVal.gtr z z z) (TL.en (TC.cD z hh (fun h101 hh => ?_) (fun h101 hh => ?_)))))))))))
 ·refine TC.a (TL.s z z (TL.i z z (TL.en (TC.ret (S.r ?_)))))
  obtain rfl := so hh
  exact rq [2, 3] ⟨none, 0, z, (RS.nilF _ encSet encSet_len), z⟩
 ·refine TC.skip (S.n (TC.a (TL.op z (makeMapB (enc := keyS) (encV := keyI) z z z (fun b102 => ?_)))))
  refine TL.w z (moveMap (.inr z) z) (TL.en (TC.a (TL.s z z (TL.en (TC.seq (TC.a (TL.i z z (TL.en (TC.block (TC.nilS 57 4 encSet (TC.loopG (α := ((FM (List UInt8) Int) × (List BSet) × Nat) × ((Option Addr) × Nat)) (rgs [(5, 5), (14, 37)]) (fun g => [(5, .slice g.2.1 g.1.2.1.length g.2.2), (14, .int .i64 ((g.1.2.2 : Nat) : Int))]) (fun g => [Res.mapB keyS keyI (some b102) g.1.1, Res.rowS 57 4 encSet (.slice g.2.1 g.1.2.1.length g.2.2) g.1.2.1]) (fun g => σ) (fun g => iter (fun q : (FM (List UInt8) Int) × (List BSet) × Nat => A0_ x0 q.1 q.2.1 q.2.2) g.1 = some r) (fun g => rounds (fun q : (FM (List UInt8) Int) × (List BSet) × Nat => A0_ x0 q.1 q.2.1 q.2.2) g.1) (((FM.emp : FM (List UInt8) Int), ([] : List BSet), 0), (none, 0)) (Sub.f [1] 2) z (by repeat (first | exact trivial | refine ⟨z, ?_⟩)) hh (fun g1 j1 hg1 => ?_))))))))))))
  obtain ⟨⟨m116, l118, k121⟩, ⟨a119, c120⟩⟩ := g1
  have hh := hg1; clear hg1
  try dsimp only
  obtain ⟨z1, hh, hR1⟩ := iter_e hh
  dsimp only [A0_] at hh
  refine TC.isSl (i := 1) z (fun _ hb123 _ => ?_)
  refine TC.a (TL.w z (OpVal.lss z z z) (TL.en (TC.seq (TC.cD z hh (fun h124 hh => ?_) (fun h124 hh => ?_)))))
  ·refine TC.skip (S.n (TC.seq (TC.block (TC.a (TL.i z z (TL.i z z (TL.en (TC.a (TL.s z z (TL.i z z (TL.w z (convU8 z underlying3 underlying5 z) ?_)))))))))))
   obtain ⟨v18, u18, hh⟩ := bnd_e hh
   refine TL.op z (callP (Ia_ f0_0 u18) z z pf66 z z z ?_)
   refine TL.w z (moveStr (.inr z) z) (TL.en (TC.a (TL.w z (moveMap (.inl z) z) (TL.w z (moveStr (.inl z) z) (TL.w z (OpVal.of (lookB 0 (q := v18) z underlying130 ze3 z (i := 0) z z (keyL_str underlying9)) (v' := .tuple #[.int .i64 (m116.get v18 0), .bool (m116.has v18)]) z) (TL.w z (moveT (.inl z) z) (TL.w z (OpVal.extract z z z) (TL.w z (OpVal.extract z z z) (TL.i z z (TL.j z z (TL.en (TC.cutG (α := ((FM (List UInt8) Int) × (List BSet) × Int) × ((Option Addr) × Nat)) (rgs [(5, 1), (8, 1), (27, 11)]) (fun g => [(5, .slice g.2.1 g.1.2.1.length g.2.2), (8, .int .i64 g.1.2.2)]) (fun g => [Res.mapB keyS keyI (some b102) g.1.1, Res.rowS 57 4 encSet (.slice g.2.1 g.1.2.1.length g.2.2) g.1.2.1]) (fun g => σ) (fun g => B1_ k121 g.1.1 g.1.2.1 g.1.2.2 = some z1) ?_ (fun g j hg => ?_)))))))))))))
   ·skip
    refine TC.a (TL.j z z (TL.w z (OpVal.not z z) (TL.en (TC.cB z hh (fun h130 hh => ?_) (fun h130 hh => ?_)))))
    ·refine TC.a (TL.s z z (TL.w z (lenC z underlying80 z) (TL.i z z (TL.en (TC.a (TL.w z (moveMap (.inl z) z) (TL.w z (moveStr (.inl z) z) (TL.i z z (TL.op z (updB v18 ((l118.length : Nat) : Int) z underlying130 z z z z (keyL_str underlying9) ?_))))))))))
     refine TL.en (TC.region (TL.s z z (TL.w z (buildArrL z underlying57 sz55 ze57 z) (TL.op z (OpOk.lit (enc := encSet) [BSet.zero] z underlying80 sz57 ze57 z z z encSet_len (by decide) (by decide) BSet.zero z (by decide) z (by decide) encSet_one (fun a131 c132 => ?_))))))
     refine TL.front 2 z z ?_
     have u40 := grd_c hh
     replace hh := grd_t hh
     refine TL.op z (appendS z z underlying80 sz57 by57 ze57 z z (by decide) z z z (.inr ⟨_, 0, z⟩) (by simpa using u40) (by decide) (fun a134 c135 => ?_))
     exact TL.s z z (TL.en (cf (((m116.put v18 ((l118.length : Nat) : Int)), (l118 ++ [BSet.zero]), ((l118.length : Nat) : Int)), (a134, c135)) hh (Sub.f [2] 2)))
    ·exact TC.skip (S.n (cf ((m116, l118, (m116.get v18 0)), (a119, c120)) hh (Sub.f [1, 1] 2)))
   ·skip
    obtain ⟨⟨m125, l126, i129⟩, ⟨a127, c128⟩⟩ := g
    have hh := hg; clear hg
    try dsimp only
    dsimp only [B1_] at hh
    refine TC.isSl (i := 1) z (fun _ hb136 _ => ?_)
    have u46 := grd_c hh
    replace hh := grd_t hh
    have u51 := grd_c hh
    replace hh := grd_t hh
    obtain ⟨v52, u52, hh⟩ := bnd_e hh
    have u53 := grd_c hh
    replace hh := grd_t hh
    refine TC.draw [12] (by kernel_rfl) (TA.a 0 z (moveSl (.inl z) z) z (TA.a 1 z (moveI (.inl z) z) z (TA.a 2 z (moveSl (.inl z) z) z (TA.a 3 z (moveI (.inl z) z) z (TA.isSl (i := 1) z (fun hs143 _ _ => ?_))))))
    refine TA.b 4 z (OpVal.index z underlying80 sz57 z z hs143 u46.1 u46.2) z (TA.b 5 z (loadOA BSet.zero z ag57 sz57 z (q := 1) z encSet_len (by omega) (by omega)) z (TA.a 6 z (moveI (.inl z) z) z (TA.a 7 z (convU8 z underlying3 underlying5 z) z (TA.ac 8 z (OpOk.lit (enc := encU8) [(toU8 ((k121 : Nat) : Int))] z underlying105 sz5 ze5 z z z encU8_len (by decide) (by decide) (0 : UInt8) z (by decide) z (by decide) encU8_one (fun a144 c145 => (k1 ?_)))))))
    refine TA.ac 9 z (callT (of_con _ _ _ [(toU8 ((k121 : Nat) : Int))] u51) z z pf20 z z z z (k0 ?_))
    refine TA.ac 10 z (callP (Hk_ u52) z z pf67 z z z (k0 ?_))
    refine TA.isSl (i := 1) z (fun hs147 _ _ => ?_)
    refine TA.b 11 z (OpVal.index z underlying80 sz57 z z hs147 u53.1 u53.2) z (TA.front 1 z z ?_)
    have hn148 : (l126.set i129.toNat v52).length = l126.length := by rw [List.length_set]
    refine TA.last 12 (by kernel_rfl) z z z (storeS v52 z sz57 z z z z encSet_len encSet_one (by omega) (by omega) ?_)
    refine TZ.done (by kernel_rfl) (B.n (S.n (TC.region (TL.w z (OpVal.succ z z z (by omega)) (TL.i z z ?_)))))
    rw [← hn148]
    refine TL.en ?_
    obtain ⟨hh, hlt149⟩ := nxt_x hR1 hh
    exact lf ((m125, (l126.set i129.toNat v52), (k121 + 1)), (a127, c128)) hlt149 hh (Sub.f [1] 2)
  ·refine TC.exit (S.x (S.x ?_))
   replace hh := fin_x hR1 hh
   refine TC.exitHere (S.n (TC.a (TL.s z z (TL.s z z (TL.i z z (TL.en (TC.front 1 z z (TC.sealS encSet_len (fun τ152 hle151 hr150 => ?_)))))))))
   have hr150b := hr150.rv.big
   refine TC.rt 0 ?_
   obtain rfl := so hh
   exact rq [2, 3] ⟨a119, c120, z, hr150, z⟩
noncomputable def Ca_ (k146 : Nat) (l149 : List Int) : Option (((List Int) × Nat) ⊕ (((List Int) × Int × Nat) ⊕ ((List Int) × Int))) :=
 nxt (l149, (k146 + 1))
noncomputable def Ai_ (x0 : List BSet) (k130 : Nat) (v29 : UInt8 × Bool) (l144 : List Int) (k146 : Nat) : Option (((List Int) × Nat) ⊕ (((List Int) × Int × Nat) ⊕ ((List Int) × Int))) :=
 iteO (decide (((k146 : Nat) : Int) < 256)) (iteO (!((nth x0 k130 BSet.zero).has (toU8 ((k146 : Nat) : Int)).toNat)) (Ca_ k146 l144) (grd (k146 < l144.length) (iteO (decide (0 ≤ (nth l144 k146 (0 : Int)))) (fin (fin (some (([] : List Int), 1)))) (grd (k146 < l144.length) (Ca_ k146 (l144.set k146 ((k130 : Nat) : Int))))))) (fin (nxt (l144, ((v29.1.toNat : Nat) : Int), (k130 + 1))))
noncomputable def Ak_ (l127 : List Int) (k165 : Nat) : Option ((Nat) ⊕ ((List Int) × Int)) :=
 iteO (decide (((k165 : Nat) : Int) < (((List.replicate 256 (0 : Int)).length : Nat) : Int))) (grd (k165 < l127.length) (iteO (decide ((nth l127 k165 (0 : Int)) < 0)) (fin (some (([] : List Int), 1))) (nxt (k165 + 1)))) (fin (some (l127, 0)))
noncomputable def Ah_ (x0 : List BSet) (l127 : List Int) (i129 : Int) (k130 : Nat) : Option (((List Int) × Int × Nat) ⊕ ((List Int) × Int)) :=
 iteO (decide (((k130 : Nat) : Int) < ((x0.length : Nat) : Int))) (bnd (B2_ (nth x0 k130 BSet.zero)) (fun v29 => iteO (!v29.2) (fin (some (([] : List Int), 1))) (iteO (decide (((v29.1.toNat : Nat) : Int) ≤ i129)) (fin (some (([] : List Int), 1))) (iter (fun q : (List Int) × Nat => Ai_ x0 k130 v29 q.1 q.2) (l127, 0))))) (fin (iter (fun q : Nat => Ak_ l127 q) 0))
noncomputable def A5_ (x0 : List BSet) (l110 : List Int) (k112 : Nat) : Option (((List Int) × Nat) ⊕ ((List Int) × Int)) :=
 iteO (decide (((k112 : Nat) : Int) < (((List.replicate 256 (0 : Int)).length : Nat) : Int))) (grd (k112 < l110.length) (nxt ((l110.set k112 (-1)), (k112 + 1)))) (fin (iter (fun q : (List Int) × Int × Nat => Ah_ x0 q.1 q.2.1 q.2.2) (l110, (-1), 0)))
noncomputable def Df_ (x0 : List BSet) : Option ((List Int) × Int) :=
 iter (fun q : (List Int) × Nat => A5_ x0 q.1 q.2) ((List.replicate 256 (0 : Int)), 0)
def Ik_ (σ : Store) (r : (List Int) × Int) : Value → Store → List Res → Prop := fun v σ' H' =>
 ∃ (a1 : Option Addr), ∃ (c1 : Nat),  v = .tuple #[.slice a1 r.1.length c1, .int .i64 r.2] ∧ RS σ' 1 Go.E.encI (.slice a1 r.1.length c1) r.1 ∧ H' = []
theorem Ht_ {σ : Store} {x0 : List BSet} {a0_0 : Option Addr} {c0_0 : Nat} (hgl : GT σ 1 encU8 deB) (f0_0 : RS σ 4 encSet (.slice a0_0 x0.length c0_0) x0) {r : (List Int) × Int} (hh : Df_ x0 = some r) :
  Con Tryz.prog 30 #[.slice a0_0 x0.length c0_0] σ [] (Ik_ σ r) := by
 dsimp only [Df_] at hh
 have f0_0b := f0_0.rv.big
 refine Con.mk (n := 75) Tryz.func30 z z z (fun w0 => ?_)
 refine TC.a (TL.s z z (TL.i z z (TL.en (TC.a (TL.op z (makeS2 (m := 256) (enc := Go.E.encI) (0 : Int) z underlying27 sz3 by3 ze3 z z z z (by omega) (by decide) Go.E.encI_len (by decide) z Go.E.encI_one (fun a101 c102 => ?_)))))))
 refine TL.s z z (TL.en (TC.seq (TC.a (TL.s z z (TL.w z (lenC z underlying27 z) (TL.i z z (TL.en (TC.block (TC.loopG (α := ((List Int) × Nat) × (Unit)) (rgs [(5, 1), (17, 7)]) (fun g => [(17, .int .i64 ((g.1.2 : Nat) : Int))]) (fun g => [Res.rowS 3 1 Go.E.encI (.slice a101 (List.replicate 256 (0 : Int)).length c102) g.1.1]) (fun g => σ) (fun g => iter (fun q : (List Int) × Nat => A5_ x0 q.1 q.2) g.1 = some r ∧ g.1.1.length = (List.replicate 256 (0 : Int)).length) (fun g => rounds (fun q : (List Int) × Nat => A5_ x0 q.1 q.2) g.1) (((List.replicate 256 (0 : Int)), 0), ()) (Sub.pre 1 z) z (by repeat (first | exact trivial | refine ⟨z, ?_⟩)) ⟨hh, z⟩ (fun g1 j1 hg1 => ?_))))))))))
 obtain ⟨⟨l110, k112⟩, _⟩ := g1
 obtain ⟨hh, hn111⟩ := hg1
 try dsimp only at hn111 ⊢
 obtain ⟨z1, hh, hR1⟩ := iter_e hh
 dsimp only [A5_] at hh
 have hn111b := hn111
 refine TC.isSl (i := 0) z (fun _ hb113 _ => ?_)
 refine TC.a (TL.w z (OpVal.lss z z z) (TL.en (TC.seq (TC.cD z hh (fun h114 hh => ?_) (fun h114 hh => ?_)))))
 ·refine TC.skip (S.n (TC.seq (TC.block (TC.a (TL.i z z (TL.i z z (TL.en (TC.region (TL.s z z (TL.i z z ?_))))))))))
  have u13 := grd_c hh
  replace hh := grd_t hh
  refine TL.isSl (i := 0) z (fun hs115 _ _ => ?_)
  refine TL.w z (indexN z underlying27 sz3 z z hs115 (by omega)) ?_
  have hn116 : (l110.set k112 (-1)).length = (List.replicate 256 (0 : Int)).length := by rw [List.length_set]; exact hn111
  refine TL.op z (storeS (-1) z sz3 z z z z Go.E.encI_len Go.E.encI_one (by omega) (by omega) ?_)
  refine TL.nil (B.n (S.n (TC.region (TL.w z (OpVal.succ z z z (by omega)) (TL.i z z (TL.en ?_))))))
  obtain ⟨hh, hlt117⟩ := nxt_x hR1 hh
  exact lf (((l110.set k112 (-1)), (k112 + 1)), ()) hlt117 ⟨hh, hn116⟩ (Sub.pre 1 z)
 ·refine TC.exit (S.x (S.x ?_))
  replace hh := fin_x hR1 hh
  refine TC.exitHere (S.n (TC.a (TL.i z z (TL.en (TC.seq (TC.a (TL.s z z (TL.w z (lenC z underlying80 z) (TL.i z z (TL.en (TC.block (TC.loopG (α := ((List Int) × Int × Nat) × (Unit)) (rgs [(2, 2), (6, 6), (26, 39)]) (fun g => [(6, .int .i64 g.1.2.1), (26, .int .i64 ((g.1.2.2 : Nat) : Int))]) (fun g => [Res.rowS 3 1 Go.E.encI (.slice a101 (List.replicate 256 (0 : Int)).length c102) g.1.1]) (fun g => σ) (fun g => iter (fun q : (List Int) × Int × Nat => Ah_ x0 q.1 q.2.1 q.2.2) g.1 = some r ∧ g.1.1.length = (List.replicate 256 (0 : Int)).length) (fun g => rounds (fun q : (List Int) × Int × Nat => Ah_ x0 q.1 q.2.1 q.2.2) g.1) ((l110, (-1), 0), ()) (Sub.pre 1 z) z (by repeat (first | exact trivial | refine ⟨z, ?_⟩)) ⟨hh, hn111⟩ (fun g2 j2 hg2 => ?_)))))))))))))
  obtain ⟨⟨l127, i129, k130⟩, _⟩ := g2
  obtain ⟨hh, hn128⟩ := hg2
  try dsimp only at hn128 ⊢
  obtain ⟨z1, hh, hR1⟩ := iter_e hh
  dsimp only [Ah_] at hh
  have hn128b := hn128
  refine TC.isSl (i := 0) z (fun _ hb131 _ => ?_)
  refine TC.a (TL.w z (OpVal.lss z z z) (TL.en (TC.seq (TC.cD z hh (fun h132 hh => ?_) (fun h132 hh => ?_)))))
  ·refine TC.skip (S.n (TC.seq (TC.block (TC.a (TL.i z z (TL.w z (indexN z underlying80 sz57 z z f0_0.rv.sl (by omega)) (TL.w z (loadSA BSet.zero z ag57 sz57 z f0_0 (by omega) (by omega)) (TL.op z (OpOk.alloc z ze57 z z (fun b133 => ?_))))))))))
   refine TL.i z z (TL.op z (storeAll z sz57 z z z z z z ?_))
   refine TL.en (TC.a (TL.w z (loadAll z ag57 sz57 z (i := 0) z z) ?_))
   obtain ⟨v29, u29, hh⟩ := bnd_e hh
   refine TL.op z (callP (G9_ hgl u29) z z pf68 z z z ?_)
   refine TL.w z (moveT (.inl z) z) (TL.w z (OpVal.extract z z z) (TL.w z (OpVal.extract z z z) (TL.i z z (TL.j z z (TL.en (TC.seq (TC.a (TL.j z z (TL.w z (OpVal.not z z) (TL.j z z (TL.split 38 z (fun h135 => ?_) (fun h135 => ?_))))))))))))
   ·replace hh := iteO_t h135 hh
    refine TL.f z (TL.f z (TL.f z (TL.f z (TL.w z (pickTB z z z) (TL.en (TC.t z (TC.a (TL.s z z (TL.i z z (TL.en (TC.rt 0 (S.r (B.r (S.r (S.r ?_)))))))))))))))
    replace hh := fin_x hR1 hh
    refine B.r (S.r ?_)
    obtain rfl := so hh
    exact rq [2, 3] ⟨none, 0, z, (RS.nilF _ Go.E.encI Go.E.encI_len), z⟩
   ·replace hh := iteO_f h135 hh
    refine TL.g z (moveI (.inl z) z) (TL.g z (convN z underlying5 underlying3 z (by have := UInt8.toNat_lt v29.1; simp only [kmax]; omega)) (TL.g z (moveI (.inl z) z) (TL.g z (OpVal.leq z z z) (TL.w z (pickFB z z z) (TL.en (TC.cD z hh (fun h136 hh => ?_) (fun h136 hh => ?_)))))))
    ·refine TC.a (TL.s z z (TL.i z z (TL.en (TC.rt 0 (S.r (B.r (S.r (S.r ?_))))))))
     replace hh := fin_x hR1 hh
     refine B.r (S.r ?_)
     obtain rfl := so hh
     exact rq [2, 3] ⟨none, 0, z, (RS.nilF _ Go.E.encI Go.E.encI_len), z⟩
    ·refine TC.skip (S.n (TC.a (TL.i z z (TL.w z (convN z underlying5 underlying3 z (by have := UInt8.toNat_lt v29.1; simp only [kmax]; omega)) (TL.i z z (TL.en (TC.a (TL.i z z (TL.en (TC.block (TC.loopG (α := ((List Int) × Nat) × (Unit)) (rgs [(2, 2), (11, 1), (46, 18)]) (fun g => [(46, .int .i64 ((g.1.2 : Nat) : Int))]) (fun g => [Res.rowS 3 1 Go.E.encI (.slice a101 (List.replicate 256 (0 : Int)).length c102) g.1.1, Res.cells b133 (setA (nth x0 k130 BSet.zero)) 57]) (fun g => σ) (fun g => iter (fun q : (List Int) × Nat => Ai_ x0 k130 v29 q.1 q.2) g.1 = some z1 ∧ g.1.1.length = (List.replicate 256 (0 : Int)).length) (fun g => rounds (fun q : (List Int) × Nat => Ai_ x0 k130 v29 q.1 q.2) g.1) ((l127, 0), ()) (Sub.f [1] 2) z (by repeat (first | exact trivial | refine ⟨z, ?_⟩)) ⟨hh, hn128⟩ (fun g3 j3 hg3 => ?_))))))))))))
     obtain ⟨⟨l144, k146⟩, _⟩ := g3
     obtain ⟨hh, hn145⟩ := hg3
     try dsimp only at hn145 ⊢
     obtain ⟨z2, hh, hR2⟩ := iter_e hh
     dsimp only [Ai_] at hh
     have hn145b := hn145
     refine TC.isSl (i := 0) z (fun _ hb147 _ => ?_)
     refine TC.a (TL.w z (OpVal.lss z z z) (TL.en (TC.seq (TC.cD z hh (fun h148 hh => ?_) (fun h148 hh => ?_)))))
     ·refine TC.skip (S.n (TC.cutG (α := ((List Int)) × (Unit)) (rgs [(2, 2), (11, 1), (48, 15)]) (fun g => []) (fun g => [Res.rowS 3 1 Go.E.encI (.slice a101 (List.replicate 256 (0 : Int)).length c102) g.1, Res.cells b133 (setA (nth x0 k130 BSet.zero)) 57]) (fun g => σ) (fun g => Ca_ k146 g.1 = some z2 ∧ g.1.length = (List.replicate 256 (0 : Int)).length) ?_ (fun g j hg => ?_)))
      ·skip
       refine TC.block (TC.a (TL.i z z (TL.i z z (TL.en (TC.seq (TC.a (TL.w z (loadAll z ag57 sz57 z (i := 1) z z) (TL.i z z (TL.w z (convU8 z underlying3 underlying5 z) (TL.op z (callP (has_con _ (nth x0 k130 BSet.zero) (toU8 ((k146 : Nat) : Int)).toNat (BSet.isOk _) (UInt8.toNat_lt _)) z z pf43 z z z ?_)))))))))))
       refine TL.w z (OpVal.not z z) (TL.en (TC.cB z hh (fun h151 hh => ?_) (fun h151 hh => ?_)))
       ·exact TC.exit (S.x (TC.exitHere (S.n (cf (l144, ()) ⟨hh, hn145⟩ (Sub.f [1, 1] 2)))))
       ·refine TC.skip (S.n (TC.seq (TC.a (TL.s z z (TL.i z z ?_)))))
        have u59 := grd_c hh
        replace hh := grd_t hh
        refine TL.isSl (i := 0) z (fun hs152 _ _ => ?_)
        refine TL.w z (indexN z underlying27 sz3 z z hs152 (by omega)) (TL.w z (loadO1 (0 : Int) z ag3 z (q := 0) z Go.E.encI_len (by omega) z) (TL.w z (OpVal.geq z z z) (TL.en (TC.cD z hh (fun h153 hh => ?_) (fun h153 hh => ?_)))))
        ·refine TC.a (TL.s z z (TL.i z z (TL.en (TC.rt 0 (S.r (B.r (S.r (S.r ?_))))))))
         replace hh := fin_x hR2 hh
         refine B.r (B.r (S.r (S.r ?_)))
         replace hh := fin_x hR1 hh
         refine B.r (S.r ?_)
         obtain rfl := so hh
         exact rq [2, 3] ⟨none, 0, z, (RS.nilF _ Go.E.encI Go.E.encI_len), z⟩
        ·refine TC.skip (S.n (TC.region (TL.s z z (TL.i z z (TL.i z z ?_)))))
         have u67 := grd_c hh
         replace hh := grd_t hh
         refine TL.isSl (i := 0) z (fun hs154 _ _ => ?_)
         refine TL.w z (indexN z underlying27 sz3 z z hs154 (by omega)) ?_
         have hn155 : (l144.set k146 ((k130 : Nat) : Int)).length = (List.replicate 256 (0 : Int)).length := by rw [List.length_set]; exact hn145
         refine TL.op z (storeS ((k130 : Nat) : Int) z sz3 z z z z Go.E.encI_len Go.E.encI_one (by omega) (by omega) ?_)
         exact TL.nil (B.n (S.n (cf ((l144.set k146 ((k130 : Nat) : Int)), ()) ⟨hh, hn155⟩ (Sub.f [1, 1] 2))))
      ·skip
       obtain ⟨l149, _⟩ := g
       obtain ⟨hh, hn150⟩ := hg
       try dsimp only at hn150 ⊢
       dsimp only [Ca_] at hh
       have hn150b := hn150
       refine TC.isSl (i := 0) z (fun _ hb156 _ => ?_)
       refine TC.region (TL.w z (OpVal.succ z z z (by omega)) (TL.i z z (TL.en ?_)))
       obtain ⟨hh, hlt157⟩ := nxt_x hR2 hh
       exact lf ((l149, (k146 + 1)), ()) hlt157 ⟨hh, hn150⟩ (Sub.f [1, 1] 2)
     ·refine TC.exit (S.x (S.x ?_))
      replace hh := fin_x hR2 hh
      refine TC.exitHere (B.n (S.n (TC.region (TL.w z (OpVal.succ z z z (by omega)) (TL.i z z (TL.en ?_))))))
      obtain ⟨hh, hlt158⟩ := nxt_x hR1 hh
      exact lf ((l144, ((v29.1.toNat : Nat) : Int), (k130 + 1)), ()) hlt158 ⟨hh, hn145⟩ (Sub.pre 1 z)
  ·refine TC.exit (S.x (S.x ?_))
   replace hh := fin_x hR1 hh
   refine TC.exitHere (S.n (TC.seq (TC.a (TL.s z z (TL.w z (lenC z underlying27 z) (TL.i z z (TL.en (TC.block (TC.loopG (α := (Nat) × (Unit)) (rgs [(2, 2), (13, 1), (67, 7)]) (fun g => [(67, .int .i64 ((g.1 : Nat) : Int))]) (fun g => [Res.rowS 3 1 Go.E.encI (.slice a101 (List.replicate 256 (0 : Int)).length c102) l127]) (fun g => σ) (fun g => iter (fun q : Nat => Ak_ l127 q) g.1 = some r ∧ l127.length = (List.replicate 256 (0 : Int)).length) (fun g => rounds (fun q : Nat => Ak_ l127 q) g.1) (0, ()) (Sub.pre 1 z) z (by repeat (first | exact trivial | refine ⟨z, ?_⟩)) ⟨hh, hn128⟩ (fun g4 j4 hg4 => ?_))))))))))
   obtain ⟨k165, _⟩ := g4
   obtain ⟨hh, hn164⟩ := hg4
   try dsimp only at hn164 ⊢
   obtain ⟨z1, hh, hR1⟩ := iter_e hh
   dsimp only [Ak_] at hh
   have hn164b := hn164
   refine TC.isSl (i := 0) z (fun _ hb166 _ => ?_)
   refine TC.a (TL.w z (OpVal.lss z z z) (TL.en (TC.seq (TC.cD z hh (fun h167 hh => ?_) (fun h167 hh => ?_)))))
   ·refine TC.skip (S.n (TC.seq (TC.block (TC.a ?_))))
    have u77 := grd_c hh
    replace hh := grd_t hh
    refine TL.isSl (i := 0) z (fun hs168 _ _ => ?_)
    refine TL.w z (indexN z underlying27 sz3 z z hs168 (by omega)) (TL.w z (loadO1 (0 : Int) z ag3 z (q := 0) z Go.E.encI_len (by omega) z) (TL.i z z (TL.en (TC.a (TL.i z z (TL.w z (OpVal.lss z z z) (TL.en (TC.cD z hh (fun h169 hh => ?_) (fun h169 hh => ?_)))))))))
    ·refine TC.a (TL.s z z (TL.i z z (TL.en (TC.rt 0 (B.r (S.r (S.r ?_)))))))
     replace hh := fin_x hR1 hh
     refine B.r (S.r ?_)
     obtain rfl := so hh
     exact rq [2, 3] ⟨none, 0, z, (RS.nilF _ Go.E.encI Go.E.encI_len), z⟩
    ·refine TC.skip (B.n (S.n (TC.region (TL.w z (OpVal.succ z z z (by omega)) (TL.i z z (TL.en ?_))))))
     obtain ⟨hh, hlt170⟩ := nxt_x hR1 hh
     exact lf ((k165 + 1), ()) hlt170 ⟨hh, hn164⟩ (Sub.pre 1 z)
   ·refine TC.exit (S.x (S.x ?_))
    replace hh := fin_x hR1 hh
    refine TC.exitHere (S.n (TC.a (TL.s z z (TL.s z z (TL.i z z (TL.en ?_))))))
    rw [← hn164]
    refine TC.sealS Go.E.encI_len (fun τ173 hle172 hr171 => ?_)
    have hr171b := hr171.rv.big
    refine TC.ret ?_
    obtain rfl := so hh
    exact rq [2, 3] ⟨a101, c102, z, hr171, z⟩
noncomputable def B6_ (x0 : List Int) (k116 : Nat) (l122 : List BSet) : Option (((List BSet) × Nat) ⊕ ((List BSet) × Int)) :=
 grd (0 ≤ (nth x0 k116 (0 : Int)) ∧ (nth x0 k116 (0 : Int)) < (l122.length : Int)) (grd ([(toU8 ((k116 : Nat) : Int))].length ≤ 1000000000000) (bnd (Eb_ (nth l122 ((nth x0 k116 (0 : Int)).toNat) BSet.zero) (BSet.ofL [(toU8 ((k116 : Nat) : Int))])) (fun v47 => grd (0 ≤ (nth x0 k116 (0 : Int)) ∧ (nth x0 k116 (0 : Int)) < (l122.length : Int)) (nxt ((l122.set ((nth x0 k116 (0 : Int)).toNat) v47), (k116 + 1))))))
noncomputable def Ax_ (x0 : List Int) (l113 : List BSet) (k116 : Nat) : Option (((List BSet) × Nat) ⊕ ((List BSet) × Int)) :=
 iteO (decide (((k116 : Nat) : Int) < ((x0.length : Nat) : Int))) (iteO (decide ((nth x0 k116 (0 : Int)) < 0)) (fin (some (([] : List BSet), 1))) (iteO (decide (((l113.length : Nat) : Int) < (nth x0 k116 (0 : Int)))) (fin (some (([] : List BSet), 1))) (iteO (decide ((nth x0 k116 (0 : Int)) = ((l113.length : Nat) : Int))) (grd ((l113.length + [BSet.zero].length) * 32 ≤ 140737488355328) (B6_ x0 k116 (l113 ++ [BSet.zero]))) (B6_ x0 k116 l113)))) (fin (some (l113, 0)))
noncomputable def Da_ (x0 : List Int) : Option ((List BSet) × Int) :=
 iteO (decide (((x0.length : Nat) : Int) ≠ 256)) (some (([] : List BSet), 1)) (iter (fun q : (List BSet) × Nat => Ax_ x0 q.1 q.2) (([] : List BSet), 0))
def Iq_ (σ : Store) (r : (List BSet) × Int) : Value → Store → List Res → Prop := fun v σ' H' =>
 ∃ (a1 : Option Addr), ∃ (c1 : Nat),  v = .tuple #[.slice a1 r.1.length c1, .int .i64 r.2] ∧ RS σ' 4 encSet (.slice a1 r.1.length c1) r.1 ∧ H' = []
theorem H6_ {σ : Store} {x0 : List Int} {a0_0 : Option Addr} {c0_0 : Nat} (f0_0 : RS σ 1 Go.E.encI (.slice a0_0 x0.length c0_0) x0) {r : (List BSet) × Int} (hh : Da_ x0 = some r) :
  Con Tryz.prog 74 #[.slice a0_0 x0.length c0_0] σ [] (Iq_ σ r) := by
 dsimp only [Da_] at hh
 have f0_0b := f0_0.rv.big
 refine Con.mk (n := 47) Tryz.func74 z z z (fun w0 => ?_)
 refine TC.a (TL.s z z (TL.i z z (TL.en (TC.seq (TC.a (TL.s z z (TL.w z (lenC z underlying27 z) (TL.w z (OpVal.neq z z z) (TL.en (TC.cD z hh (fun h101 hh => ?_) (fun h101 hh => ?_)))))))))))
 ·refine TC.a (TL.s z z (TL.i z z (TL.en (TC.ret (S.r ?_)))))
  obtain rfl := so hh
  exact rq [2, 3] ⟨none, 0, z, (RS.nilF _ encSet encSet_len), z⟩
 ·refine TC.skip (S.n (TC.a (TL.s z z (TL.en (TC.seq (TC.a (TL.s z z (TL.w z (lenC z underlying27 z) (TL.i z z (TL.en (TC.block (TC.nilS 57 4 encSet (TC.loopG (α := ((List BSet) × Nat) × ((Option Addr) × Nat)) (rgs [(2, 5), (12, 34)]) (fun g => [(4, .slice g.2.1 g.1.1.length g.2.2), (12, .int .i64 ((g.1.2 : Nat) : Int))]) (fun g => [Res.rowS 57 4 encSet (.slice g.2.1 g.1.1.length g.2.2) g.1.1]) (fun g => σ) (fun g => iter (fun q : (List BSet) × Nat => Ax_ x0 q.1 q.2) g.1 = some r) (fun g => rounds (fun q : (List BSet) × Nat => Ax_ x0 q.1 q.2) g.1) ((([] : List BSet), 0), (none, 0)) (Sub.pre 1 z) z (by repeat (first | exact trivial | refine ⟨z, ?_⟩)) hh (fun g1 j1 hg1 => ?_))))))))))))))
  obtain ⟨⟨l113, k116⟩, ⟨a114, c115⟩⟩ := g1
  have hh := hg1; clear hg1
  try dsimp only
  obtain ⟨z1, hh, hR1⟩ := iter_e hh
  dsimp only [Ax_] at hh
  refine TC.isSl (i := 0) z (fun _ hb118 _ => ?_)
  refine TC.a (TL.w z (OpVal.lss z z z) (TL.en (TC.seq (TC.cD z hh (fun h119 hh => ?_) (fun h119 hh => ?_)))))
  ·refine TC.skip (S.n (TC.seq (TC.block (TC.a (TL.i z z (TL.w z (indexN z underlying27 sz3 z z f0_0.rv.sl (by omega)) (TL.w z (loadS1 (0 : Int) z ag3 z f0_0 (by omega) z) (TL.i z z (TL.i z z (TL.en (TC.seq (TC.a (TL.i z z (TL.w z (OpVal.lss z z z) (TL.j z z (TL.split 19 z (fun h120 => ?_) (fun h120 => ?_)))))))))))))))))
   ·replace hh := iteO_t h120 hh
    replace h120 := of_decide_eq_true h120
    refine TL.f z (TL.f z (TL.f z (TL.f z (TL.w z (pickTB z z z) (TL.en (TC.t z (TC.a (TL.s z z (TL.i z z (TL.en (TC.rt 0 (S.r (B.r (S.r (S.r ?_)))))))))))))))
    replace hh := fin_x hR1 hh
    refine B.r (S.r ?_)
    obtain rfl := so hh
    exact rq [2, 3] ⟨none, 0, z, (RS.nilF _ encSet encSet_len), z⟩
   ·replace hh := iteO_f h120 hh
    replace h120 := of_decide_eq_false h120
    refine TL.g z (moveI (.inl z) z) (TL.g z (moveSl (.inl z) z) (TL.g z (lenC z underlying80 z) (TL.g z (OpVal.gtr z z z) (TL.w z (pickFB z z z) (TL.en (TC.cD z hh (fun h121 hh => ?_) (fun h121 hh => ?_)))))))
    ·refine TC.a (TL.s z z (TL.i z z (TL.en (TC.rt 0 (S.r (B.r (S.r (S.r ?_))))))))
     replace hh := fin_x hR1 hh
     refine B.r (S.r ?_)
     obtain rfl := so hh
     exact rq [2, 3] ⟨none, 0, z, (RS.nilF _ encSet encSet_len), z⟩
    ·refine TC.skip (S.n (TC.cutG (α := ((List BSet)) × ((Option Addr) × Nat)) (rgs [(4, 1), (25, 8)]) (fun g => [(4, .slice g.2.1 g.1.length g.2.2)]) (fun g => [Res.rowS 57 4 encSet (.slice g.2.1 g.1.length g.2.2) g.1]) (fun g => σ) (fun g => B6_ x0 k116 g.1 = some z1) ?_ (fun g j hg => ?_)))
     ·skip
      refine TC.a (TL.i z z (TL.s z z (TL.w z (lenC z underlying80 z) (TL.w z (OpVal.eql z z z) (TL.en (TC.cD z hh (fun h125 hh => ?_) (fun h125 hh => ?_)))))))
      ·refine TC.region (TL.s z z (TL.w z (buildArrL z underlying57 sz55 ze57 z) (TL.op z (OpOk.lit (enc := encSet) [BSet.zero] z underlying80 sz57 ze57 z z z encSet_len (by decide) (by decide) BSet.zero z (by decide) z (by decide) encSet_one (fun a126 c127 => ?_)))))
       refine TL.front 1 z z ?_
       have u35 := grd_c hh
       replace hh := grd_t hh
       refine TL.op z (appendS z z underlying80 sz57 by57 ze57 z z (by decide) z z z (.inr ⟨_, 0, z⟩) (by simpa using u35) (by decide) (fun a129 c130 => ?_))
       exact TL.s z z (TL.en (cf ((l113 ++ [BSet.zero]), (a129, c130)) hh (Sub.pre 1 z)))
      ·exact TC.skip (S.n (cf (l113, (a114, c115)) hh (Sub.pre 1 z)))
     ·skip
      obtain ⟨l122, ⟨a123, c124⟩⟩ := g
      have hh := hg; clear hg
      try dsimp only
      dsimp only [B6_] at hh
      refine TC.isSl (i := 0) z (fun _ hb131 _ => ?_)
      have u41 := grd_c hh
      replace hh := grd_t hh
      have u46 := grd_c hh
      replace hh := grd_t hh
      obtain ⟨v47, u47, hh⟩ := bnd_e hh
      have u48 := grd_c hh
      replace hh := grd_t hh
      refine TC.draw [12] (by kernel_rfl) (TA.a 0 z (moveSl (.inl z) z) z (TA.a 1 z (moveI (.inl z) z) z (TA.a 2 z (moveSl (.inl z) z) z (TA.a 3 z (moveI (.inl z) z) z (TA.isSl (i := 0) z (fun hs138 _ _ => ?_))))))
      refine TA.b 4 z (OpVal.index z underlying80 sz57 z z hs138 u41.1 u41.2) z (TA.b 5 z (loadOA BSet.zero z ag57 sz57 z (q := 0) z encSet_len (by omega) (by omega)) z (TA.a 6 z (moveI (.inl z) z) z (TA.a 7 z (convU8 z underlying3 underlying5 z) z (TA.ac 8 z (OpOk.lit (enc := encU8) [(toU8 ((k116 : Nat) : Int))] z underlying105 sz5 ze5 z z z encU8_len (by decide) (by decide) (0 : UInt8) z (by decide) z (by decide) encU8_one (fun a139 c140 => (k1 ?_)))))))
      refine TA.ac 9 z (callT (of_con _ _ _ [(toU8 ((k116 : Nat) : Int))] u46) z z pf20 z z z z (k0 ?_))
      refine TA.ac 10 z (callP (Hk_ u47) z z pf67 z z z (k0 ?_))
      refine TA.isSl (i := 0) z (fun hs142 _ _ => ?_)
      refine TA.b 11 z (OpVal.index z underlying80 sz57 z z hs142 u48.1 u48.2) z ?_
      have hn143 : (l122.set ((nth x0 k116 (0 : Int)).toNat) v47).length = l122.length := by rw [List.length_set]
      refine TA.last 12 (by kernel_rfl) z z z (storeS v47 z sz57 z z z z encSet_len encSet_one (by omega) (by omega) ?_)
      refine TZ.done (by kernel_rfl) (B.n (S.n (TC.region (TL.w z (OpVal.succ z z z (by omega)) (TL.i z z ?_)))))
      rw [← hn143]
      refine TL.en ?_
      obtain ⟨hh, hlt144⟩ := nxt_x hR1 hh
      exact lf (((l122.set ((nth x0 k116 (0 : Int)).toNat) v47), (k116 + 1)), (a123, c124)) hlt144 hh (Sub.pre 1 z)
  ·refine TC.exit (S.x (S.x ?_))
   replace hh := fin_x hR1 hh
   refine TC.exitHere (S.n (TC.a (TL.s z z (TL.s z z (TL.i z z (TL.en (TC.sealS encSet_len (fun τ147 hle146 hr145 => ?_))))))))
   have hr145b := hr145.rv.big
   refine TC.ret ?_
   obtain rfl := so hh
   exact rq [2, 3] ⟨a114, c115, z, hr145, z⟩
noncomputable def Bg_ (x0 : Dfa) (k110 : Nat) (k116 : Nat) : Option ((Nat) ⊕ ((Nat) ⊕ (Int))) :=
 iteO (decide (((k116 : Nat) : Int) < (((nth x0.next k110 ([] : List Int)).length : Nat) : Int))) (iteO (decide ((nth (nth x0.next k110 ([] : List Int)) k116 (0 : Int)) < 0)) (fin (fin (some 1))) (iteO (decide (((x0.next.length : Nat) : Int) ≤ (nth (nth x0.next k110 ([] : List Int)) k116 (0 : Int)))) (fin (fin (some 1))) (nxt (k116 + 1)))) (fin (nxt (k110 + 1)))
noncomputable def Bi_ (x0 : Dfa) (v5 : (List BSet) × Int) (k110 : Nat) : Option ((Nat) ⊕ (Int)) :=
 iteO (decide (((k110 : Nat) : Int) < ((x0.next.length : Nat) : Int))) (iteO (decide ((((nth x0.next k110 ([] : List Int)).length : Nat) : Int) ≠ ((v5.1.length : Nat) : Int))) (fin (some 1)) (iter (fun q : Nat => Bg_ x0 k110 q) 0)) (fin (some 0))
noncomputable def Db_ (x0 : Dfa) : Option (Int) :=
 bnd (Da_ x0.cls) (fun v5 => iteO (decide (v5.2 ≠ 0)) (some 1) (iteO (decide (((x0.next.length : Nat) : Int) < 1)) (some 1) (iteO (decide (1024 < ((x0.next.length : Nat) : Int))) (some 1) (iteO (decide (((x0.fin.length : Nat) : Int) ≠ ((x0.next.length : Nat) : Int))) (some 1) (iter (fun q : Nat => Bi_ x0 v5 q) 0)))))
theorem G6_ {σ : Store} {x0 : Dfa} {a0_0 : Option Addr} {c0_0 : Nat} {a0_1 : Option Addr} {c0_1 : Nat} {a0_2 : Option Addr} {c0_2 : Nat} (f0_0 : RS σ 1 Go.E.encI (.slice a0_0 x0.cls.length c0_0) x0.cls) (f0_1 : RZ σ (pkSl 1 Go.E.encI Go.E.encI_len) (.slice a0_1 x0.next.length c0_1) x0.next) (f0_2 : RS σ 1 encB (.slice a0_2 x0.fin.length c0_2) x0.fin) {r : Int} (hh : Db_ x0 = some r) :
  Con Tryz.prog 37 #[.agg #[.slice a0_0 x0.cls.length c0_0, .slice a0_1 x0.next.length c0_1, .slice a0_2 x0.fin.length c0_2]] σ [] (PureP (.int .i64 r) σ) := by
 dsimp only [Db_] at hh
 have f0_0b := f0_0.rv.big
 have f0_1b := f0_1.big
 have f0_2b := f0_2.rv.big
 refine Con.mk (n := 63) Tryz.func37 z z z (fun w0 => ?_)
 refine TC.a (TL.op z (boxA z z z z (fun b101 => ?_)))
 refine TL.i z z (TL.en (TC.a (TL.w z (fieldLoc z fo31_0 z) (TL.w z (loadLoc z ag27 z (i := 0) z z) ?_))))
 obtain ⟨v5, u5, hh⟩ := bnd_e hh
 refine TL.op z (OpOk.call (H6_ f0_0 u5) z z pf74 z z z z ?_)
 rintro _ τ103 _ hle103 ⟨a103_1, c103_1, rfl, hr103_0, rfl⟩
 replace f0_1 := f0_1.mono hle103
 have hr103_0b := hr103_0.rv.big
 refine TL.w z (moveT (.inl z) z) (TL.w z (OpVal.extract z z z) (TL.w z (OpVal.extract z z z) (TL.s z z (TL.i z z (TL.en (TC.a (TL.w z (fieldLoc z fo31_1 z) (TL.w z (loadLoc z ag28 z (i := 0) z z) (TL.w z (lenC z underlying28 z) (TL.i z z (TL.en (TC.seq (TC.a (TL.i z z (TL.w z (OpVal.neq z z z) (TL.j z z (TL.split 21 z (fun h104 => ?_) (fun h104 => ?_))))))))))))))))))
 ·replace hh := iteO_t h104 hh
  replace h104 := of_decide_eq_true h104
  refine TL.f z (TL.f z (TL.w z (pickTB z z z) (TL.j z z (TL.f z (TL.f z (TL.w z (pickTB z z z) (TL.j z z (TL.f z (TL.f z (TL.f z (TL.f z (TL.f z (TL.w z (pickTB z z z) (TL.en (TC.t z (TC.a (TL.i z z (TL.en (TC.ofSub (Sub.pre 0 z) (TC.back (TC.ret (S.r ?_))))))))))))))))))))))
  obtain rfl := so hh
  exact rq [2] ⟨z, z, z⟩
 ·replace hh := iteO_f h104 hh
  replace h104 := of_decide_eq_false h104
  refine TL.g z (moveI (.inl z) z) (TL.g z (OpVal.lss z z z) (TL.w z (pickFB z z z) (TL.j z z (TL.split 25 z (fun h105 => ?_) (fun h105 => ?_)))))
  ·replace hh := iteO_t h105 hh
   replace h105 := of_decide_eq_true h105
   refine TL.f z (TL.f z (TL.w z (pickTB z z z) (TL.j z z (TL.f z (TL.f z (TL.f z (TL.f z (TL.f z (TL.w z (pickTB z z z) (TL.en (TC.t z (TC.a (TL.i z z (TL.en (TC.ofSub (Sub.pre 0 z) (TC.back (TC.ret (S.r ?_))))))))))))))))))
   obtain rfl := so hh
   exact rq [2] ⟨z, z, z⟩
  ·replace hh := iteO_f h105 hh
   replace h105 := of_decide_eq_false h105
   refine TL.g z (moveI (.inl z) z) (TL.g z (OpVal.gtr z z z) (TL.w z (pickFB z z z) (TL.j z z (TL.split 29 z (fun h106 => ?_) (fun h106 => ?_)))))
   ·replace hh := iteO_t h106 hh
    replace h106 := of_decide_eq_true h106
    refine TL.f z (TL.f z (TL.f z (TL.f z (TL.f z (TL.w z (pickTB z z z) (TL.en (TC.t z (TC.a (TL.i z z (TL.en (TC.ofSub (Sub.pre 0 z) (TC.back (TC.ret (S.r ?_))))))))))))))
    obtain rfl := so hh
    exact rq [2] ⟨z, z, z⟩
   ·replace hh := iteO_f h106 hh
    replace h106 := of_decide_eq_false h106
    refine TL.g z (fieldLoc z fo31_2 z) (TL.g z (loadLoc z ag29 z (i := 0) z z) (TL.g z (lenC z underlying29 z) (TL.g z (moveI (.inl z) z) (TL.g z (OpVal.neq z z z) (TL.w z (pickFB z z z) (TL.en (TC.cD z hh (fun h107 hh => ?_) (fun h107 hh => ?_))))))))
    ·refine TC.a (TL.i z z (TL.en (TC.ofSub (Sub.pre 0 z) (TC.back (TC.ret (S.r ?_))))))
     obtain rfl := so hh
     exact rq [2] ⟨z, z, z⟩
    ·refine TC.skip (S.n (TC.seq (TC.a (TL.w z (fieldLoc z fo31_1 z) (TL.w z (loadLoc z ag28 z (i := 0) z z) (TL.w z (lenC z underlying28 z) (TL.i z z (TL.en (TC.block (TC.loopG (α := (Nat) × (Unit)) (rgs [(2, 1), (7, 1), (9, 1), (39, 24)]) (fun g => [(39, .int .i64 ((g.1 : Nat) : Int))]) (fun g => []) (fun g => τ103) (fun g => iter (fun q : Nat => Bi_ x0 v5 q) g.1 = some r) (fun g => rounds (fun q : Nat => Bi_ x0 v5 q) g.1) (0, ()) (Sub.pre 0 z) z (by repeat (first | exact trivial | refine ⟨z, ?_⟩)) hh (fun g1 j1 hg1 => ?_)))))))))))
     obtain ⟨k110, _⟩ := g1
     have hh := hg1; clear hg1
     try dsimp only
     obtain ⟨z1, hh, hR1⟩ := iter_e hh
     dsimp only [Bi_] at hh
     refine TC.a (TL.w z (OpVal.lss z z z) (TL.en (TC.seq (TC.cD z hh (fun h111 hh => ?_) (fun h111 hh => ?_)))))
     ·refine TC.skip (S.n (TC.seq (TC.block (TC.a (TL.w z (indexN z underlying28 sz27 z z f0_1.isSl (by omega)) ?_)))))
      obtain ⟨p112, hk112, hg112⟩ := RZ.seg f0_1 k110 (by omega)
      replace hk112 : RS _ 1 Go.E.encI (.slice p112.1 (nth x0.next k110 ([] : List Int)).length p112.2) (nth x0.next k110 ([] : List Int)) := hk112
      have hk112b := hk112.rv.big
      refine TL.w z (OpVal.of (loadSeg0 z ag27 z hg112 z) (v' := .slice p112.1 ((nth x0.next k110 ([] : List Int)).length) p112.2) z) (TL.s z z (TL.en (TC.seq (TC.a (TL.s z z (TL.w z (lenC z underlying27 z) (TL.s z z (TL.w z (lenC z underlying80 z) (TL.w z (OpVal.neq z z z) (TL.en (TC.cD z hh (fun h113 hh => ?_) (fun h113 hh => ?_))))))))))))
      ·refine TC.a (TL.i z z (TL.en (TC.back (TC.ret (S.r (B.r (S.r (S.r ?_))))))))
       replace hh := fin_x hR1 hh
       refine B.r (S.r ?_)
       obtain rfl := so hh
       exact rq [2] ⟨z, z, z⟩
      ·refine TC.skip (S.n (TC.a (TL.s z z (TL.w z (lenC z underlying27 z) (TL.i z z (TL.en (TC.block (TC.loopG (α := (Nat) × (Unit)) (rgs [(2, 1), (9, 1), (50, 12)]) (fun g => [(50, .int .i64 ((g.1 : Nat) : Int))]) (fun g => []) (fun g => τ103) (fun g => iter (fun q : Nat => Bg_ x0 k110 q) g.1 = some z1) (fun g => rounds (fun q : Nat => Bg_ x0 k110 q) g.1) (0, ()) (Sub.pre 0 z) z (by repeat (first | exact trivial | refine ⟨z, ?_⟩)) hh (fun g2 j2 hg2 => ?_)))))))))
       obtain ⟨k116, _⟩ := g2
       have hh := hg2; clear hg2
       try dsimp only
       obtain ⟨z2, hh, hR2⟩ := iter_e hh
       dsimp only [Bg_] at hh
       refine TC.a (TL.w z (OpVal.lss z z z) (TL.en (TC.seq (TC.cD z hh (fun h117 hh => ?_) (fun h117 hh => ?_)))))
       ·refine TC.skip (S.n (TC.seq (TC.block (TC.a (TL.w z (indexN z underlying27 sz3 z z hk112.rv.sl (by omega)) (TL.w z (loadS1 (0 : Int) z ag3 z hk112 (by omega) z) (TL.i z z (TL.en (TC.a (TL.i z z (TL.w z (OpVal.lss z z z) (TL.j z z (TL.split 56 z (fun h118 => ?_) (fun h118 => ?_))))))))))))))
        ·replace hh := iteO_t h118 hh
         replace h118 := of_decide_eq_true h118
         refine TL.f z (TL.f z (TL.f z (TL.w z (pickTB z z z) (TL.en (TC.t z (TC.a (TL.i z z (TL.en (TC.back (TC.ret (B.r (S.r (S.r ?_)))))))))))))
         replace hh := fin_x hR2 hh
         refine B.r (B.r (S.r (S.r ?_)))
         replace hh := fin_x hR1 hh
         refine B.r (S.r ?_)
         obtain rfl := so hh
         exact rq [2] ⟨z, z, z⟩
        ·replace hh := iteO_f h118 hh
         replace h118 := of_decide_eq_false h118
         refine TL.g z (moveI (.inl z) z) (TL.g z (moveI (.inl z) z) (TL.g z (OpVal.geq z z z) (TL.w z (pickFB z z z) (TL.en (TC.cD z hh (fun h119 hh => ?_) (fun h119 hh => ?_))))))
         ·refine TC.a (TL.i z z (TL.en (TC.back (TC.ret (B.r (S.r (S.r ?_)))))))
          replace hh := fin_x hR2 hh
          refine B.r (B.r (S.r (S.r ?_)))
          replace hh := fin_x hR1 hh
          refine B.r (S.r ?_)
          obtain rfl := so hh
          exact rq [2] ⟨z, z, z⟩
         ·refine TC.skip (B.n (S.n (TC.region (TL.w z (OpVal.succ z z z (by omega)) (TL.i z z (TL.en ?_))))))
          obtain ⟨hh, hlt120⟩ := nxt_x hR2 hh
          exact lf ((k116 + 1), ()) hlt120 hh (Sub.pre 0 z)
       ·refine TC.exit (S.x (S.x ?_))
        replace hh := fin_x hR2 hh
        refine TC.exitHere (B.n (S.n (TC.region (TL.w z (OpVal.succ z z z (by omega)) (TL.i z z (TL.en ?_))))))
        obtain ⟨hh, hlt121⟩ := nxt_x hR1 hh
        exact lf ((k110 + 1), ()) hlt121 hh (Sub.pre 0 z)
     ·refine TC.exit (S.x (S.x ?_))
      replace hh := fin_x hR1 hh
      refine TC.exitHere (S.n (TC.a (TL.i z z (TL.en (TC.back (TC.ret ?_))))))
      obtain rfl := so hh
      exact rq [2] ⟨z, z, z⟩
noncomputable def Cd_ (k120 : Nat) (m124 : FM BSet Int) (l125 : List BSet) : Option (((FM BSet Int) × (List BSet) × Nat) ⊕ ((List BSet))) :=
 nxt (m124, l125, (k120 + 1))
noncomputable def A6_ (x0 : List Arrow) (m115 : FM BSet Int) (l117 : List BSet) (k120 : Nat) : Option (((FM BSet Int) × (List BSet) × Nat) ⊕ ((List BSet))) :=
 iteO (decide (((k120 : Nat) : Int) < ((x0.length : Nat) : Int))) (iteO (!(m115.has ((nth x0 k120 Arrow.zero).set))) (grd ((l117.length + [(nth x0 k120 Arrow.zero).set].length) * 32 ≤ 140737488355328) (Cd_ k120 (m115.put ((nth x0 k120 Arrow.zero).set) ((l117.length : Nat) : Int)) (l117 ++ [(nth x0 k120 Arrow.zero).set]))) (Cd_ k120 m115 l117)) (fin (some l117))
noncomputable def De_ (x0 : List Arrow) : Option ((List BSet)) :=
 iter (fun q : (FM BSet Int) × (List BSet) × Nat => A6_ x0 q.1 q.2.1 q.2.2) ((FM.emp : FM BSet Int), ([] : List BSet), 0)
def Ib_ (σ : Store) (r : (List BSet)) : Value → Store → List Res → Prop := fun v σ' H' =>
 ∃ (a1 : Option Addr), ∃ (c1 : Nat),  v = .slice a1 r.length c1 ∧ RS σ' 4 encSet (.slice a1 r.length c1) r ∧ H' = []
theorem Hs_ {σ : Store} {x0 : List Arrow} {a0_0 : Option Addr} {c0_0 : Nat} (f0_0 : RS σ 6 encE (.slice a0_0 x0.length c0_0) x0) {r : (List BSet)} (hh : De_ x0 = some r) :
  Con Tryz.prog 29 #[.slice a0_0 x0.length c0_0] σ [] (Ib_ σ r) := by
 dsimp only [De_] at hh
 have f0_0b := f0_0.rv.big
 refine Con.mk (n := 37) Tryz.func29 z z z (fun w0 => ?_)
 refine TC.a (TL.s z z (TL.en (TC.a (TL.op z (makeMapB (enc := setV) (encV := keyI) z z z (fun b101 => ?_))))))
 refine TL.w z (moveMap (.inr z) z) (TL.en (TC.a (TL.s z z (TL.en (TC.seq (TC.a (TL.s z z (TL.w z (lenC z underlying46 z) (TL.i z z (TL.en (TC.block (TC.nilS 57 4 encSet (TC.loopG (α := ((FM BSet Int) × (List BSet) × Nat) × ((Option Addr) × Nat)) (rgs [(4, 1), (6, 3), (12, 24)]) (fun g => [(4, .slice g.2.1 g.1.2.1.length g.2.2), (12, .int .i64 ((g.1.2.2 : Nat) : Int))]) (fun g => [Res.mapB setV keyI (some b101) g.1.1, Res.rowS 57 4 encSet (.slice g.2.1 g.1.2.1.length g.2.2) g.1.2.1]) (fun g => σ) (fun g => iter (fun q : (FM BSet Int) × (List BSet) × Nat => A6_ x0 q.1 q.2.1 q.2.2) g.1 = some r) (fun g => rounds (fun q : (FM BSet Int) × (List BSet) × Nat => A6_ x0 q.1 q.2.1 q.2.2) g.1) (((FM.emp : FM BSet Int), ([] : List BSet), 0), (none, 0)) (Sub.f [1] 2) z (by repeat (first | exact trivial | refine ⟨z, ?_⟩)) hh (fun g1 j1 hg1 => ?_))))))))))))))
 obtain ⟨⟨m115, l117, k120⟩, ⟨a118, c119⟩⟩ := g1
 have hh := hg1; clear hg1
 try dsimp only
 obtain ⟨z1, hh, hR1⟩ := iter_e hh
 dsimp only [A6_] at hh
 refine TC.isSl (i := 1) z (fun _ hb122 _ => ?_)
 refine TC.a (TL.w z (OpVal.lss z z z) (TL.en (TC.seq (TC.cD z hh (fun h123 hh => ?_) (fun h123 hh => ?_)))))
 ·refine TC.skip (S.n (TC.cutG (α := ((FM BSet Int) × (List BSet)) × ((Option Addr) × Nat)) (rgs [(4, 1), (6, 3), (14, 21)]) (fun g => [(4, .slice g.2.1 g.1.2.length g.2.2)]) (fun g => [Res.mapB setV keyI (some b101) g.1.1, Res.rowS 57 4 encSet (.slice g.2.1 g.1.2.length g.2.2) g.1.2]) (fun g => σ) (fun g => Cd_ k120 g.1.1 g.1.2 = some z1) ?_ (fun g j hg => ?_)))
  ·skip
   refine TC.block (TC.a (TL.w z (indexN z underlying46 sz78 z z f0_0.rv.sl (by omega)) (TL.w z (loadSA Arrow.zero z ag78 sz78 z f0_0 (by omega) (by omega)) (TL.op z (OpOk.alloc z ze78 z z (fun b128 => ?_))))))
   refine TL.op z (storeAll z sz78 z z z z z z ?_)
   refine TL.en (TC.a (TL.w z (moveMap (.inl z) z) (TL.w z (fieldLoc z fo78_2 z) (TL.w z (loadLocA z ag57 sz57 z (i := 0) z z z) (TL.w z (OpVal.of (lookB 0 (q := (nth x0 k120 Arrow.zero).set) z underlying134 ze3 z (i := 1) z z (keyL_set underlying57 underlying55 ag55 sz55)) (v' := .tuple #[.int .i64 (m115.get ((nth x0 k120 Arrow.zero).set) 0), .bool (m115.has ((nth x0 k120 Arrow.zero).set))]) z) (TL.w z (moveT (.inl z) z) (TL.w z (OpVal.extract z z z) (TL.w z (OpVal.extract z z z) (TL.i z z (TL.j z z (TL.en (TC.a (TL.j z z (TL.w z (OpVal.not z z) (TL.en (TC.cB z hh (fun h130 hh => ?_) (fun h130 hh => ?_)))))))))))))))))
   ·refine TC.a (TL.w z (moveMap (.inl z) z) (TL.w z (fieldLoc z fo78_2 z) (TL.w z (loadLocA z ag57 sz57 z (i := 0) z z z) (TL.s z z (TL.w z (lenC z underlying80 z) (TL.front 1 z z (TL.op z (updB ((nth x0 k120 Arrow.zero).set) ((l117.length : Nat) : Int) z underlying134 z z z z (keyL_set underlying57 underlying55 ag55 sz55) ?_))))))))
    refine TL.en (TC.region (TL.s z z (TL.w z (fieldLoc z fo78_2 z) (TL.w z (loadLocA z ag57 sz57 z (i := 1) z z z) (TL.op z (OpOk.lit (enc := encSet) [(nth x0 k120 Arrow.zero).set] z underlying80 sz57 ze57 z z z encSet_len (by decide) (by decide) BSet.zero z (by decide) z (by decide) encSet_one (fun a131 c132 => ?_)))))))
    refine TL.front 3 z z ?_
    have u34 := grd_c hh
    replace hh := grd_t hh
    refine TL.op z (appendS z z underlying80 sz57 by57 ze57 z z (by decide) z z z (.inr ⟨_, 0, z⟩) (by simpa using u34) (by decide) (fun a134 c135 => ?_))
    exact TL.s z z (TL.nil (B.n (S.n (cf (((m115.put ((nth x0 k120 Arrow.zero).set) ((l117.length : Nat) : Int)), (l117 ++ [(nth x0 k120 Arrow.zero).set])), (a134, c135)) hh (Sub.f [2] 2)))))
   ·exact TC.skip (B.n (S.n (cf ((m115, l117), (a118, c119)) hh (Sub.f [2, 2] 2))))
  ·skip
   obtain ⟨⟨m124, l125⟩, ⟨a126, c127⟩⟩ := g
   have hh := hg; clear hg
   try dsimp only
   dsimp only [Cd_] at hh
   refine TC.isSl (i := 1) z (fun _ hb136 _ => ?_)
   refine TC.region (TL.w z (OpVal.succ z z z (by omega)) (TL.i z z (TL.en ?_)))
   obtain ⟨hh, hlt137⟩ := nxt_x hR1 hh
   exact lf ((m124, l125, (k120 + 1)), (a126, c127)) hlt137 hh (Sub.f [1, 1] 2)
 ·refine TC.exit (S.x (S.x ?_))
  replace hh := fin_x hR1 hh
  refine TC.exitHere (S.n (TC.a (TL.s z z (TL.s z z (TL.en (TC.front 1 z z (TC.sealS encSet_len (fun τ140 hle139 hr138 => ?_))))))))
  have hr138b := hr138.rv.big
  refine TC.rt 0 ?_
  obtain rfl := so hh
  exact rq [2] ⟨a118, c119, z, hr138, z⟩
noncomputable def Cc_ (k133 : Nat) (l136 : List Int) : Option (((List Int) × Nat) ⊕ (((List Int) × Nat) ⊕ ((List Int)))) :=
 nxt (l136, (k133 + 1))
noncomputable def A4_ (x0 : List (List Arrow)) (x1 : List Int) (k117 : Nat) (v4 : UInt8 × Bool) (l130 : List Int) (k133 : Nat) : Option (((List Int) × Nat) ⊕ (((List Int) × Nat) ⊕ ((List Int)))) :=
 iteO (decide (((k133 : Nat) : Int) < (((nth x0 ((nth x1 k117 (0 : Int)).toNat) ([] : List Arrow)).length : Nat) : Int))) (iteO (((nth (nth x0 ((nth x1 k117 (0 : Int)).toNat) ([] : List Arrow)) k133 Arrow.zero).set).has v4.1.toNat) (grd ((l130.length + [(nth (nth x0 ((nth x1 k117 (0 : Int)).toNat) ([] : List Arrow)) k133 Arrow.zero).to].length) * 8 ≤ 140737488355328) (Cc_ k133 (l130 ++ [(nth (nth x0 ((nth x1 k117 (0 : Int)).toNat) ([] : List Arrow)) k133 Arrow.zero).to]))) (Cc_ k133 l130)) (fin (nxt (l130, (k117 + 1))))
noncomputable def Az_ (x1 : List Int) (x0 : List (List Arrow)) (v4 : UInt8 × Bool) (l114 : List Int) (k117 : Nat) : Option (((List Int) × Nat) ⊕ ((List Int))) :=
 iteO (decide (((k117 : Nat) : Int) < ((x1.length : Nat) : Int))) (grd (0 ≤ (nth x1 k117 (0 : Int)) ∧ (nth x1 k117 (0 : Int)) < (x0.length : Int)) (iter (fun q : (List Int) × Nat => A4_ x0 x1 k117 v4 q.1 q.2) (l114, 0))) (fin (some l114))
noncomputable def Dc_ (x0 : List (List Arrow)) (x1 : List Int) (x2 : BSet) : Option ((List Int)) :=
 bnd (B2_ x2) (fun v4 => iter (fun q : (List Int) × Nat => Az_ x1 x0 v4 q.1 q.2) (([] : List Int), 0))
def Il_ (σ : Store) (r : (List Int)) : Value → Store → List Res → Prop := fun v σ' H' =>
 ∃ (a1 : Option Addr), ∃ (c1 : Nat),  v = .slice a1 r.length c1 ∧ σ = σ' ∧ H' = [Res.rowS 3 1 Go.E.encI (.slice a1 r.length c1) r]
theorem Hv_ {σ : Store} {x0 : List (List Arrow)} {a0_0 : Option Addr} {c0_0 : Nat} {x1 : List Int} {a1_0 : Option Addr} {c1_0 : Nat} {x2 : BSet} (hgl : GT σ 1 encU8 deB) (f0_0 : RZ σ (pkSl 6 encE encE_len) (.slice a0_0 x0.length c0_0) x0) (f1_0 : RS σ 1 Go.E.encI (.slice a1_0 x1.length c1_0) x1) {r : (List Int)} (hh : Dc_ x0 x1 x2 = some r) :
  Con Tryz.prog 36 #[.slice a0_0 x0.length c0_0, .slice a1_0 x1.length c1_0, setV x2] σ [] (Il_ σ r) := by
 dsimp only [Dc_] at hh
 have f0_0b := f0_0.big
 have f1_0b := f1_0.rv.big
 refine Con.mk (n := 46) Tryz.func36 z z z (fun w0 => ?_)
 refine TC.a (TL.op z (boxA z z z z (fun b101 => ?_)))
 refine TL.s z z (TL.en (TC.a (TL.w z (loadAll z ag57 sz57 z (i := 0) z z) ?_)))
 obtain ⟨v4, u4, hh⟩ := bnd_e hh
 refine TL.op z (callP (G9_ hgl u4) z z pf68 z z z ?_)
 refine TL.w z (moveT (.inl z) z) (TL.w z (OpVal.extract z z z) (TL.w z (OpVal.extract z z z) (TL.i z z (TL.j z z (TL.en (TC.a (TL.s z z (TL.en (TC.seq (TC.a (TL.s z z (TL.w z (lenC z underlying27 z) (TL.i z z (TL.en (TC.block (TC.nilS 3 1 Go.E.encI (TC.loopG (α := ((List Int) × Nat) × ((Option Addr) × Nat)) (rgs [(9, 1), (11, 1), (13, 1), (21, 24)]) (fun g => [(9, .slice g.2.1 g.1.1.length g.2.2), (21, .int .i64 ((g.1.2 : Nat) : Int))]) (fun g => [Res.rowS 3 1 Go.E.encI (.slice g.2.1 g.1.1.length g.2.2) g.1.1]) (fun g => σ) (fun g => iter (fun q : (List Int) × Nat => Az_ x1 x0 v4 q.1 q.2) g.1 = some r) (fun g => rounds (fun q : (List Int) × Nat => Az_ x1 x0 v4 q.1 q.2) g.1) ((([] : List Int), 0), (none, 0)) (Sub.pre 1 z) z (by repeat (first | exact trivial | refine ⟨z, ?_⟩)) hh (fun g1 j1 hg1 => ?_))))))))))))))))))
 obtain ⟨⟨l114, k117⟩, ⟨a115, c116⟩⟩ := g1
 have hh := hg1; clear hg1
 try dsimp only
 obtain ⟨z1, hh, hR1⟩ := iter_e hh
 dsimp only [Az_] at hh
 refine TC.isSl (i := 0) z (fun _ hb119 _ => ?_)
 refine TC.a (TL.w z (OpVal.lss z z z) (TL.en (TC.seq (TC.cD z hh (fun h120 hh => ?_) (fun h120 hh => ?_)))))
 ·refine TC.skip (S.n (TC.seq (TC.block (TC.a (TL.w z (indexN z underlying27 sz3 z z f1_0.rv.sl (by omega)) (TL.w z (loadS1 (0 : Int) z ag3 z f1_0 (by omega) z) (TL.i z z (TL.en (TC.a (TL.s z z (TL.i z z ?_)))))))))))
  have u20 := grd_c hh
  replace hh := grd_t hh
  refine TL.w z (OpVal.index z underlying86 sz46 z z f0_0.isSl u20.1 u20.2) ?_
  obtain ⟨p121, hk121, hg121⟩ := RZ.seg f0_0 ((nth x1 k117 (0 : Int)).toNat) (by omega)
  replace hk121 : RS _ 6 encE (.slice p121.1 (nth x0 ((nth x1 k117 (0 : Int)).toNat) ([] : List Arrow)).length p121.2) (nth x0 ((nth x1 k117 (0 : Int)).toNat) ([] : List Arrow)) := hk121
  have hk121b := hk121.rv.big
  refine TL.w z (OpVal.of (loadSeg0 z ag46 z hg121 z) (v' := .slice p121.1 ((nth x0 ((nth x1 k117 (0 : Int)).toNat) ([] : List Arrow)).length) p121.2) z) (TL.w z (lenC z underlying46 z) (TL.i z z (TL.en (TC.block (TC.loopG (α := ((List Int) × Nat) × ((Option Addr) × Nat)) (rgs [(9, 1), (13, 1), (30, 14)]) (fun g => [(9, .slice g.2.1 g.1.1.length g.2.2), (30, .int .i64 ((g.1.2 : Nat) : Int))]) (fun g => [Res.rowS 3 1 Go.E.encI (.slice g.2.1 g.1.1.length g.2.2) g.1.1]) (fun g => σ) (fun g => iter (fun q : (List Int) × Nat => A4_ x0 x1 k117 v4 q.1 q.2) g.1 = some z1) (fun g => rounds (fun q : (List Int) × Nat => A4_ x0 x1 k117 v4 q.1 q.2) g.1) ((l114, 0), (a115, c116)) (Sub.pre 1 z) z (by repeat (first | exact trivial | refine ⟨z, ?_⟩)) hh (fun g2 j2 hg2 => ?_))))))
  obtain ⟨⟨l130, k133⟩, ⟨a131, c132⟩⟩ := g2
  have hh := hg2; clear hg2
  try dsimp only
  obtain ⟨z2, hh, hR2⟩ := iter_e hh
  dsimp only [A4_] at hh
  refine TC.isSl (i := 0) z (fun _ hb134 _ => ?_)
  refine TC.a (TL.w z (OpVal.lss z z z) (TL.en (TC.seq (TC.cD z hh (fun h135 hh => ?_) (fun h135 hh => ?_)))))
  ·refine TC.skip (S.n (TC.cutG (α := ((List Int)) × ((Option Addr) × Nat)) (rgs [(9, 1), (13, 1), (32, 11)]) (fun g => [(9, .slice g.2.1 g.1.length g.2.2)]) (fun g => [Res.rowS 3 1 Go.E.encI (.slice g.2.1 g.1.length g.2.2) g.1]) (fun g => σ) (fun g => Cc_ k133 g.1 = some z2) ?_ (fun g j hg => ?_)))
   ·skip
    refine TC.block (TC.a (TL.w z (indexN z underlying46 sz78 z z hk121.rv.sl (by omega)) (TL.w z (loadSA Arrow.zero z ag78 sz78 z hk121 (by omega) (by omega)) (TL.op z (OpOk.alloc z ze78 z z (fun b139 => ?_))))))
    refine TL.op z (storeAll z sz78 z z z z z z ?_)
    refine TL.en (TC.a (TL.w z (fieldLoc z fo78_2 z) (TL.w z (loadLocA z ag57 sz57 z (i := 0) z z z) (TL.i z z (TL.op z (callP (has_con _ ((nth (nth x0 ((nth x1 k117 (0 : Int)).toNat) ([] : List Arrow)) k133 Arrow.zero).set) v4.1.toNat (BSet.isOk _) (UInt8.toNat_lt _)) z z pf43 z z z ?_))))))
    refine TL.en (TC.cB z hh (fun h141 hh => ?_) (fun h141 hh => ?_))
    ·refine TC.region (TL.s z z (TL.w z (fieldLoc z fo78_1 z) (TL.w z (loadLoc z ag3 z (i := 0) z z) (TL.op z (OpOk.lit (enc := Go.E.encI) [(nth (nth x0 ((nth x1 k117 (0 : Int)).toNat) ([] : List Arrow)) k133 Arrow.zero).to] z underlying27 sz3 ze3 z z z Go.E.encI_len (by decide) (by decide) (0 : Int) z (by decide) z (by decide) Go.E.encI_one (fun a142 c143 => ?_))))))
     refine TL.front 2 z z ?_
     have u37 := grd_c hh
     replace hh := grd_t hh
     refine TL.op z (appendS z z underlying27 sz3 by3 ze3 z z (by decide) z z z (.inr ⟨_, 0, z⟩) (by simpa using u37) (by decide) (fun a145 c146 => ?_))
     exact TL.s z z (TL.nil (B.n (S.n (cf ((l130 ++ [(nth (nth x0 ((nth x1 k117 (0 : Int)).toNat) ([] : List Arrow)) k133 Arrow.zero).to]), (a145, c146)) hh (Sub.pre 1 z)))))
    ·exact TC.skip (B.n (S.n (cf (l130, (a131, c132)) hh (Sub.f [1] 1))))
   ·skip
    obtain ⟨l136, ⟨a137, c138⟩⟩ := g
    have hh := hg; clear hg
    try dsimp only
    dsimp only [Cc_] at hh
    refine TC.isSl (i := 0) z (fun _ hb147 _ => ?_)
    refine TC.region (TL.w z (OpVal.succ z z z (by omega)) (TL.i z z (TL.en ?_)))
    obtain ⟨hh, hlt148⟩ := nxt_x hR2 hh
    exact lf ((l136, (k133 + 1)), (a137, c138)) hlt148 hh (Sub.pre 1 z)
  ·refine TC.exit (S.x (S.x ?_))
   replace hh := fin_x hR2 hh
   refine TC.exitHere (B.n (S.n (TC.region (TL.w z (OpVal.succ z z z (by omega)) (TL.i z z (TL.en ?_))))))
   obtain ⟨hh, hlt149⟩ := nxt_x hR1 hh
   exact lf ((l130, (k117 + 1)), (a131, c132)) hlt149 hh (Sub.pre 1 z)
 ·refine TC.exit (S.x (S.x ?_))
  replace hh := fin_x hR1 hh
  refine TC.exitHere (S.n (TC.a (TL.s z z (TL.s z z (TL.en (TC.ret ?_))))))
  obtain rfl := so hh
  exact ro [Res.rowS 3 1 Go.E.encI (.slice a115 l114.length c116) l114] z (RVs.tmp z RVs.nil) ⟨a115, c116, z, z, z⟩
noncomputable def Ad_ {Sy : Type} (x1 : List BSet) (Y : Sy → Int × BSet → Option (Sy × Bool)) (k111 : Nat) (s112 : Sy) : Option ((Nat × Sy) ⊕ (Sy)) :=
 iteO (decide (((k111 : Nat) : Int) < ((x1.length : Nat) : Int))) (bnd (Y s112 (((k111 : Nat) : Int), (nth x1 k111 BSet.zero))) (fun v14 => iteO (!v14.2) (fin (some v14.1)) (nxt ((k111 + 1), v14.1)))) (fin (some s112))
noncomputable def Bl_ {Sy : Type} (Y : Sy → Int × BSet → Option (Sy × Bool)) (s0 : Sy) (x1 : List BSet) : Option (Sy) :=
 iter (fun q : Nat × Sy => Ad_ x1 Y q.1 q.2) (0, s0)
theorem Hi_ {Sy : Type} {σ : Store} {Y : Sy → Int × BSet → Option (Sy × Bool)} {s0 : Sy} {x1 : List BSet} {b1_0 : Nat} {Eb1 : Nat} {a1_1 : Option Addr} {c1_2 : Nat} (f1_3 : RS σ 4 encSet (.slice a1_1 x1.length c1_2) x1) {r : Sy} (hh : Bl_ Y s0 x1 = some r) :
  IterOk Tryz.prog 73 [loc b1_0 0] (fun (x : Int × BSet) _ vs => vs = [.int .i64 x.1, setV x.2]) Y σ [Res.cells b1_0 #[.slice a1_1 x1.length c1_2] Eb1] s0 r (fun σ' H' => H' = [Res.cells b1_0 #[.slice a1_1 x1.length c1_2] Eb1]) := by
 intro l Z ry0 hY hys
 dsimp only [Bl_] at hh
 have f1_3b := f1_3.rv.big
 refine Con.mk (n := 18) Tryz.func73 z z z (fun w0 => ?_)
 refine TC.weakR (TC.a (TL.w z (loadLoc z ag80 z (i := 1) z z) (TL.w z (lenC z underlying80 z) (TL.i z z (TL.en (TC.block (TC.loopG (α := (Nat × Sy) × (Res × Store)) (rgs [(3, 2), (7, 11)]) (fun g => [(7, .int .i64 ((g.1.1 : Nat) : Int))]) (fun g => [Res.cells b1_0 #[.slice a1_1 x1.length c1_2] Eb1, g.2.1]) (fun g => g.2.2) (fun g => iter (fun q : Nat × Sy => Ad_ x1 Y q.1 q.2) g.1 = some r ∧ YR Z g.1.2 g.2.2 g.2.1 ∧ Store.le σ g.2.2) (fun g => rounds (fun q : Nat × Sy => Ad_ x1 Y q.1 q.2) g.1) ((0, s0), (ry0, σ)) (Sub.f [1] 2) z (by repeat (first | exact trivial | refine ⟨z, ?_⟩)) ⟨hh, hys, (Store.le.refl _)⟩ (fun g1 j1 hg1 => ?_))))))))
 obtain ⟨⟨k111, s112⟩, ⟨ry113, τ115⟩⟩ := g1
 obtain ⟨hh, hy114, hle116⟩ := hg1
 try dsimp only at hy114
 dsimp only at hle116
 replace f1_3 := f1_3.mono hle116
 try dsimp only
 obtain ⟨z1, hh, hR1⟩ := iter_e hh
 dsimp only [Ad_] at hh
 skip
 refine TC.a (TL.w z (OpVal.lss z z z) (TL.en (TC.seq (TC.cD z hh (fun h117 hh => ?_) (fun h117 hh => ?_)))))
 ·refine TC.skip (S.n (TC.seq (TC.block (TC.a (TL.i z z (TL.w z (indexN z underlying80 sz57 z z f1_3.rv.sl (by omega)) (TL.w z (loadSA BSet.zero z ag57 sz57 z f1_3 (by omega) (by omega)) (TL.op z (OpOk.alloc z ze57 z z (fun b118 => ?_))))))))))
  refine TL.i z z (TL.op z (storeAll z sz57 z z z z z z ?_))
  refine TL.en (TC.a (TL.w z (OpVal.mv (.inl z)) (TL.i z z (TL.w z (loadAll z ag57 sz57 z (i := 0) z z) ?_))))
  obtain ⟨v14, u14, hh⟩ := bnd_e hh
  refine TL.front 2 z z (TL.op z (callY hY hy114 u14 z z z z z z ?_))
  rintro τ120 ry120 hle120 hy120
  refine TL.w z (OpVal.not z z) (TL.en (TC.cB z hh (fun h121 hh => ?_) (fun h121 hh => ?_)))
  ·refine TC.ofSub (Sub.f [2, 1] 2) (TC.ret (B.r (S.r (S.r ?_))))
   replace hh := fin_x hR1 hh
   refine B.r ?_
   obtain rfl := so hh
   refine ⟨_, Sub.f [1, 1] 2, ?_⟩
   exact ro [ry120, Res.cells b1_0 #[.slice a1_1 x1.length c1_2] Eb1] z RVs.nil ⟨_, _, z, hy120, z⟩
  ·refine TC.skip (B.n (S.n (TC.region (TL.w z (OpVal.succ z z z (by omega)) (TL.i z z (TL.en ?_))))))
   obtain ⟨hh, hlt122⟩ := nxt_x hR1 hh
   exact lf (((k111 + 1), v14.1), (ry120, τ120)) hlt122 ⟨hh, hy120, (hle116.trans hle120)⟩ (Sub.f [2] 2)
 ·refine TC.exit (S.x (S.x ?_))
  replace hh := fin_x hR1 hh
  refine TC.exitHere ?_
  obtain rfl := so hh
  refine ⟨_, Sub.f [1] 2, ?_⟩
  exact RetOk.mk' (rs := []) [ry113, Res.cells b1_0 #[.slice a1_1 x1.length c1_2] Eb1] z (.inr z) RVs.nil (List.sublist_append_left _ _) ⟨_, _, z, hy114, z⟩
noncomputable def C0_ (x0 : List BSet) : Option ((List BSet)) :=
 some x0
theorem Hr_ {σ : Store} {x0 : List BSet} {a0_0 : Option Addr} {c0_0 : Nat} (f0_0 : RS σ 4 encSet (.slice a0_0 x0.length c0_0) x0) {r : (List BSet)} (hh : C0_ x0 = some r) :
  Con Tryz.prog 35 #[.slice a0_0 x0.length c0_0] σ [] (fun v σ' H' => ∃ (br4 : Nat), ∃ (ar1 : Option Addr), ∃ (cr2 : Nat), v = .func (.func 73) #[] #[loc br4 0] ∧ RS σ' 4 encSet (.slice ar1 r.length cr2) r ∧ H' = [Res.cells br4 #[.slice ar1 r.length cr2] 80]) := by
 dsimp only [C0_] at hh
 have f0_0b := f0_0.rv.big
 refine Con.mk (n := 4) Tryz.func35 z z z (fun w0 => ?_)
 refine TC.a (TL.op z (OpOk.box z z z z (fun b103 => ?_)))
 refine TL.w z (OpVal.mv (.inr z)) (TL.en (TC.a (TL.w z (makeFn z) (TL.w z (moveFn (.inr z) z) (TL.en (TC.ret ?_))))))
 obtain rfl := so hh
 exact ro [Res.cells b103 #[.slice a0_0 x0.length c0_0] 80] z (RVs.tmp z RVs.nil) ⟨b103, a0_0, c0_0, z, f0_0, z⟩
end Go.Proofs.YtnpbfjdpglfdkaaGreatDoor
end

section
namespace Go.Proofs.YtnpbfjdpglfdkaaGreatDoor
open Go Go.E
theorem low_bit : ∀ x : Nat, x ≠ 0 → ∃ k m, x = 2 ^ k * (2 * m + 1) := by
 intro x
 induction x using Nat.strongRecOn with
 | _ x ih =>
  intro h0
  by_cases h : x % 2 = 1
  ·exact ⟨0, x / 2, by rw [Nat.pow_zero]; omega⟩
  ·obtain ⟨k, m, e⟩ := ih (x / 2) (by omega) (by omega)
   refine ⟨k + 1, m, ?_⟩
   have : x = 2 * (x / 2) := by omega
   rw [this, e, Nat.pow_succ, Nat.mul_comm (2 ^ k) 2, Nat.mul_assoc]
theorem low_and {k m : Nat} (h : 2 ^ k * (2 * m + 1) < 18446744073709551616) : (2 ^ k * (2 * m + 1)) &&& (18446744073709551616 - 2 ^ k * (2 * m + 1)) = 2 ^ k := by
 have hp : 0 < 2 ^ k := Nat.two_pow_pos k
 have hx : 2 ^ k * (2 * m + 1) = (2 ^ k * (2 * m) + (2 ^ k - 1)) + 1 := by rw [Nat.mul_add]; omega
 have e2 : 18446744073709551616 - 2 ^ k * (2 * m + 1) = 2 ^ 64 - ((2 ^ k * (2 * m) + (2 ^ k - 1)) + 1) := by rw [← hx]
 have hlt : 2 ^ k * (2 * m) + (2 ^ k - 1) < 2 ^ 64 := by
  have : (2 : Nat) ^ 64 = 18446744073709551616 := rfl
  omega
 refine Nat.eq_of_testBit_eq fun i => ?_
 rw [Nat.testBit_and, e2, Nat.testBit_two_pow_sub_succ hlt, Nat.testBit_two_pow_mul_add _ (by omega), Nat.testBit_two_pow, Nat.testBit_two_pow_mul, Nat.testBit_two_pow_sub_one]
 have h64 : k < 64 := by
  apply Decidable.byContradiction
  intro hc
  have h1 : 2 ^ 64 ≤ 2 ^ k := Nat.pow_le_pow_right (by omega) (by omega)
  have h2 : 2 ^ k * 1 ≤ 2 ^ k * (2 * m + 1) := Nat.mul_le_mul_left _ (by omega)
  have h3 : (2 : Nat) ^ 64 = 18446744073709551616 := rfl
  omega
 by_cases h1 : i < k
 ·rw [if_pos h1, decide_eq_false (show ¬ k ≤ i by omega), decide_eq_false (show ¬ k = i by omega)]; rfl
 ·rw [if_neg h1, decide_eq_true (show k ≤ i by omega), Bool.true_and]
  by_cases h2 : i = k
  ·subst h2
   rw [Nat.sub_self, decide_eq_true (show i < 64 by omega), decide_eq_true rfl, Nat.testBit_zero, Nat.testBit_zero]
   rw [decide_eq_true (show (2 * m + 1) % 2 = 1 by omega), decide_eq_false (show ¬ (2 * m) % 2 = 1 by omega)]; rfl
  ·obtain ⟨j, hj⟩ : ∃ j, i - k = j + 1 := ⟨i - k - 1, by omega⟩
   rw [hj, Nat.testBit_succ, Nat.testBit_succ, show (2 * m + 1) / 2 = m by omega, show (2 * m) / 2 = m by omega, decide_eq_false (show ¬ k = i by omega)]
   cases m.testBit j <;> cases decide (i < 64) <;> rfl
theorem deB_pow : ∀ k : Fin 64, u64shr (u64mul (2 ^ k.val) 285870213051353865) 58 < 64 ∧ (nth deB (u64shr (u64mul (2 ^ k.val) 285870213051353865) 58) (0 : UInt8)).toNat = k.val := by decide +kernel
theorem ctz_eq {x : Nat} (h0 : x ≠ 0) (h : x < 18446744073709551616) : ∃ k : Nat, k < 64 ∧ x.testBit k = true ∧ Ae_ x = some ((k : Nat) : Int) := by
 obtain ⟨k, m, rfl⟩ := low_bit x h0
 have h64 : k < 64 := by
  apply Decidable.byContradiction
  intro hc
  have h1 : 2 ^ 64 ≤ 2 ^ k := Nat.pow_le_pow_right (by omega) (by omega)
  have h2 : 2 ^ k * 1 ≤ 2 ^ k * (2 * m + 1) := Nat.mul_le_mul_left _ (by omega)
  have h3 : (2 : Nat) ^ 64 = 18446744073709551616 := rfl
  omega
 refine ⟨k, h64, ?_, ?_⟩
 ·rw [Nat.testBit_two_pow_mul, Nat.sub_self, decide_eq_true (Nat.le_refl k), Nat.testBit_zero, decide_eq_true (show (2 * m + 1) % 2 = 1 by omega)]; rfl
 ·have hn : u64of (-((2 ^ k * (2 * m + 1) : Nat) : Int)) = 18446744073709551616 - 2 ^ k * (2 * m + 1) := by
   generalize 2 ^ k * (2 * m + 1) = y at h h0 ⊢
   unfold u64of; omega
  have ha : u64and (2 ^ k * (2 * m + 1)) (u64of (-((2 ^ k * (2 * m + 1) : Nat) : Int))) = 2 ^ k := by
   rw [hn]
   unfold u64and
   rw [BitVec.toNat_and, BitVec.toNat_ofNat, BitVec.toNat_ofNat, Nat.mod_eq_of_lt h, Nat.mod_eq_of_lt (show 18446744073709551616 - 2 ^ k * (2 * m + 1) < 2 ^ 64 by
    have : (2 : Nat) ^ 64 = 18446744073709551616 := rfl
    omega), low_and h]
  obtain ⟨h1, h2⟩ := deB_pow ⟨k, h64⟩
  dsimp only at h1 h2
  unfold Ae_
  rw [iteO_df h0, ha, grd_mk h1, h2]
theorem word_lt' (s : BSet) (i : Nat) : s.word i < 18446744073709551616 := BSet.word_lt s.isOk i
theorem has_bitF (s : BSet) (n : Nat) : s.has n = (s.word (n / 64)).testBit (n % 64) := by
 unfold BSet.has; rw [Nat.testBit_eq_decide_div_mod_eq]
theorem first_none : B2_ BSet.zero = some (0, false) := by
 have hb : ∀ k, k < 4 → Ag_ BSet.zero k = some (.inl (k + 1)) := fun k hk => by
  unfold Ag_
  have : BSet.zero.word k = 0 := by unfold BSet.word BSet.zero; dsimp only; repeat (first | split | rfl)
  rw [iteO_dt (by omega), grd_mk hk, iteO_df (by rw [this]; simp)]; rfl
 unfold B2_
 obtain ⟨r, h, e⟩ := iter_up (step := fun q : Nat => Ag_ BSet.zero q) (fun (_ : Unit) k => k) 4 (fun _ _ => True) (fun r => r = ((0 : UInt8), false))
  (fun k s hk _ => .inl ⟨(), hb k hk, trivial⟩) (fun s _ => ⟨_, by
   show Ag_ BSet.zero 4 = _
   unfold Ag_
   rw [iteO_df (by omega)]; rfl, rfl⟩) (s0 := ()) trivial
 rw [h, e]
theorem first_some {s : BSet} (h0 : s ≠ BSet.zero) : ∃ b : UInt8, B2_ s = some (b, true) ∧ s.has b.toNat = true := by
 unfold B2_
 obtain ⟨r, h, b, rfl, hb⟩ := iter_up (step := fun q : Nat => Ag_ s q) (fun (_ : Unit) k => k) 4 (fun k _ => ∀ i, i < k → s.word i = 0) (fun r => ∃ b : UInt8, r = (b, true) ∧ s.has b.toNat = true)
  (fun k u hk hI => by
   show (∃ s', Ag_ s k = _ ∧ _) ∨ ∃ r, Ag_ s k = _ ∧ _
   unfold Ag_
   by_cases hw : s.word k = 0
   ·refine .inl ⟨(), ?_, fun i hi => ?_⟩
    ·rw [iteO_dt (by omega), grd_mk hk, iteO_df (by rw [hw]; simp)]; rfl
    ·by_cases e : i = k
     ·rw [e]; exact hw
     ·exact hI i (by omega)
   ·obtain ⟨j, hj, ht, he⟩ := ctz_eq hw (word_lt' s k)
    have hv : (toU8 (IntKind.i64.wrap ((IntKind.i64.wrap (64 * ((k : Nat) : Int))) + ((j : Nat) : Int)))).toNat = 64 * k + j := by
     rw [wrap64_of (a := 64 * ((k : Nat) : Int)) (by omega) (by omega), wrap64_of (by omega) (by omega)]
     have := toU8_val (64 * ((k : Nat) : Int) + ((j : Nat) : Int))
     rw [wrap_u8] at this
     omega
    refine .inr ⟨(toU8 (IntKind.i64.wrap ((IntKind.i64.wrap (64 * ((k : Nat) : Int))) + ((j : Nat) : Int))), true), ?_, _, rfl, ?_⟩
    ·rw [iteO_dt (by omega), grd_mk hk, iteO_dt hw, he]; rfl
    ·rw [hv, has_bitF, show (64 * k + j) / 64 = k by omega, show (64 * k + j) % 64 = j by omega]; exact ht)
  (fun u hI => by
   refine absurd ?_ h0
   have h1 := hI 0 (by omega)
   have h2 := hI 1 (by omega)
   have h3 := hI 2 (by omega)
   have h4 := hI 3 (by omega)
   rw [← BSet.zero_iff]
   exact ⟨by rw [show s.a = 0 from h1]; rfl, by rw [show s.b = 0 from h2]; rfl, by rw [show s.c = 0 from h3]; rfl, by rw [show s.d = 0 from h4]; rfl⟩) (s0 := ()) (fun i hi => absurd hi (by omega))
 exact ⟨b, h, hb⟩
end Go.Proofs.YtnpbfjdpglfdkaaGreatDoor
end

section
namespace Go.Proofs.YtnpbfjdpglfdkaaGreatDoor
open Go Go.E
theorem u64or_lt' (a b : Nat) : u64or a b < 18446744073709551616 := (BitVec.ofNat 64 a ||| BitVec.ofNat 64 b).isLt
theorem has_bit' (s : BSet) (n : Nat) : s.has n = (s.word (n / 64)).testBit (n % 64) := by
  unfold BSet.has; rw [Nat.testBit_eq_decide_div_mod_eq]
theorem Jm_ {s t : BSet} (h : ∀ n, n < 256 → s.has n = t.has n) : s = t := by
  refine BSet.ext_word fun i hi => Nat.eq_of_testBit_eq fun j => ?_
  by_cases hj : j < 64
  · have h1 := h (64 * i + j) (by omega)
    rw [has_bit', has_bit', show (64 * i + j) / 64 = i by omega, show (64 * i + j) % 64 = j by omega] at h1
    exact h1
  · have h2 : ∀ u : BSet, (u.word i).testBit j = false := fun u => Nat.testBit_lt_two_pow (Nat.lt_of_lt_of_le (BSet.word_lt u.isOk i) (show 2 ^ 64 ≤ 2 ^ j from Nat.pow_le_pow_right (by omega) (by omega)))
    rw [h2, h2]
theorem any_eq (a b : BSet) : Eb_ a b = some (BSet.make fun n => a.has n || b.has n) := by
  have h : ∃ r, Eb_ a b = some r ∧ ∀ i, i < 4 → r.word i = u64or (a.word i) (b.word i) := by
    unfold Eb_
    exact iter_up (step := fun q : BSet × Nat => Bs_ b q.1 q.2) (fun (s : BSet) k => (s, k)) 4 (fun k s => ∀ i, i < 4 → s.word i = if i < k then u64or (a.word i) (b.word i) else a.word i) (fun r => ∀ i, i < 4 → r.word i = u64or (a.word i) (b.word i))
      (fun k s hk hI => .inl ⟨BSet.setWord s k (u64or (BSet.word s k) (BSet.word b k)), by
        show Bs_ b s k = _
        unfold Bs_
        rw [iteO_dt (by omega), grd_mk hk, grd_mk hk, grd_mk hk, grd_mk (u64or_lt' _ _)]; rfl, fun i hi => by
        rw [BSet.word_set s hk _ i (u64or_lt' _ _) hi]
        by_cases e : i = k
        · subst e; rw [if_pos rfl, if_pos (by omega), hI i hi, if_neg (by omega)]
        · rw [if_neg e, hI i hi]
          by_cases e2 : i < k
          · rw [if_pos e2, if_pos (by omega)]
          · rw [if_neg e2, if_neg (by omega)]⟩)
      (fun s hI => ⟨s, by
        show Bs_ b s 4 = _
        unfold Bs_
        rw [iteO_df (by omega)]; rfl, fun i hi => by rw [hI i hi, if_pos hi]⟩) (s0 := a) (fun i hi => by rw [if_neg (by omega)])
  obtain ⟨r, h1, h2⟩ := h
  rw [h1]
  congr 1
  refine Jm_ fun n hn => ?_
  have l1 := BSet.word_lt a.isOk (n / 64)
  have l2 := BSet.word_lt b.isOk (n / 64)
  rw [BSet.make_has _ hn, has_bit', has_bit', has_bit', h2 _ (by omega)]
  unfold u64or
  rw [BitVec.toNat_or, BitVec.toNat_ofNat, BitVec.toNat_ofNat, Nat.mod_eq_of_lt l1, Nat.mod_eq_of_lt l2, Nat.testBit_or]
def cntS (o : Option Nat) (n : Int) : Option Nat := o.bind fun k => if n < 0 ∨ (k : Int) < n then none else some (if n = k then k + 1 else k)
def cntF (l : List Int) : Option Nat := l.foldl cntS (some 0)
theorem cntS_none : ∀ l : List Int, l.foldl cntS none = none
  | [] => rfl
  | _ :: l => cntS_none l
theorem cntF_snoc (l : List Int) (n : Int) : cntF (l ++ [n]) = cntS (cntF l) n := by simp [cntF, List.foldl_append]
theorem cntF_none {l m : List Int} (h : cntF l = none) : cntF (l ++ m) = none := by
  unfold cntF at h ⊢; rw [List.foldl_append, h, cntS_none]
theorem cntF_le : ∀ (l : List Int) (j k : Nat), l.foldl cntS (some j) = some k → k ≤ j + l.length
  | [], j, k, h => by cases h; simp
  | n :: l, j, k, h => by
    rw [List.foldl_cons] at h
    by_cases hc : n < 0 ∨ (j : Int) < n
    · rw [show cntS (some j) n = none by simp [cntS, hc], cntS_none] at h; cases h
    · rw [show cntS (some j) n = some (if n = j then j + 1 else j) by simp [cntS, hc]] at h
      have := cntF_le l _ k h
      simp only [List.length_cons]
      split at this <;> omega
def clsF (cls : List Int) (k c : Nat) : Nat → Bool := fun b => decide (b < k) && decide (nth cls b (0 : Int) = ((c : Nat) : Int))
def clsS (cls : List Int) (c : Nat) : BSet := BSet.make fun b => decide (nth cls b (0 : Int) = ((c : Nat) : Int))
structure SetsI (cls : List Int) (k : Nat) (s : List BSet) : Prop where
  cnt : cntF (cls.take k) = some s.length
  sets : ∀ c, c < s.length → nth s c BSet.zero = BSet.make (clsF cls k c)
  low : ∀ b, b < k → 0 ≤ nth cls b (0 : Int) ∧ nth cls b (0 : Int) < ((s.length : Nat) : Int)
  some_ : ∀ c, c < s.length → ∃ b, b < k ∧ nth cls b (0 : Int) = ((c : Nat) : Int)
theorem nth_set' {α : Type} (l : List α) (i j : Nat) (x d : α) (hi : i < l.length) : nth (l.set i x) j d = if j = i then x else nth l j d := by
  unfold nth
  rw [List.getD_eq_getElem?_getD, List.getD_eq_getElem?_getD, List.getElem?_set]
  by_cases h : i = j
  · subst h; rw [if_pos rfl, if_pos rfl, if_pos hi]; rfl
  · rw [if_neg h, if_neg (fun e => h e.symm)]
theorem nth_app_l {α : Type} (l m : List α) (j : Nat) (d : α) (h : j < l.length) : nth (l ++ m) j d = nth l j d := by
  unfold nth; rw [List.getD_eq_getElem?_getD, List.getD_eq_getElem?_getD, List.getElem?_append_left h]
theorem nth_app_e {α : Type} (l : List α) (x d : α) : nth (l ++ [x]) l.length d = x := by
  unfold nth; rw [List.getD_eq_getElem?_getD, List.getElem?_append_right (Nat.le_refl _)]; simp
theorem take_cons' {l : List Int} {k : Nat} (h : k < l.length) : l.take (k + 1) = l.take k ++ [nth l k 0] := by
  rw [List.take_add_one, getD_some l h 0]; rfl
theorem of1' (k : Nat) (hk : k < 256) {n : Nat} (h : n < 256) : (BSet.ofL [toU8 ((k : Nat) : Int)]).has n = decide (n = k) := by
  unfold BSet.ofL
  rw [BSet.make_has _ h]
  have := toU8_val ((k : Nat) : Int)
  rw [wrap_u8] at this
  have e : (toU8 ((k : Nat) : Int)).toNat = k := by omega
  simp [e]
theorem sets_put {cls : List Int} {k : Nat} {s l : List BSet} (hk : k < 256) (hI : SetsI cls k s) {n : Nat} (hn : nth cls k (0 : Int) = ((n : Nat) : Int)) (hle : s.length ≤ l.length) (hl : l.length ≤ s.length + 1) (hnl : n < l.length) (hs : ∀ c, c < s.length → nth l c BSet.zero = nth s c BSet.zero) (hz : s.length < l.length → n = s.length ∧ nth l n BSet.zero = BSet.zero)
    (hc : cntF (cls.take (k + 1)) = some l.length) : SetsI cls (k + 1) (l.set n (BSet.make fun b => (nth l n BSet.zero).has b || (BSet.ofL [toU8 ((k : Nat) : Int)]).has b)) where
  cnt := by rw [List.length_set]; exact hc
  sets := fun c hcl => by
    rw [List.length_set] at hcl
    rw [nth_set' _ _ _ _ _ hnl]
    by_cases e : c = n
    · subst e
      rw [if_pos rfl]
      refine BSet.make_congr fun b hb => ?_
      rw [of1' k hk hb]
      have h0 : (nth l c BSet.zero).has b = clsF cls k c b := by
        by_cases h1 : c < s.length
        · rw [hs c h1, hI.sets c h1, BSet.make_has _ hb]
        · have h2 := hz (by omega)
          rw [h2.2]
          have h3 : clsF cls k c b = false := by
            unfold clsF
            by_cases hbk : b < k
            · have := (hI.low b hbk).2
              rw [decide_eq_false (show ¬ nth cls b (0 : Int) = ((c : Nat) : Int) by omega), Bool.and_false]
            · rw [decide_eq_false hbk, Bool.false_and]
          rw [h3, ← BSet.make_zero, BSet.make_has _ hb]
      rw [h0]
      unfold clsF
      by_cases hb2 : b = k
      · subst hb2; rw [hn]; simp
      · by_cases hb3 : b < k
        · rw [decide_eq_true hb3, decide_eq_true (show b < k + 1 by omega), decide_eq_false hb2, Bool.or_false]
        · rw [decide_eq_false hb3, decide_eq_false (show ¬ b < k + 1 by omega), decide_eq_false hb2]; rfl
    · rw [if_neg e]
      have h1 : c < s.length := by
        by_cases h2 : s.length < l.length
        · have := (hz h2).1; omega
        · omega
      rw [hs c h1, hI.sets c h1]
      refine BSet.make_congr fun b hb => ?_
      unfold clsF
      by_cases hb2 : b = k
      · subst hb2
        rw [decide_eq_false (Nat.lt_irrefl _), hn, decide_eq_false (show ¬ ((n : Nat) : Int) = ((c : Nat) : Int) by omega)]; simp
      · rw [decide_eq_decide.2 (show b < k ↔ b < k + 1 by omega)]
  low := fun b hb => by
    rw [List.length_set]
    by_cases e : b = k
    · subst e; rw [hn]; omega
    · have := hI.low b (by omega); omega
  some_ := fun c hcl => by
    rw [List.length_set] at hcl
    by_cases h1 : c < s.length
    · obtain ⟨b, h2, h3⟩ := hI.some_ c h1; exact ⟨b, by omega, h3⟩
    · have h2 := hz (by omega)
      exact ⟨k, by omega, by rw [hn]; omega⟩
theorem partSets_full (cls : List Int) : ∃ r, Da_ cls = some r ∧ (((cls.length ≠ 256 ∨ cntF cls = none) ∧ r.2 = 1) ∨ (cls.length = 256 ∧ cntF cls = some r.1.length ∧ r.2 = 0 ∧ (∀ c, c < r.1.length → nth r.1 c BSet.zero = clsS cls c) ∧ ∀ c, c < r.1.length → ∃ b, b < 256 ∧ nth cls b (0 : Int) = ((c : Nat) : Int))) := by
  unfold Da_
  by_cases h256 : cls.length = 256
  · rw [iteO_df (show ¬ ((cls.length : Nat) : Int) ≠ 256 by omega)]
    obtain ⟨r, h1, h2⟩ := iter_up (step := fun q : List BSet × Nat => Ax_ cls q.1 q.2) (fun (s : List BSet) k => (s, k)) 256 (fun k s => SetsI cls k s) (fun r => (cntF cls = none ∧ r.2 = 1) ∨ (SetsI cls 256 r.1 ∧ r.2 = 0))
      (fun k s hk hI => by
        have hk' : k < cls.length := by omega
        have hsp : cls = cls.take k ++ (nth cls k 0 :: cls.drop (k + 1)) := by
          rw [← List.singleton_append, ← List.append_assoc, ← take_cons' hk', List.take_append_drop]
        have hle := cntF_le _ _ _ hI.cnt
        rw [List.length_take, Nat.zero_add] at hle
        have hstop : (nth cls k 0 < 0 ∨ (s.length : Int) < nth cls k 0) → cntF cls = none := fun hc => by
          rw [hsp, ← List.singleton_append, ← List.append_assoc]
          exact cntF_none (by rw [cntF_snoc, hI.cnt]; simp [cntS, hc])
        have hgo : ∀ l : List BSet, 0 ≤ nth cls k 0 → nth cls k 0 < (l.length : Int) → B6_ cls k l = some (.inl (l.set (nth cls k (0 : Int)).toNat (BSet.make fun b => (nth l (nth cls k (0 : Int)).toNat BSet.zero).has b || (BSet.ofL [toU8 ((k : Nat) : Int)]).has b), k + 1)) := fun l h0 h1 => by
          unfold B6_; rw [grd_mk ⟨h0, h1⟩, grd_mk (by simp), bnd_some (any_eq _ _), grd_mk ⟨h0, h1⟩]; rfl
        show (∃ s', Ax_ cls s k = _ ∧ _) ∨ ∃ r, Ax_ cls s k = _ ∧ _
        unfold Ax_
        rw [iteO_dt (by omega)]
        by_cases c1 : nth cls k 0 < 0
        · right; rw [iteO_dt c1]; exact ⟨_, rfl, .inl ⟨hstop (.inl c1), rfl⟩⟩
        rw [iteO_df c1]
        by_cases c2 : (s.length : Int) < nth cls k 0
        · right; rw [iteO_dt c2]; exact ⟨_, rfl, .inl ⟨hstop (.inr c2), rfl⟩⟩
        rw [iteO_df c2]
        left
        by_cases c3 : nth cls k 0 = (s.length : Int)
        · rw [iteO_dt c3, grd_mk (by simp; omega), hgo _ (by omega) (by simp; omega)]
          refine ⟨_, rfl, sets_put hk hI (n := (nth cls k (0 : Int)).toNat) (by omega) (by simp) (by simp) (by simp; omega) (fun c hc => nth_app_l _ _ _ _ hc) (fun _ => ⟨by omega, ?_⟩) ?_⟩
          · rw [show (nth cls k (0 : Int)).toNat = s.length by omega, nth_app_e]
          · rw [take_cons' hk', cntF_snoc, hI.cnt]; simp [cntS, c3]
        · rw [iteO_df c3, hgo _ (by omega) (by omega)]
          refine ⟨_, rfl, sets_put hk hI (n := (nth cls k (0 : Int)).toNat) (by omega) (Nat.le_refl _) (by omega) (by omega) (fun _ _ => rfl) (fun h => absurd h (Nat.lt_irrefl _)) ?_⟩
          rw [take_cons' hk', cntF_snoc, hI.cnt]; simp [cntS, c3]; omega)
      (fun s hI => ⟨(s, 0), by
        show Ax_ cls s 256 = _
        unfold Ax_
        rw [iteO_df (by omega)]; rfl, .inr ⟨hI, rfl⟩⟩) (s0 := []) ⟨rfl, by simp, by simp, by simp⟩
    refine ⟨r, h1, ?_⟩
    rcases h2 with ⟨h2, h3⟩ | ⟨h2, h3⟩
    · exact .inl ⟨.inr h2, h3⟩
    · have h4 := h2.cnt
      rw [List.take_of_length_le (by omega)] at h4
      refine .inr ⟨h256, h4, h3, fun c hc => ?_, h2.some_⟩
      rw [h2.sets c hc]
      exact BSet.make_congr fun b hb => by unfold clsF; rw [decide_eq_true hb, Bool.true_and]
  · rw [iteO_dt (show ((cls.length : Nat) : Int) ≠ 256 by omega)]
    exact ⟨_, rfl, .inl ⟨.inl h256, rfl⟩⟩
end Go.Proofs.YtnpbfjdpglfdkaaGreatDoor
end

section
namespace Go.E
open Go
structure Grow where
  f : Fst
  over : Bool
end Go.E
end

section
namespace Go.E
open Go
def TB (X : Ctx) (R : Exit → Act → World → Prop) (c : Code) (e : Env) (σ : Store) (H : List Res) : Prop :=
  ∀ w a, RM X a σ w H → St X.n e a → c.wpIn (fence X.rnd) 0 X.P R a w
def TLB (X : Ctx) (ops : Array Oper) (R : Exit → Act → World → Prop) (l : List Oper) (e : Env) (σ : Store) (H : List Res) : Prop :=
  ∀ w a, RM X a σ w H → St X.n e a → wpListIn (fence X.rnd) 0 X.P ops R l a w
section rules
variable {X : Ctx} {ops : Array Oper} {R : Exit → Act → World → Prop} {Q : QP} {e : Env} {σ : Store} {H F : List Res} {o : Oper} {rest : List Oper} {c c1 c2 : Code} {fn : Func} {Post : Value → Store → List Res → Prop}
theorem TB.fin (hR : ∀ ex a w, low X Q ex a w → R ex a w) (h : TC X Q c e σ H) : TB X R c e σ H := fun w a hw ha => Go.wpIn_mono (h w a hw ha) (hR)
theorem TLB.v {v : Value} {d : Nat} (hg : o.guard = none) (h : OpVal X.P X.n o e σ H v) (hd : o.dst = some d) (hn : Nat.blt d X.n = true) (k : TLB X ops R rest (upd e d v) σ H) : TLB X ops R (o :: rest) e σ H := fun w a hw ha =>
  wpListIn_plain hg fun K hK => (OpVal.ok h hd hn (K := fun e' σ' H' => TLB X ops R rest e' σ' H') k).at hw ha fun e' σ' H' a' w' hk hw' ha' => hK a' w' (hk w' a' hw' ha')
theorem TLB.op (hg : o.guard = none) (h : OpOk X o e σ H (TLB X ops R rest)) : TLB X ops R (o :: rest) e σ H := fun w a hw ha =>
  wpListIn_plain hg fun K hK => h.at hw ha fun e' σ' H' a' w' hk hw' ha' => hK a' w' (hk w' a' hw' ha')
end rules
end Go.E
end

section
namespace Go.Proofs.YtnpbfjdpglfdkaaGreatDoor
open Go Go.E Go.E.OpVal Go.E.OpOk
end Go.Proofs.YtnpbfjdpglfdkaaGreatDoor
end

section
namespace Go.E
open Go
@[irreducible] def arrA {α : Type} (enc : α → List Value) (l : List α) : Array Value := (l.flatMap enc).toArray
section
variable {P : Program} {n : Nat} {e : Env} {σ : Store} {H : List Res} {o : Oper} {x y : Operand} {α : Type} {enc : α → List Value} {l : List α}
end
end Go.E
end

section
namespace Go.Proofs.YtnpbfjdpglfdkaaGreatDoor
open Go Go.E Go.E.OpVal Go.E.OpOk
end Go.Proofs.YtnpbfjdpglfdkaaGreatDoor
end

section
namespace Go.Proofs.YtnpbfjdpglfdkaaGreatDoor
open Go Go.E Go.E.OpVal Go.E.OpOk Go.Proofs.Tryz
private theorem ag22 : Go.E.aggOf Tryz.prog 22 = some false := by kernel_rfl
private theorem ag23 : Go.E.aggOf Tryz.prog 23 = some false := by kernel_rfl
private theorem ag9 : Go.E.aggOf Tryz.prog 9 = some false := by kernel_rfl
private theorem fo25_0 : Go.E.foOf Tryz.prog 25 0 = some 0 := by kernel_rfl
private theorem fo25_1 : Go.E.foOf Tryz.prog 25 1 = some 1 := by kernel_rfl
private theorem fo25_2 : Go.E.foOf Tryz.prog 25 2 = some 2 := by kernel_rfl
private theorem fo25_3 : Go.E.foOf Tryz.prog 25 3 = some 3 := by kernel_rfl
private theorem fo59_3 : Go.E.foOf Tryz.prog 59 3 = some 6 := by kernel_rfl
private theorem fo62_1 : Go.E.foOf Tryz.prog 62 1 = some 1 := by kernel_rfl
private theorem sz59 : Go.E.szOf Tryz.prog 59 = some 8 := by kernel_rfl
private theorem sz62 : Go.E.szOf Tryz.prog 62 = some 2 := by kernel_rfl
noncomputable def C5_ (x0 : List (List UInt8)) (x1 : List (List UInt8)) (k104 : Nat) : Option ((Nat) ⊕ (Bool)) :=
 iteO (decide (((k104 : Nat) : Int) < ((x0.length : Nat) : Int))) (grd (k104 < x1.length) (iteO (decide ((nth x0 k104 ([] : List UInt8)) ≠ (nth x1 k104 ([] : List UInt8)))) (fin (some false)) (nxt (k104 + 1)))) (fin (some true))
noncomputable def Fw_ (x0 : List (List UInt8)) (x1 : List (List UInt8)) : Option (Bool) :=
 iteO (decide (((x0.length : Nat) : Int) ≠ ((x1.length : Nat) : Int))) (some false) (iter (fun q : Nat => C5_ x0 x1 q) 0)
noncomputable def Bb_ (x0 : Fst) (i123 : Int) : Option (Bool) :=
 iteO (decide (i123 ≤ 60)) (iteO (decide (x0.states ≤ 20)) (some true) (some (decide (1024 < x0.states)))) (some false)
noncomputable def Ab_ (x0 : Fst) (i128 : Int) (k129 : Nat) : Option ((Int × Nat) ⊕ (Bool)) :=
 iteO (decide (((k129 : Nat) : Int) < ((x0.arcs.length : Nat) : Int))) (iteO (decide (i128 ≤ 60)) (nxt ((IntKind.i64.wrap (i128 + (IntKind.i64.wrap (Int.tdiv ((((nth x0.arcs k129 Arc.zero).out).length : Nat) : Int) 40)))), (k129 + 1))) (fin (Bb_ x0 i128))) (fin (Bb_ x0 i128))
noncomputable def Bc_ (x0 : Fst) (i113 : Int) : Option (Bool) :=
 iter (fun q : Int × Nat => Ab_ x0 q.1 q.2) (i113, 0)
noncomputable def Aa_ (x0 : Fst) (i118 : Int) (k119 : Nat) : Option ((Int × Nat) ⊕ (Bool)) :=
 iteO (decide (((k119 : Nat) : Int) < ((x0.ends.length : Nat) : Int))) (iteO (decide (i118 ≤ 60)) (nxt ((IntKind.i64.wrap (i118 + (IntKind.i64.wrap (Int.tdiv ((((nth x0.ends k119 Tip.zero).out).length : Nat) : Int) 40)))), (k119 + 1))) (fin (Bc_ x0 i118))) (fin (Bc_ x0 i118))
noncomputable def Bd_ (x0 : Fst) (i103 : Int) : Option (Bool) :=
 iter (fun q : Int × Nat => Aa_ x0 q.1 q.2) (i103, 0)
noncomputable def Ac_ (x0 : Fst) (i108 : Int) (k109 : Nat) : Option ((Int × Nat) ⊕ (Bool)) :=
 iteO (decide (((k109 : Nat) : Int) < ((x0.starts.length : Nat) : Int))) (iteO (decide (i108 ≤ 60)) (nxt ((IntKind.i64.wrap (i108 + (IntKind.i64.wrap (Int.tdiv ((((nth x0.starts k109 Tip.zero).out).length : Nat) : Int) 40)))), (k109 + 1))) (fin (Bd_ x0 i108))) (fin (Bd_ x0 i108))
noncomputable def Cn_ (x0 : Fst) : Option (Bool) :=
 iter (fun q : Int × Nat => Ac_ x0 q.1 q.2) ((IntKind.i64.wrap ((IntKind.i64.wrap (((x0.starts.length : Nat) : Int) + ((x0.ends.length : Nat) : Int))) + ((x0.arcs.length : Nat) : Int))), 0)
theorem G4_ {σ : Store} {x0 : Fst} {a0_0 : Option Addr} {c0_0 : Nat} {a0_1 : Option Addr} {c0_1 : Nat} {a0_2 : Option Addr} {c0_2 : Nat} (f0_0 : RS σ 2 encTip (.slice a0_0 x0.starts.length c0_0) x0.starts) (f0_1 : RS σ 2 encTip (.slice a0_1 x0.ends.length c0_1) x0.ends) (f0_2 : RS σ 8 encArc (.slice a0_2 x0.arcs.length c0_2) x0.arcs) {r : Bool} (hh : Cn_ x0 = some r) :
  Con Tryz.prog 12 #[.agg #[.int .i64 x0.states, .slice a0_0 x0.starts.length c0_0, .slice a0_1 x0.ends.length c0_1, .slice a0_2 x0.arcs.length c0_2]] σ [] (PureP (.bool r) σ) := by
 dsimp only [Cn_] at hh
 have f0_0b := f0_0.rv.big
 have f0_1b := f0_1.rv.big
 have f0_2b := f0_2.rv.big
 refine Con.mk (n := 93) Tryz.func12 z z z (fun w0 => ?_)
 refine TC.a (TL.op z (boxA z z z z (fun b101 => ?_)))
 refine TL.j z z (TL.en (TC.a (TL.w z (fieldLoc z fo25_1 z) (TL.w z (loadLoc z ag22 z (i := 0) z z) (TL.w z (lenC z underlying22 z) (TL.w z (fieldLoc z fo25_2 z) (TL.w z (loadLoc z ag22 z (i := 0) z z) (TL.w z (lenC z underlying22 z) (TL.w z (addW z z z) (TL.w z (fieldLoc z fo25_3 z) (TL.w z (loadLoc z ag23 z (i := 0) z z) (TL.w z (lenC z underlying23 z) (TL.w z (addW z z z) (TL.i z z (TL.en (TC.cutG (α := (Int) × (Unit)) (rgs [(3, 2), (18, 21)]) (fun g => [(3, .int .i64 g.1)]) (fun g => [Res.cells b101 #[.int .i64 x0.states, .slice a0_0 x0.starts.length c0_0, .slice a0_1 x0.ends.length c0_1, .slice a0_2 x0.arcs.length c0_2] 25]) (fun g => σ) (fun g => Bd_ x0 g.1 = some r) ?_ (fun g j hg => ?_)))))))))))))))))
 ·skip
  refine TC.a (TL.i z z (TL.en (TC.block (TC.loopG (α := (Int × Nat) × (Unit)) (rgs [(3, 2), (18, 21)]) (fun g => [(3, .int .i64 g.1.1), (4, .int .i64 ((g.1.2 : Nat) : Int))]) (fun g => [Res.cells b101 #[.int .i64 x0.states, .slice a0_0 x0.starts.length c0_0, .slice a0_1 x0.ends.length c0_1, .slice a0_2 x0.arcs.length c0_2] 25]) (fun g => σ) (fun g => iter (fun q : Int × Nat => Ac_ x0 q.1 q.2) g.1 = some r) (fun g => rounds (fun q : Int × Nat => Ac_ x0 q.1 q.2) g.1) (((IntKind.i64.wrap ((IntKind.i64.wrap (((x0.starts.length : Nat) : Int) + ((x0.ends.length : Nat) : Int))) + ((x0.arcs.length : Nat) : Int))), 0), ()) (Sub.pre 1 z) z (by repeat (first | exact trivial | refine ⟨z, ?_⟩)) hh (fun g1 j1 hg1 => ?_)))))
  obtain ⟨⟨i108, k109⟩, _⟩ := g1
  have hh := hg1; clear hg1
  try dsimp only
  obtain ⟨z1, hh, hR1⟩ := iter_e hh
  dsimp only [Ac_] at hh
  refine TC.seq (TC.a (TL.i z z (TL.w z (fieldLoc z fo25_1 z) (TL.w z (loadLoc z ag22 z (i := 0) z z) (TL.w z (lenC z underlying22 z) (TL.w z (OpVal.lss z z z) (TL.j z z (TL.split 23 z (fun h110 => ?_) (fun h110 => ?_)))))))))
  ·replace hh := iteO_t h110 hh
   replace h110 := of_decide_eq_true h110
   refine TL.g z (moveI (.inl z) z) (TL.g z (OpVal.leq z z z) (TL.w z (pickTB z z z) (TL.en (TC.cD z hh (fun h111 hh => ?_) (fun h111 hh => ?_)))))
   ·refine TC.skip (S.n (TC.seq (TC.block (TC.region (TL.i z z (TL.w z (fieldLoc z fo25_1 z) (TL.w z (loadLoc z ag22 z (i := 0) z z) (TL.i z z (TL.w z (indexN z underlying22 sz62 z z f0_0.rv.sl (by omega)) (TL.w z (fieldElem z fo62_1 z f0_0.rv.sl (by omega)) (TL.w z (loadS Tip.zero z ag9 z f0_0 (by omega) (by omega) z) (TL.w z (lenBs z underlying9 z) (TL.w z (quoW z z z (by decide)) (TL.w z (addW z z z) (TL.i z z (TL.nil (B.n (S.n (TC.region (TL.i z z (TL.w z (OpVal.succ z z z (by omega)) (TL.i z z (TL.en ?_)))))))))))))))))))))))
    obtain ⟨hh, hlt112⟩ := nxt_x hR1 hh
    exact lf (((IntKind.i64.wrap (i108 + (IntKind.i64.wrap (Int.tdiv ((((nth x0.starts k109 Tip.zero).out).length : Nat) : Int) 40)))), (k109 + 1)), ()) hlt112 hh (Sub.pre 1 z)
   ·refine TC.exit (S.x (S.x ?_))
    replace hh := fin_x hR1 hh
    exact TC.exitHere (S.n (cf (i108, ()) hh (Sub.pre 1 z)))
  ·replace hh := iteO_f h110 hh
   replace h110 := of_decide_eq_false h110
   refine TL.f z (TL.f z (TL.w z (pickFB z z z) (TL.en (TC.f z (TC.exit (S.x (S.x ?_)))))))
   replace hh := fin_x hR1 hh
   exact TC.exitHere (S.n (cf (i108, ()) hh (Sub.pre 1 z)))
 ·skip
  obtain ⟨i103, _⟩ := g
  have hh := hg; clear hg
  try dsimp only
  dsimp only [Bd_] at hh
  refine TC.cutG (α := (Int) × (Unit)) (rgs [(3, 1), (5, 1), (39, 21)]) (fun g => [(3, .int .i64 g.1)]) (fun g => [Res.cells b101 #[.int .i64 x0.states, .slice a0_0 x0.starts.length c0_0, .slice a0_1 x0.ends.length c0_1, .slice a0_2 x0.arcs.length c0_2] 25]) (fun g => σ) (fun g => Bc_ x0 g.1 = some r) ?_ (fun g j hg => ?_)
  ·skip
   refine TC.a (TL.i z z (TL.en (TC.block (TC.loopG (α := (Int × Nat) × (Unit)) (rgs [(3, 1), (5, 1), (39, 21)]) (fun g => [(3, .int .i64 g.1.1), (5, .int .i64 ((g.1.2 : Nat) : Int))]) (fun g => [Res.cells b101 #[.int .i64 x0.states, .slice a0_0 x0.starts.length c0_0, .slice a0_1 x0.ends.length c0_1, .slice a0_2 x0.arcs.length c0_2] 25]) (fun g => σ) (fun g => iter (fun q : Int × Nat => Aa_ x0 q.1 q.2) g.1 = some r) (fun g => rounds (fun q : Int × Nat => Aa_ x0 q.1 q.2) g.1) ((i103, 0), ()) (Sub.pre 1 z) z (by repeat (first | exact trivial | refine ⟨z, ?_⟩)) hh (fun g2 j2 hg2 => ?_)))))
   obtain ⟨⟨i118, k119⟩, _⟩ := g2
   have hh := hg2; clear hg2
   try dsimp only
   obtain ⟨z1, hh, hR1⟩ := iter_e hh
   dsimp only [Aa_] at hh
   refine TC.seq (TC.a (TL.i z z (TL.w z (fieldLoc z fo25_2 z) (TL.w z (loadLoc z ag22 z (i := 0) z z) (TL.w z (lenC z underlying22 z) (TL.w z (OpVal.lss z z z) (TL.j z z (TL.split 44 z (fun h120 => ?_) (fun h120 => ?_)))))))))
   ·replace hh := iteO_t h120 hh
    replace h120 := of_decide_eq_true h120
    refine TL.g z (moveI (.inl z) z) (TL.g z (OpVal.leq z z z) (TL.w z (pickTB z z z) (TL.en (TC.cD z hh (fun h121 hh => ?_) (fun h121 hh => ?_)))))
    ·refine TC.skip (S.n (TC.seq (TC.block (TC.region (TL.i z z (TL.w z (fieldLoc z fo25_2 z) (TL.w z (loadLoc z ag22 z (i := 0) z z) (TL.i z z (TL.w z (indexN z underlying22 sz62 z z f0_1.rv.sl (by omega)) (TL.w z (fieldElem z fo62_1 z f0_1.rv.sl (by omega)) (TL.w z (loadS Tip.zero z ag9 z f0_1 (by omega) (by omega) z) (TL.w z (lenBs z underlying9 z) (TL.w z (quoW z z z (by decide)) (TL.w z (addW z z z) (TL.i z z (TL.nil (B.n (S.n (TC.region (TL.i z z (TL.w z (OpVal.succ z z z (by omega)) (TL.i z z (TL.en ?_)))))))))))))))))))))))
     obtain ⟨hh, hlt122⟩ := nxt_x hR1 hh
     exact lf (((IntKind.i64.wrap (i118 + (IntKind.i64.wrap (Int.tdiv ((((nth x0.ends k119 Tip.zero).out).length : Nat) : Int) 40)))), (k119 + 1)), ()) hlt122 hh (Sub.pre 1 z)
    ·refine TC.exit (S.x (S.x ?_))
     replace hh := fin_x hR1 hh
     exact TC.exitHere (S.n (cf (i118, ()) hh (Sub.pre 1 z)))
   ·replace hh := iteO_f h120 hh
    replace h120 := of_decide_eq_false h120
    refine TL.f z (TL.f z (TL.w z (pickFB z z z) (TL.en (TC.f z (TC.exit (S.x (S.x ?_)))))))
    replace hh := fin_x hR1 hh
    exact TC.exitHere (S.n (cf (i118, ()) hh (Sub.pre 1 z)))
  ·skip
   obtain ⟨i113, _⟩ := g
   have hh := hg; clear hg
   try dsimp only
   dsimp only [Bc_] at hh
   refine TC.cutG (α := (Int) × (Unit)) (rgs [(3, 1), (6, 1), (60, 21)]) (fun g => [(3, .int .i64 g.1)]) (fun g => [Res.cells b101 #[.int .i64 x0.states, .slice a0_0 x0.starts.length c0_0, .slice a0_1 x0.ends.length c0_1, .slice a0_2 x0.arcs.length c0_2] 25]) (fun g => σ) (fun g => Bb_ x0 g.1 = some r) ?_ (fun g j hg => ?_)
   ·skip
    refine TC.a (TL.i z z (TL.en (TC.block (TC.loopG (α := (Int × Nat) × (Unit)) (rgs [(3, 1), (6, 1), (60, 21)]) (fun g => [(3, .int .i64 g.1.1), (6, .int .i64 ((g.1.2 : Nat) : Int))]) (fun g => [Res.cells b101 #[.int .i64 x0.states, .slice a0_0 x0.starts.length c0_0, .slice a0_1 x0.ends.length c0_1, .slice a0_2 x0.arcs.length c0_2] 25]) (fun g => σ) (fun g => iter (fun q : Int × Nat => Ab_ x0 q.1 q.2) g.1 = some r) (fun g => rounds (fun q : Int × Nat => Ab_ x0 q.1 q.2) g.1) ((i113, 0), ()) (Sub.pre 1 z) z (by repeat (first | exact trivial | refine ⟨z, ?_⟩)) hh (fun g3 j3 hg3 => ?_)))))
    obtain ⟨⟨i128, k129⟩, _⟩ := g3
    have hh := hg3; clear hg3
    try dsimp only
    obtain ⟨z1, hh, hR1⟩ := iter_e hh
    dsimp only [Ab_] at hh
    refine TC.seq (TC.a (TL.i z z (TL.w z (fieldLoc z fo25_3 z) (TL.w z (loadLoc z ag23 z (i := 0) z z) (TL.w z (lenC z underlying23 z) (TL.w z (OpVal.lss z z z) (TL.j z z (TL.split 65 z (fun h130 => ?_) (fun h130 => ?_)))))))))
    ·replace hh := iteO_t h130 hh
     replace h130 := of_decide_eq_true h130
     refine TL.g z (moveI (.inl z) z) (TL.g z (OpVal.leq z z z) (TL.w z (pickTB z z z) (TL.en (TC.cD z hh (fun h131 hh => ?_) (fun h131 hh => ?_)))))
     ·refine TC.skip (S.n (TC.seq (TC.block (TC.region (TL.i z z (TL.w z (fieldLoc z fo25_3 z) (TL.w z (loadLoc z ag23 z (i := 0) z z) (TL.i z z (TL.w z (indexN z underlying23 sz59 z z f0_2.rv.sl (by omega)) (TL.w z (fieldElem z fo59_3 z f0_2.rv.sl (by omega)) (TL.w z (loadS Arc.zero z ag9 z f0_2 (by omega) (by omega) z) (TL.w z (lenBs z underlying9 z) (TL.w z (quoW z z z (by decide)) (TL.w z (addW z z z) (TL.i z z (TL.nil (B.n (S.n (TC.region (TL.i z z (TL.w z (OpVal.succ z z z (by omega)) (TL.i z z (TL.en ?_)))))))))))))))))))))))
      obtain ⟨hh, hlt132⟩ := nxt_x hR1 hh
      exact lf (((IntKind.i64.wrap (i128 + (IntKind.i64.wrap (Int.tdiv ((((nth x0.arcs k129 Arc.zero).out).length : Nat) : Int) 40)))), (k129 + 1)), ()) hlt132 hh (Sub.pre 1 z)
     ·refine TC.exit (S.x (S.x ?_))
      replace hh := fin_x hR1 hh
      exact TC.exitHere (S.n (cf (i128, ()) hh (Sub.pre 1 z)))
    ·replace hh := iteO_f h130 hh
     replace h130 := of_decide_eq_false h130
     refine TL.f z (TL.f z (TL.w z (pickFB z z z) (TL.en (TC.f z (TC.exit (S.x (S.x ?_)))))))
     replace hh := fin_x hR1 hh
     exact TC.exitHere (S.n (cf (i128, ()) hh (Sub.pre 1 z)))
   ·skip
    obtain ⟨i123, _⟩ := g
    have hh := hg; clear hg
    try dsimp only
    dsimp only [Bb_] at hh
    refine TC.a (TL.i z z (TL.w z (OpVal.leq z z z) (TL.j z z (TL.split 83 z (fun h133 => ?_) (fun h133 => ?_)))))
    ·replace hh := iteO_t h133 hh
     replace h133 := of_decide_eq_true h133
     refine TL.g z (fieldLoc z fo25_0 z) (TL.g z (loadLoc z ag3 z (i := 0) z z) (TL.g z (OpVal.leq z z z) (TL.g z (moveB (.inl z) z) (TL.split 87 z (fun h134 => ?_) (fun h134 => ?_)))))
     ·replace hh := iteO_t h134 hh
      replace h134 := of_decide_eq_true h134
      refine TL.f z (TL.f z (TL.f z (TL.g z (pickTB z z z) (TL.w z (pickTB z z z) (TL.j z z (TL.en (TC.rt 0 ?_)))))))
      obtain rfl := so hh
      exact rq [2] ⟨z, z, z⟩
     ·replace hh := iteO_f h134 hh
      replace h134 := of_decide_eq_false h134
      refine TL.g z (fieldLoc z fo25_0 z) (TL.g z (loadLoc z ag3 z (i := 0) z z) (TL.g z (OpVal.gtr z z z) (TL.g z (pickFB z z z) (TL.w z (pickTB z z z) (TL.j z z (TL.en (TC.rt 0 ?_)))))))
      obtain rfl := so hh
      exact rq [2] ⟨z, z, z⟩
    ·replace hh := iteO_f h133 hh
     replace h133 := of_decide_eq_false h133
     refine TL.f z (TL.f z (TL.f z (TL.f z (TL.f z (TL.f z (TL.f z (TL.f z (TL.w z (pickFB z z z) (TL.j z z (TL.en (TC.rt 0 ?_)))))))))))
     obtain rfl := so hh
     exact rq [2] ⟨z, z, z⟩
end Go.Proofs.YtnpbfjdpglfdkaaGreatDoor
end

section
namespace Go.Proofs.YtnpbfjdpglfdkaaGreatDoor
open Go Go.E
section
variable {α : Type} [DecidableEq α] (d : α)
def ddN (l : List α) : Nat → List α
  | 0 => []
  | n + 1 => ddN l n ++ (if n = 0 ∨ nth l n d ≠ nth l (n - 1) d then [nth l n d] else [])
theorem mem_ddN (l : List α) : ∀ n, n ≤ l.length → ∀ x, x ∈ ddN d l n ↔ x ∈ l.take n
  | 0, _, x => by simp [ddN]
  | n + 1, h, x => by
    rw [ddN, take_snoc l (by omega) d, List.mem_append, List.mem_append, mem_ddN l n (by omega)]
    by_cases hc : n = 0 ∨ nth l n d ≠ nth l (n - 1) d
    · rw [if_pos hc]
    · rw [if_neg hc]
      simp only [not_or, ne_eq, Decidable.not_not] at hc
      have : nth l n d ∈ l.take n := by
        rw [hc.2]
        have h1 : (l.take n)[n - 1]? = some (nth l (n - 1) d) := by rw [List.getElem?_take, if_pos (by omega)]; exact getD_some l (by omega) d
        exact List.mem_of_getElem? h1
      constructor
      · rintro (h | h)
        · exact .inl h
        · cases h
      · rintro (h | h)
        · exact .inl h
        · rw [List.mem_singleton.1 h]; exact .inl this
theorem nth_set_ne {l : List α} {k i : Nat} {v : α} (h : i ≠ k) : nth (l.set k v) i d = nth l i d := by
  simp [nth, List.getD, List.getElem?_set, Ne.symm h]
include d in
theorem take_set_succ {l : List α} {k : Nat} {v : α} (h : k < l.length) : (l.set k v).take (k + 1) = l.take k ++ [v] := by
  rw [take_snoc (l.set k v) (by simpa using h) d]
  congr 1
  · rw [List.take_set_of_le (Nat.le_refl _)]
  · simp [nth, List.getD, h]
noncomputable def gC_j (k125 : Nat) (l128 : List α) (k130 : Nat) : Option ((List α × Nat × Nat) ⊕ (Nat ⊕ List α)) :=
  nxt (l128, k130, (k125 + 1))
noncomputable def gC_b2 (x0 : List α) (k105 : Nat) (l122 : List α) (k124 : Nat) (k125 : Nat) : Option ((List α × Nat × Nat) ⊕ (Nat ⊕ List α)) :=
  iteO (decide (((k125 : Nat) : Int) < (((x0.length - k105) : Nat) : Int))) (grd (k125 < (x0.length - k105)) (grd (0 ≤ (IntKind.i64.wrap (((k125 : Nat) : Int) - 1)) ∧ (IntKind.i64.wrap (((k125 : Nat) : Int) - 1)) < ((x0.length - k105) : Nat)) (iteO (decide (¬ ((nth l122 (k105 + k125) d) = (nth l122 (k105 + (IntKind.i64.wrap (((k125 : Nat) : Int) - 1)).toNat) d)))) (grd (k125 < (x0.length - k105)) (grd (k124 < l122.length) (gC_j k125 (l122.set k124 (nth l122 (k105 + k125) d)) (k124 + 1)))) (gC_j k125 l122 k124)))) (fin (grd (k124 ≤ x0.length) (grd (k124 ≤ (l122.take k124 ++ List.replicate (l122.length - k124) d).length) (fin (some ((l122.take k124 ++ List.replicate (l122.length - k124) d).take k124))))))
noncomputable def gC_b1 (x0 : List α) (k105 : Nat) : Option ((Nat) ⊕ (List α)) :=
  iteO (decide (((k105 : Nat) : Int) < ((x0.length : Nat) : Int))) (grd (0 ≤ (IntKind.i64.wrap (((k105 : Nat) : Int) - 1)) ∧ (IntKind.i64.wrap (((k105 : Nat) : Int) - 1)) < (x0.length : Int)) (iteO (decide ((nth x0 k105 d) = (nth x0 ((IntKind.i64.wrap (((k105 : Nat) : Int) - 1)).toNat) d))) (grd (k105 ≤ x0.length) (iter (fun q : (List α) × Nat × Nat => gC_b2 d x0 k105 q.1 q.2.1 q.2.2) (x0, k105, 1))) (nxt (k105 + 1)))) (fin (some x0))
noncomputable def gC (x0 : List α) : Option (List α) :=
  iteO (decide (((x0.length : Nat) : Int) < 2)) (some x0) (iter (fun q : Nat => gC_b1 d x0 q) 1)
theorem wrap_pred {k : Nat} (h1 : 1 ≤ k) (h2 : k ≤ 281474976710656) : IntKind.i64.wrap ((k : Int) - 1) = ((k - 1 : Nat) : Int) := by
  rw [wrap64_of (by omega) (by omega)]; omega
theorem gC_in {l : List α} (hl : l.length ≤ 281474976710656) {k0 : Nat} (h0 : 1 ≤ k0) (hk : k0 < l.length) (he : nth l k0 d = nth l (k0 - 1) d) (hd : ddN d l k0 = l.take k0) :
    iter (fun q : (List α) × Nat × Nat => gC_b2 d l k0 q.1 q.2.1 q.2.2) (l, k0, 1) = some (.inr (ddN d l l.length)) := by
  refine Exists.elim (iter_run (step := fun q : (List α) × Nat × Nat => gC_b2 d l k0 q.1 q.2.1 q.2.2)
    (fun q => 1 ≤ q.2.2 ∧ k0 + q.2.2 ≤ l.length ∧ q.1.length = l.length ∧ q.2.1 ≤ k0 + q.2.2 - 1 ∧ (∀ i, k0 + q.2.2 - 1 ≤ i → nth q.1 i d = nth l i d) ∧ q.1.take q.2.1 = ddN d l (k0 + q.2.2))
    (fun r => r = .inr (ddN d l l.length)) (fun q => l.length - q.2.2) ?_ (l, k0, 1) ⟨Nat.le_refl _, hk, rfl, by simp only; omega, fun _ _ => rfl, ?_⟩) (fun r hr => by rw [hr.1, hr.2])
  · rintro ⟨l2, k, j⟩ ⟨hj, hjl, hlen, hkj, hI, ht⟩
    simp only at hj hjl hlen hkj hI ht
    have hw : IntKind.i64.wrap ((j : Int) - 1) = ((j - 1 : Nat) : Int) := wrap_pred hj (by omega)
    by_cases hlt : k0 + j < l.length
    · left
      have e1 := hI (k0 + j) (by omega)
      have e2 := hI (k0 + (j - 1)) (by omega)
      simp only [gC_b2, hw, Int.toNat_natCast, decide_eq_true (show ((j : Nat) : Int) < ((l.length - k0 : Nat) : Int) by omega), iteO_true,
        grd_mk (show j < l.length - k0 by omega), grd_mk (show (0 : Int) ≤ ((j - 1 : Nat) : Int) ∧ ((j - 1 : Nat) : Int) < ((l.length - k0 : Nat) : Int) by omega), e1, e2]
      have e3 : k0 + (j - 1) = k0 + j - 1 := by omega
      by_cases hc : nth l (k0 + j) d = nth l (k0 + (j - 1)) d
      · simp only [hc, not_true_eq_false, decide_false, iteO_false, gC_j]
        refine ⟨_, rfl, ⟨by simp only; omega, by simp only; omega, hlen, by simp only; omega, fun i hi => hI i (by simp only at hi; omega), ?_⟩, by simp only; omega⟩
        simp only
        rw [ht, ← Nat.add_assoc, ddN, if_neg, List.append_nil]
        rw [hc, e3]; simp; omega
      · simp only [hc, not_false_eq_true, decide_true, iteO_true, grd_mk (show k < l2.length by omega), gC_j]
        refine ⟨_, rfl, ⟨by simp only; omega, by simp only; omega, by simp only [List.length_set]; exact hlen, by simp only; omega, fun i hi => ?_, ?_⟩, by simp only; omega⟩
        · simp only at hi ⊢
          rw [nth_set_ne d (by omega)]; exact hI i (by omega)
        · simp only
          rw [take_set_succ d (by omega), ht, ← Nat.add_assoc, ddN, if_pos]
          rw [e3] at hc; exact .inr hc
    · right
      have hjl' : k0 + j = l.length := by omega
      have hkl : (l2.take k).length = k := by rw [List.length_take]; omega
      refine ⟨.inr (ddN d l l.length), ?_, rfl⟩
      simp only [gC_b2, decide_eq_false (show ¬ ((j : Nat) : Int) < ((l.length - k0 : Nat) : Int) by omega), iteO_false, grd_mk (show k ≤ l.length by omega)]
      rw [grd_mk (by rw [List.length_append, hkl]; omega), List.take_append_of_le_length (by omega), List.take_of_length_le (by omega), ht, hjl']
      rfl
  · simp only
    rw [ddN, if_neg (by rw [he]; simp; omega), List.append_nil, hd]
theorem gC_eq {l : List α} (hl : l.length ≤ 281474976710656) : gC d l = some (ddN d l l.length) := by
  unfold gC
  by_cases h2 : l.length < 2
  · rw [decide_eq_true (by omega), iteO_true]
    match l, h2 with
    | [], _ => rfl
    | [x], _ => rfl
  · rw [decide_eq_false (by omega), iteO_false]
    refine Exists.elim (iter_run (step := fun q : Nat => gC_b1 d l q) (fun k => 1 ≤ k ∧ k ≤ l.length ∧ ddN d l k = l.take k) (fun r => r = ddN d l l.length) (fun k => l.length - k) ?_ 1 ⟨Nat.le_refl _, by omega, ?_⟩) (fun r hr => by rw [hr.1, hr.2])
    · rintro k ⟨h1, hk, hd⟩
      by_cases hlt : k < l.length
      · simp only [gC_b1, wrap_pred h1 (show k ≤ 281474976710656 by omega), Int.toNat_natCast, decide_eq_true (show ((k : Nat) : Int) < ((l.length : Nat) : Int) by omega), iteO_true,
          grd_mk (show (0 : Int) ≤ ((k - 1 : Nat) : Int) ∧ ((k - 1 : Nat) : Int) < (l.length : Int) by omega)]
        by_cases hc : nth l k d = nth l (k - 1) d
        · right
          simp only [hc, decide_true, iteO_true, grd_mk hk]
          exact ⟨_, gC_in d hl h1 hlt hc hd, rfl⟩
        · left
          simp only [hc, decide_false, iteO_false]
          refine ⟨k + 1, rfl, ⟨by omega, by omega, ?_⟩, by omega⟩
          rw [ddN, if_pos (.inr hc), hd, take_snoc l hlt d]
      · right
        have : k = l.length := by omega
        refine ⟨l, ?_, ?_⟩
        · simp only [gC_b1, decide_eq_false (show ¬ ((k : Nat) : Int) < ((l.length : Nat) : Int) by omega), iteO_false]; rfl
        · rw [← this, hd, List.take_of_length_le (by omega)]
    · rw [ddN, if_pos (.inl rfl), take_snoc l (by omega) d]; simp [ddN]
end
def onceL {α : Type} [DecidableEq α] (d : α) (cf : α → α → Int) (l : List α) : List α := ddN d (sortL cf l) l.length
section
variable {α : Type} [DecidableEq α] {d : α} {cf : α → α → Int}
theorem By_ (l : List α) : (sortL cf l).length = l.length := List.length_mergeSort _
theorem mem_onceL {l : List α} {x : α} : x ∈ onceL d cf l ↔ x ∈ l := by
  have h := By_ (cf := cf) l
  rw [onceL, mem_ddN d _ _ (by omega), List.take_of_length_le (by omega), sortL, List.mem_mergeSort]
theorem GoodCmp.le_trans (hc : GoodCmp cf) {x y z : α} (h1 : ¬ cf y x < 0) (h2 : ¬ cf z y < 0) : ¬ cf z x < 0 := fun h3 => by
  by_cases e : x = y
  · subst e; exact h2 h3
  · by_cases e' : y = z
    · subst e'; exact h1 h3
    · have a := hc.anti y x; have b := hc.anti z y; have a' := hc.eq y x; have b' := hc.eq z y
      have h4 : cf y z < 0 := by
        rw [hc.anti]
        have : cf z y ≠ 0 := fun h => e' ((b'.1 h).symm)
        omega
      exact h1 (hc.trans _ _ _ h4 h3)
theorem In_ (hc : GoodCmp cf) (l : List α) : (sortL cf l).Pairwise fun x y => ¬ cf y x < 0 := by
  have := List.pairwise_mergeSort (le := fun x y => !decide (cf y x < 0)) (fun a b c h1 h2 => by
    simp only [Bool.not_eq_true', decide_eq_false_iff_not] at *
    exact hc.le_trans h1 h2) (fun a b => by
    have := hc.anti a b
    simp only [Bool.or_eq_true, Bool.not_eq_true', decide_eq_false_iff_not]; omega) l
  exact this.imp fun h => by simpa using h
theorem sorted_onceL (hc : GoodCmp cf) (l : List α) : (onceL d cf l).Pairwise fun x y => cf x y < 0 := by
  have hs := In_ hc l
  have hlen := By_ (cf := cf) l
  unfold onceL
  generalize sortL cf l = s at hs hlen
  have key : ∀ n, n ≤ s.length → (ddN d s n).Pairwise fun x y => cf x y < 0 := by
    intro n
    induction n with
    | zero => intro _; exact List.Pairwise.nil
    | succ n ih =>
      intro h
      rw [ddN]
      split
      · rename_i hn
        rw [List.pairwise_append]
        refine ⟨ih (by omega), List.pairwise_singleton .., fun x hx y hy => ?_⟩
        rw [List.mem_singleton.1 hy]
        rw [mem_ddN d s n (by omega)] at hx
        have hn0 : n ≠ 0 := fun e => by subst e; simp at hx
        have hne : nth s n d ≠ nth s (n - 1) d := by rcases hn with h | h; exact absurd h hn0; exact h
        obtain ⟨i, hi, hxi⟩ := List.mem_iff_getElem.1 hx
        have hi' : i < n := by simp at hi; omega
        have hxi : s[i]'(by omega) = x := by rw [← hxi, List.getElem_take]
        have hp := List.pairwise_iff_getElem.1 hs
        have eN : ∀ {k : Nat} (hk : k < s.length), nth s k d = s[k] := fun hk => by simp [nth, List.getD, hk]
        rw [eN (by omega), eN (by omega)] at hne
        rw [eN (by omega)]
        have h1 : cf (s[n - 1]'(by omega)) (s[n]'(by omega)) < 0 := by
          have := hp (n - 1) n (by omega) (by omega) (by omega)
          have a := hc.anti (s[n - 1]'(by omega)) (s[n]'(by omega))
          have b := hc.eq (s[n]'(by omega)) (s[n - 1]'(by omega))
          have : cf (s[n]'(by omega)) (s[n - 1]'(by omega)) ≠ 0 := fun h => hne (b.1 h)
          omega
        by_cases hin : i = n - 1
        · subst hin; rw [← hxi]; exact h1
        · have h2 := hp i (n - 1) (by omega) (by omega) (by omega)
          rw [hxi] at h2
          by_cases e : x = s[n - 1]'(by omega)
          · rw [e]; exact h1
          · refine hc.trans _ _ _ ?_ h1
            have a := hc.anti x (s[n - 1]'(by omega))
            have b := hc.eq (s[n - 1]'(by omega)) x
            have : cf (s[n - 1]'(by omega)) x ≠ 0 := fun h => e (b.1 h).symm
            omega
      · rw [List.append_nil]; exact ih (by omega)
  exact key _ (by omega)
theorem rising_ext {R : α → α → Prop} (hi : ∀ x, ¬ R x x) (ht : ∀ x y z, R x y → R y z → R x z) : ∀ {l m : List α}, l.Pairwise R → m.Pairwise R → (∀ x, x ∈ l ↔ x ∈ m) → l = m
  | [], [], _, _, _ => rfl
  | [], y :: m, _, _, h => by have := (h y).2 (List.mem_cons_self ..); cases this
  | x :: l, [], _, _, h => by have := (h x).1 (List.mem_cons_self ..); cases this
  | x :: l, y :: m, hl, hm, h => by
    rw [List.pairwise_cons] at hl hm
    have e : x = y := by
      have h1 := (h x).1 (List.mem_cons_self ..)
      have h2 := (h y).2 (List.mem_cons_self ..)
      rw [List.mem_cons] at h1 h2
      rcases h1 with h1 | h1
      · exact h1
      · rcases h2 with h2 | h2
        · exact h2.symm
        · exact absurd (ht _ _ _ (hm.1 x h1) (hl.1 y h2)) (hi y)
    subst e
    rw [rising_ext hi ht hl.2 hm.2 fun z => ?_]
    have := h z
    simp only [List.mem_cons] at this
    constructor
    · intro hz
      rcases this.1 (.inr hz) with e | h'
      · subst e; exact absurd (hl.1 z hz) (hi z)
      · exact h'
    · intro hz
      rcases this.2 (.inr hz) with e | h'
      · subst e; exact absurd (hm.1 z hz) (hi z)
      · exact h'
theorem GoodCmp.irr (hc : GoodCmp cf) (x : α) : ¬ cf x x < 0 := by have := (hc.eq x x).2 rfl; omega
theorem rising_eq (hc : GoodCmp cf) {l m : List α} (hl : l.Pairwise fun x y => cf x y < 0) (hm : m.Pairwise fun x y => cf x y < 0) (h : ∀ x, x ∈ l ↔ x ∈ m) : l = m :=
  rising_ext (R := fun x y => cf x y < 0) hc.irr hc.trans hl hm h
theorem Ir_ (hc : GoodCmp cf) {l m : List α} (h : ∀ x, x ∈ l ↔ x ∈ m) : onceL d cf l = onceL d cf m :=
  rising_eq hc (sorted_onceL hc l) (sorted_onceL hc m) fun x => by rw [mem_onceL, mem_onceL, h]
theorem Gf_ (hc : GoodCmp cf) {l : List α} (h : l.Pairwise fun x y => cf x y < 0) : onceL d cf l = l := rising_eq hc (sorted_onceL hc l) h fun x => mem_onceL
theorem H2_ (l : List α) : (onceL d cf l).length ≤ l.length := by
  have h : ∀ (s : List α) n, (ddN d s n).length ≤ n := fun s n => by
    induction n with
    | zero => exact Nat.le_refl _
    | succ n ih => rw [ddN, List.length_append]; split <;> simp <;> omega
  exact h _ _
end
end Go.Proofs.YtnpbfjdpglfdkaaGreatDoor
end

section
namespace Go.Proofs.YtnpbfjdpglfdkaaGreatDoor
open Go Go.E
theorem I3_ : compactS = gC ([] : List UInt8) := rfl
theorem Iu_ : compactI = gC (0 : Int) := rfl
theorem It_ : compactT = gC Tip.zero := rfl
theorem Iz_ : compactA = gC Arc.zero := rfl
theorem Jh_ {l : List (List UInt8)} (h : l.length * 16 ≤ 140737488355328) : onceS l = some (onceL [] Lib.compareBytes l) := by
  rw [onceS, grd_mk h, I3_, gC_eq [] (by rw [By_]; omega), By_]; rfl
theorem Ji_ {l : List Int} (h : l.length * 8 ≤ 140737488355328) : onceI l = some (onceL 0 cmpI l) := by
  rw [onceI, grd_mk h, Iu_, gC_eq 0 (by rw [By_]; omega), By_]; rfl
theorem Id_ {l : List Tip} (h : l.length * 24 ≤ 140737488355328) : onceT l = some (onceL Tip.zero cmpTip l) := by
  rw [onceT, grd_mk h, It_, gC_eq Tip.zero (by rw [By_]; omega), By_]; rfl
theorem Jf_ {l : List Arc} (h : l.length * 72 ≤ 140737488355328) : onceA l = some (onceL Arc.zero cmpArc l) := by
  rw [onceA, grd_mk h, Iz_, gC_eq Arc.zero (by rw [By_]; omega), By_]; rfl
end Go.Proofs.YtnpbfjdpglfdkaaGreatDoor
end

section
namespace Go.Proofs.YtnpbfjdpglfdkaaGreatDoor
open Go Go.E
def tipB (n : Int) (p : Tip) : Bool := decide (0 ≤ p.state) && decide (p.state < n) && decide ((p.out.length : Int) ≤ 1024)
def tipsB (l : List Tip) (n : Int) : Bool := decide ((l.length : Int) ≤ 1024) && l.all (tipB n)
def arcB (n : Int) (a : Arc) : Bool := decide (0 ≤ a.frm) && decide (a.frm < n) && decide (0 ≤ a.to) && decide (a.to < n) && decide (a.set ≠ BSet.zero) && decide ((a.out.length : Int) ≤ 1024)
def fstB (t : Fst) : Bool := decide (0 ≤ t.states) && decide (t.states ≤ 1024) && decide ((t.arcs.length : Int) ≤ 16384) && tipsB t.starts t.states && tipsB t.ends t.states && t.arcs.all (arcB t.states)
theorem E7_ (s n : Int) : D8_ s n = some (decide (0 ≤ s) && decide (s < n)) := by
  unfold D8_
  by_cases h : 0 ≤ s <;> simp [h]
theorem rightTips_eq (l : List Tip) (n : Int) : Cr_ l n = some (tipsB l n) := by
  unfold Cr_ tipsB
  by_cases h : (l.length : Int) ≤ 1024
  · rw [decide_eq_false (by omega), iteO_false, iter_all (y := true) (no := false) l Tip.zero (tipB n)]
    · rw [decide_eq_true h, Bool.true_and]; cases l.all (tipB n) <;> rfl
    · intro k hk hp
      simp only [tipB, Bool.and_eq_true, decide_eq_true_eq] at hp
      simp only [Bp_, lt_dec hk, iteO_true, E7_, bnd, Option.bind_some, hp.1.1, hp.1.2, decide_true, Bool.and_self, Bool.not_true, iteO_false, decide_eq_false (show ¬ (1024 : Int) < ((nth l k Tip.zero).out.length : Int) by omega)]; rfl
    · intro k hk hp
      simp only [Bp_, lt_dec hk, iteO_true, E7_, bnd, Option.bind_some]
      by_cases hc : (decide (0 ≤ (nth l k Tip.zero).state) && decide ((nth l k Tip.zero).state < n)) = true
      · rw [hc]
        simp only [tipB, hc, Bool.true_and, decide_eq_false_iff_not] at hp
        simp only [Bool.not_true, iteO_false, decide_eq_true (show (1024 : Int) < ((nth l k Tip.zero).out.length : Int) by omega), iteO_true]; rfl
      · simp only [Bool.not_eq_true] at hc
        rw [hc]; rfl
    · simp only [Bp_, Int.lt_irrefl, decide_false, iteO_false]; rfl
  · rw [decide_eq_true (by omega), iteO_true]; simp [h]
theorem Er_ (t : Fst) : C8_ t = some (errB (fstB t)) := by
  unfold C8_
  by_cases h1 : t.states < 0
  · rw [decide_eq_true h1, iteO_true]; simp [fstB, errB, show ¬ 0 ≤ t.states by omega]
  rw [decide_eq_false h1, iteO_false]
  by_cases h2 : 1024 < t.states
  · rw [decide_eq_true h2, iteO_true]; simp [fstB, errB, show ¬ t.states ≤ 1024 by omega]
  rw [decide_eq_false h2, iteO_false]
  by_cases h3 : (16384 : Int) < (t.arcs.length : Int)
  · rw [decide_eq_true h3, iteO_true]; simp only [fstB, decide_eq_false (show ¬ (t.arcs.length : Int) ≤ 16384 by omega), Bool.and_false, Bool.false_and]; rfl
  rw [decide_eq_false h3, iteO_false, rightTips_eq, bnd, Option.bind_some]
  have e0 : fstB t = (tipsB t.starts t.states && tipsB t.ends t.states && t.arcs.all (arcB t.states)) := by
    simp only [fstB, decide_eq_true (show 0 ≤ t.states by omega), decide_eq_true (show t.states ≤ 1024 by omega), decide_eq_true (show (t.arcs.length : Int) ≤ 16384 by omega), Bool.true_and]
  rw [e0]
  cases h4 : tipsB t.starts t.states
  · rfl
  simp only [Bool.not_true, iteO_false, rightTips_eq, bnd, Option.bind_some]
  cases h5 : tipsB t.ends t.states
  · rfl
  simp only [Bool.not_true, iteO_false, Bool.and_self, Bool.true_and]
  rw [iter_all (y := 0) (no := 1) t.arcs Arc.zero (arcB t.states)]
  · rfl
  · intro k hk hp
    simp only [arcB, Bool.and_eq_true, decide_eq_true_eq] at hp
    obtain ⟨⟨⟨⟨⟨p1, p2⟩, p3⟩, p4⟩, p5⟩, p6⟩ := hp
    simp only [Cm_, lt_dec hk, iteO_true, E7_, bnd, Option.bind_some, p1, p2, p3, p4, p5, decide_true, decide_false, Bool.and_self, Bool.not_true, iteO_false, decide_eq_false (show ¬ (1024 : Int) < ((nth t.arcs k Arc.zero).out.length : Int) by omega)]; rfl
  · intro k hk hp
    simp only [Cm_, lt_dec hk, iteO_true, E7_, bnd, Option.bind_some]
    cases hc : (decide (0 ≤ (nth t.arcs k Arc.zero).frm) && decide ((nth t.arcs k Arc.zero).frm < t.states))
    · rfl
    cases hd : (decide (0 ≤ (nth t.arcs k Arc.zero).to) && decide ((nth t.arcs k Arc.zero).to < t.states))
    · rfl
    simp only [Bool.not_true, iteO_false]
    by_cases he : (nth t.arcs k Arc.zero).set = BSet.zero
    · rw [decide_eq_true he]; rfl
    rw [decide_eq_false he, iteO_false]
    have hd' : (decide (0 ≤ (nth t.arcs k Arc.zero).frm) && decide ((nth t.arcs k Arc.zero).frm < t.states) && decide (0 ≤ (nth t.arcs k Arc.zero).to) && decide ((nth t.arcs k Arc.zero).to < t.states)) = true := by rw [Bool.and_assoc, hc, hd]; rfl
    simp only [arcB, hd', Bool.true_and, ne_eq, he, not_false_eq_true, decide_true, decide_eq_false_iff_not] at hp
    rw [decide_eq_true (by omega)]; rfl
  · simp only [Cm_, Int.lt_irrefl, decide_false, iteO_false]; rfl
theorem errB_ne {b : Bool} : decide (errB b ≠ 0) = !b := by cases b <;> rfl
def outOf (p : FPair) (a : Arc) (b : UInt8) : List UInt8 := if a.copy then (p.out ++ a.out) ++ [b] else p.out ++ a.out
def aftA (g : List Arc) (p : FPair) (b : UInt8) : List FPair := (g.filter fun a => a.set.has b.toNat).map fun a => ⟨a.to, outOf p a b⟩
def aftP (t : Fst) (S : List FPair) (b : UInt8) : List FPair := S.flatMap fun p => aftA (t.arcs.filter fun a => decide (a.frm = p.state)) p b
def tp (x : Tip) : FPair := ⟨x.state, x.out⟩
def pairsL (t : Fst) (w : List UInt8) : List FPair := w.foldl (aftP t) (t.starts.map tp)
def fitsB (t : Fst) (w : List UInt8) : Bool := (List.range w.length).all fun k => decide (card (pairsL t (w.take (k + 1))) ≤ 4096)
def endT (t : Fst) (S : List FPair) : List (List UInt8) := S.flatMap fun p => ((t.ends.filter fun e => decide (e.state = p.state)).map Tip.out).map fun o => p.out ++ o
def outsL (t : Fst) (w : List UInt8) : List (List UInt8) := onceL [] Lib.compareBytes (endT t (pairsL t w))
theorem mem_aftA {g : List Arc} {p q : FPair} {b : UInt8} : q ∈ aftA g p b ↔ ∃ a ∈ g, a.set.has b.toNat = true ∧ q = ⟨a.to, outOf p a b⟩ := by
  simp only [aftA, List.mem_map, List.mem_filter]
  constructor
  · rintro ⟨a, ⟨h1, h2⟩, h3⟩; exact ⟨a, h1, h2, h3.symm⟩
  · rintro ⟨a, h1, h2, h3⟩; exact ⟨a, ⟨h1, h2⟩, h3.symm⟩
theorem mem_aftP {t : Fst} {S : List FPair} {b : UInt8} {q : FPair} : q ∈ aftP t S b ↔ ∃ p ∈ S, ∃ a ∈ t.arcs, a.frm = p.state ∧ a.set.has b.toNat = true ∧ q = ⟨a.to, outOf p a b⟩ := by
  simp only [aftP, List.mem_flatMap, mem_aftA, List.mem_filter, decide_eq_true_eq]
  constructor
  · rintro ⟨p, h1, a, ⟨h2, h3⟩, h4, h5⟩; exact ⟨p, h1, a, h2, h3, h4, h5⟩
  · rintro ⟨p, h1, a, h2, h3, h4, h5⟩; exact ⟨p, h1, a, ⟨h2, h3⟩, h4, h5⟩
theorem aftA_snoc (g : List Arc) (a : Arc) (p : FPair) (b : UInt8) : aftA (g ++ [a]) p b = aftA g p b ++ (if a.set.has b.toNat then [⟨a.to, outOf p a b⟩] else []) := by
  rw [aftA, List.filter_append, List.map_append]
  cases h : a.set.has b.toNat <;> simp [aftA, h]
theorem b2_step (x0 : List (List Arc)) (z : FPair × Unit) (b : UInt8) (S : List FPair) (hS : card S ≤ 4096) (hz : z.1.out.length ≤ 100000000) (hg : ∀ a ∈ nth x0 z.1.state.toNat [], a.out.length ≤ 1024) :
    iter (fun q : (FM FPair Unit) × Nat => Br_ x0 z b q.1 q.2) (FM.ofL S, 0) =
      some (if card (S ++ aftA (nth x0 z.1.state.toNat []) z.1 b) ≤ 4096 then .inl (FM.ofL (S ++ aftA (nth x0 z.1.state.toNat []) z.1 b)) else .inr (FM.emp, false)) := by
  generalize hgd : nth x0 z.1.state.toNat ([] : List Arc) = g at hg
  refine Exists.elim (iter_run (step := fun q : (FM FPair Unit) × Nat => Br_ x0 z b q.1 q.2)
    (fun q => q.2 ≤ g.length ∧ q.1 = FM.ofL (S ++ aftA (g.take q.2) z.1 b) ∧ card (S ++ aftA (g.take q.2) z.1 b) ≤ 4096)
    (fun r => r = if card (S ++ aftA g z.1 b) ≤ 4096 then .inl (FM.ofL (S ++ aftA g z.1 b)) else .inr (FM.emp, false)) (fun q => g.length - q.2) ?_ (FM.ofL S, 0) ⟨Nat.zero_le _, by simp [aftA], by simpa [aftA] using hS⟩) (fun r hr => by rw [hr.1, hr.2])
  rintro ⟨m, k⟩ ⟨hk, hm, hc⟩
  simp only at hk hm hc
  subst hm
  by_cases hlt : k < g.length
  · have hmem : nth g k Arc.zero ∈ g := nth_mem' hlt _
    have ho := hg _ hmem
    have hsn : aftA (g.take (k + 1)) z.1 b = aftA (g.take k) z.1 b ++ (if (nth g k Arc.zero).set.has b.toNat then [⟨(nth g k Arc.zero).to, outOf z.1 (nth g k Arc.zero) b⟩] else []) := by rw [take_snoc g hlt Arc.zero, aftA_snoc]
    cases hh : (nth g k Arc.zero).set.has b.toNat
    · left
      rw [hh] at hsn
      refine ⟨(FM.ofL (S ++ aftA (g.take k) z.1 b), k + 1), ?_, ⟨by simp only; omega, by simp only [hsn]; simp, by simp only [hsn]; simpa using hc⟩, by simp only; omega⟩
      simp only [Br_, hgd, lt_dec hlt, iteO_true, hh, Bool.not_false]; rfl
    · rw [hh] at hsn
      simp only [if_true] at hsn
      have hout : Br_ x0 z b (FM.ofL (S ++ aftA (g.take k) z.1 b)) k = Dn_ (FM.ofL (S ++ aftA (g.take k) z.1 b)) x0 z k (outOf z.1 (nth g k Arc.zero) b) := by
        simp only [Br_, hgd, lt_dec hlt, iteO_true, hh, Bool.not_true, iteO_false]
        rw [grd_mk (by omega)]
        unfold outOf
        cases (nth g k Arc.zero).copy
        · simp
        · simp only [iteO_true, if_true]
          rw [grd_mk (by simp only [List.length_append, List.length_singleton]; omega)]
      have hput : FM.put (FM.ofL (S ++ aftA (g.take k) z.1 b)) (⟨(nth g k Arc.zero).to, outOf z.1 (nth g k Arc.zero) b⟩ : FPair) () = FM.ofL (S ++ aftA (g.take (k + 1)) z.1 b) := by rw [← FM.ofL_snoc, hsn, List.append_assoc]
      simp only [hout, Dn_, hgd, hput]
      by_cases hbig : card (S ++ aftA (g.take (k + 1)) z.1 b) ≤ 4096
      · left
        refine ⟨(FM.ofL (S ++ aftA (g.take (k + 1)) z.1 b), k + 1), ?_, ⟨by simp only; omega, rfl, hbig⟩, by simp only; omega⟩
        rw [decide_eq_false (by unfold card at hbig; omega), iteO_false]; rfl
      · right
        refine ⟨.inr (FM.emp, false), ?_, ?_⟩
        · rw [decide_eq_true (by unfold card at hbig; omega), iteO_true]; rfl
        · rw [if_neg]
          have : card (S ++ aftA (g.take (k + 1)) z.1 b) ≤ card (S ++ aftA g z.1 b) := card_mono fun x hx => by
            rw [List.mem_append] at *
            refine hx.imp id fun hx => ?_
            rw [mem_aftA] at *
            obtain ⟨a, h1, h2⟩ := hx
            exact ⟨a, List.mem_of_mem_take h1, h2⟩
          omega
  · right
    have e : g.take k = g := List.take_of_length_le (by omega)
    rw [e] at hc ⊢
    rw [if_pos hc]
    refine ⟨_, ?_, rfl⟩
    simp only [Br_, hgd, decide_eq_false (show ¬ ((k : Nat) : Int) < ((g.length : Nat) : Int) by omega), iteO_false]; rfl
def aftG (x0 : List (List Arc)) (S : List FPair) (b : UInt8) : List FPair := S.flatMap fun p => aftA (nth x0 p.state.toNat []) p b
theorem step_run (x0 : List (List Arc)) (b : UInt8) (hg : ∀ i, ∀ a ∈ nth x0 i [], a.out.length ≤ 1024) : ∀ (q : List (FPair × Unit)) (T : List FPair), (∀ z ∈ q, (0 ≤ z.1.state ∧ z.1.state < (x0.length : Int)) ∧ z.1.out.length ≤ 100000000) → card T ≤ 4096 →
    runL (fun (q : (FM FPair Unit)) (oE : Option (FPair × Unit)) => Ck_ x0 b q oE) q (FM.ofL T) = some (if card (T ++ aftG x0 (q.map Prod.fst) b) ≤ 4096 then (FM.ofL (T ++ aftG x0 (q.map Prod.fst) b), true) else (FM.emp, false))
  | [], T, _, hT => by
    simp only [runL, Ck_, optE, fin_some, aftG, List.map_nil, List.flatMap_nil, List.append_nil, if_pos hT]
  | z :: q, T, hq, hT => by
    have hz := hq z (List.mem_cons_self ..)
    have e : T ++ aftG x0 ((z :: q).map Prod.fst) b = (T ++ aftA (nth x0 z.1.state.toNat []) z.1 b) ++ aftG x0 (q.map Prod.fst) b := by simp [aftG]
    have hst : Ck_ x0 b (FM.ofL T) (some z) = some (if card (T ++ aftA (nth x0 z.1.state.toNat []) z.1 b) ≤ 4096 then .inl (FM.ofL (T ++ aftA (nth x0 z.1.state.toNat []) z.1 b)) else .inr (FM.emp, false)) := by
      simp only [Ck_, optE]
      rw [grd_mk hz.1, b2_step x0 z b T hT hz.2 (hg _)]
    simp only [runL, hst]
    by_cases hc : card (T ++ aftA (nth x0 z.1.state.toNat []) z.1 b) ≤ 4096
    · rw [if_pos hc]
      simp only
      rw [step_run x0 b hg q _ (fun y hy => hq y (List.mem_cons_of_mem _ hy)) hc, e]
    · rw [if_neg hc]
      simp only
      rw [if_neg]
      rw [e]
      have := card_mono (S := T ++ aftA (nth x0 z.1.state.toNat []) z.1 b) (T := (T ++ aftA (nth x0 z.1.state.toNat []) z.1 b) ++ aftG x0 (q.map Prod.fst) b) (fun x hx => List.mem_append_left _ hx)
      omega
theorem step_eq (x0 : List (List Arc)) (b : UInt8) (S : List FPair) (hg : ∀ i, ∀ a ∈ nth x0 i [], a.out.length ≤ 1024) (hS : ∀ p ∈ S, (0 ≤ p.state ∧ p.state < (x0.length : Int)) ∧ p.out.length ≤ 100000000) :
    Gj_ x0 (FM.ofL S) b = some (if card (aftG x0 S b) ≤ 4096 then (FM.ofL (aftG x0 S b), true) else (FM.emp, false)) := by
  obtain ⟨q0, hq0⟩ := Rep.ofL S
  unfold Gj_
  refine allP_i q0 hq0 fun q hq => ?_
  have h1 := (Rep.of_ofL hq).1
  have := step_run x0 b hg q [] (fun z hz => hS z.1 ((h1 z).1 hz)) (by decide)
  have hcg : ∀ x, x ∈ [] ++ aftG x0 (q.map Prod.fst) b ↔ x ∈ aftG x0 S b := fun x => by
    simp only [aftG, List.nil_append, List.mem_flatMap, List.mem_map]
    constructor
    · rintro ⟨p, ⟨z, hz, rfl⟩, h⟩; exact ⟨z.1, (h1 z).1 hz, h⟩
    · rintro ⟨p, hp, h⟩; exact ⟨p, ⟨(p, ()), (h1 (p, ())).2 hp, rfl⟩, h⟩
  rw [card_congr hcg, FM.ofL_congr hcg] at this
  exact this
end Go.Proofs.YtnpbfjdpglfdkaaGreatDoor
end

section
namespace Go.Proofs.YtnpbfjdpglfdkaaGreatDoor
open Go Go.E
theorem tipB_ok {n : Int} {p : Tip} (h : tipB n p = true) : (0 ≤ p.state ∧ p.state < n) ∧ p.out.length ≤ 1024 := by
  simp only [tipB, Bool.and_eq_true, decide_eq_true_eq] at h; exact ⟨h.1, by omega⟩
theorem tipsB_ok {n : Int} {l : List Tip} (h : tipsB l n = true) : l.length ≤ 1024 ∧ ∀ p ∈ l, (0 ≤ p.state ∧ p.state < n) ∧ p.out.length ≤ 1024 := by
  simp only [tipsB, Bool.and_eq_true, decide_eq_true_eq, List.all_eq_true] at h
  exact ⟨by omega, fun p hp => tipB_ok (h.2 p hp)⟩
theorem arcB_ok {n : Int} {a : Arc} (h : arcB n a = true) : (0 ≤ a.frm ∧ a.frm < n) ∧ (0 ≤ a.to ∧ a.to < n) ∧ a.set ≠ BSet.zero ∧ a.out.length ≤ 1024 := by
  simp only [arcB, Bool.and_eq_true, decide_eq_true_eq] at h
  obtain ⟨⟨⟨⟨⟨p1, p2⟩, p3⟩, p4⟩, p5⟩, p6⟩ := h
  exact ⟨⟨p1, p2⟩, ⟨p3, p4⟩, p5, by omega⟩
structure FstOk (t : Fst) : Prop where
  st0 : 0 ≤ t.states
  st1 : t.states ≤ 1024
  arcsN : t.arcs.length ≤ 16384
  startsN : t.starts.length ≤ 1024
  endsN : t.ends.length ≤ 1024
  starts : ∀ p ∈ t.starts, (0 ≤ p.state ∧ p.state < t.states) ∧ p.out.length ≤ 1024
  ends : ∀ p ∈ t.ends, (0 ≤ p.state ∧ p.state < t.states) ∧ p.out.length ≤ 1024
  arcs : ∀ a ∈ t.arcs, (0 ≤ a.frm ∧ a.frm < t.states) ∧ (0 ≤ a.to ∧ a.to < t.states) ∧ a.set ≠ BSet.zero ∧ a.out.length ≤ 1024
theorem fstB_iff (t : Fst) : fstB t = true ↔ FstOk t := by
  constructor
  · intro h
    simp only [fstB, Bool.and_eq_true, decide_eq_true_eq, List.all_eq_true] at h
    obtain ⟨⟨⟨⟨⟨h1, h2⟩, h3⟩, h4⟩, h5⟩, h6⟩ := h
    exact ⟨h1, h2, by omega, (tipsB_ok h4).1, (tipsB_ok h5).1, (tipsB_ok h4).2, (tipsB_ok h5).2, fun a ha => arcB_ok (h6 a ha)⟩
  · rintro ⟨h1, h2, h3, h4, h5, h6, h7, h8⟩
    have hT : ∀ l : List Tip, l.length ≤ 1024 → (∀ p ∈ l, (0 ≤ p.state ∧ p.state < t.states) ∧ p.out.length ≤ 1024) → tipsB l t.states = true := fun l hl hp => by
      simp only [tipsB, Bool.and_eq_true, decide_eq_true_eq, List.all_eq_true]
      refine ⟨by omega, fun p hq => ?_⟩
      have := hp p hq
      simp only [tipB, Bool.and_eq_true, decide_eq_true_eq]; omega
    simp only [fstB, Bool.and_eq_true, decide_eq_true_eq, List.all_eq_true]
    refine ⟨⟨⟨⟨⟨h1, h2⟩, by omega⟩, hT _ h4 h6⟩, hT _ h5 h7⟩, fun a ha => ?_⟩
    obtain ⟨p1, p2, p3, p4⟩ := h8 a ha
    simp only [arcB, Bool.and_eq_true, decide_eq_true_eq]
    exact ⟨⟨⟨⟨p1, p2.1⟩, p2.2⟩, p3⟩, by omega⟩
theorem pairsL_snoc (t : Fst) (w : List UInt8) (b : UInt8) : pairsL t (w ++ [b]) = aftP t (pairsL t w) b := by simp [pairsL]
theorem outOf_len (p : FPair) (a : Arc) (b : UInt8) : (outOf p a b).length ≤ p.out.length + a.out.length + 1 := by
  unfold outOf; split <;> simp only [List.length_append, List.length_singleton] <;> omega
theorem pairs_ok {t : Fst} (ht : FstOk t) (w : List UInt8) : ∀ p ∈ pairsL t w, (0 ≤ p.state ∧ p.state < t.states) ∧ p.out.length ≤ 1024 + 1025 * w.length := by
  induction w using rev_ind with
  | h0 =>
    intro p hp
    obtain ⟨x, hx, rfl⟩ := List.mem_map.1 hp
    have := ht.starts x hx
    exact ⟨this.1, by have := this.2; simp only [tp, List.length_nil]; omega⟩
  | h1 w b ih =>
    intro q hq
    rw [pairsL_snoc, mem_aftP] at hq
    obtain ⟨p, hp, a, ha, _, _, rfl⟩ := hq
    have h1 := ht.arcs a ha
    have h2 := (ih p hp).2
    have h3 := outOf_len p a b
    refine ⟨h1.2.1, ?_⟩
    rw [List.length_append, List.length_singleton]
    simp only; omega
theorem b6_run (l229 : List (List (List UInt8))) (z : FPair × Unit) (l : List (List UInt8)) (hz : z.1.out.length ≤ 100000000) (hes : ∀ o ∈ nth l229 z.1.state.toNat [], o.length ≤ 1024) (hl : l.length + (nth l229 z.1.state.toNat []).length ≤ 8000000000) :
    iter (fun q : (List (List UInt8)) × Nat => Ci_ l229 z q.1 q.2) (l, 0) = some (.inl (l ++ (nth l229 z.1.state.toNat []).map fun o => z.1.out ++ o)) := by
  generalize hgd : nth l229 z.1.state.toNat ([] : List (List UInt8)) = es at hes hl
  have := iter_fold (step := fun q : (List (List UInt8)) × Nat => Ci_ l229 z q.1 q.2) (r := .inl (l ++ es.map fun o => z.1.out ++ o)) es [] (fun k => l ++ (es.take k).map fun o => z.1.out ++ o) ?_ ?_
  · simpa using this
  · intro k hk
    have ho := hes _ (nth_mem' hk [])
    simp only [Ci_, hgd, lt_dec hk, iteO_true]
    rw [grd_mk (by omega), grd_mk (by simp only [List.length_append, List.length_map, List.length_take, List.length_singleton]; omega), take_snoc es hk []]
    simp [nxt]
  · simp only [Ci_, hgd, Int.lt_irrefl, decide_false, iteO_false, List.take_length]; rfl
def endG (l229 : List (List (List UInt8))) (q : List (FPair × Unit)) : List (List UInt8) := q.flatMap fun z => (nth l229 z.1.state.toNat []).map fun o => z.1.out ++ o
theorem b5_run (l229 : List (List (List UInt8))) (he : ∀ i, (nth l229 i []).length ≤ 1024 ∧ ∀ o ∈ nth l229 i [], o.length ≤ 1024) : ∀ (q : List (FPair × Unit)) (l : List (List UInt8)), (∀ z ∈ q, (0 ≤ z.1.state ∧ z.1.state < (l229.length : Int)) ∧ z.1.out.length ≤ 100000000) → l.length + q.length * 1024 ≤ 8000000000 →
    runL (fun (q : (List (List UInt8))) (oE : Option (FPair × Unit)) => Ch_ l229 q oE) q l = some (onceL [] Lib.compareBytes (l ++ endG l229 q), 0)
  | [], l, _, hl => by
    simp only [runL, Ch_, optE, Jh_ (l := l) (by simp at hl; omega), bnd, Option.bind_some, fin_some, endG, List.flatMap_nil, List.append_nil]
  | z :: q, l, hq, hl => by
    have hz := hq z (List.mem_cons_self ..)
    have h1 := he z.1.state.toNat
    simp only [List.length_cons] at hl
    have hst : Ch_ l229 l (some z) = some (.inl (l ++ (nth l229 z.1.state.toNat []).map fun o => z.1.out ++ o)) := by
      simp only [Ch_, optE]
      rw [grd_mk hz.1, b6_run l229 z l hz.2 h1.2 (by omega)]
    simp only [runL, hst]
    rw [b5_run l229 he q _ (fun y hy => hq y (List.mem_cons_of_mem _ hy)) (by rw [List.length_append, List.length_map]; omega)]
    simp [endG]
theorem ends_run {t : Fst} (ht : FstOk t) (S : List FPair) (hS : ∀ p ∈ S, (0 ≤ p.state ∧ p.state < t.states) ∧ p.out.length ≤ 100000000) (hc : card S ≤ 4096) :
    iter (fun q : (List (List (List UInt8))) × Nat => Cf_ t (FM.ofL S) q.1 q.2) (List.replicate t.states.toNat [], 0) = some (onceL [] Lib.compareBytes (endT t S), 0) := by
  have ht0 := ht.st0
  refine Exists.elim (iter_run (step := fun q : (List (List (List UInt8))) × Nat => Cf_ t (FM.ofL S) q.1 q.2) (fun q => q.2 ≤ t.ends.length ∧ Grp Tip.state Tip.out t.states.toNat q.1 (t.ends.take q.2))
    (fun r => r = (onceL [] Lib.compareBytes (endT t S), 0)) (fun q => t.ends.length - q.2) ?_ (List.replicate t.states.toNat [], 0) ⟨Nat.zero_le _, by simpa using Grp.nil Tip.state Tip.out t.states.toNat⟩) (fun r hr => by rw [hr.1, hr.2])
  rintro ⟨l, k⟩ ⟨hk, hG⟩
  simp only at hk hG
  have hlen := hG.len
  by_cases hlt : k < t.ends.length
  · left
    have hm := ht.ends _ (nth_mem' hlt Tip.zero)
    have hrow : (nth l (nth t.ends k Tip.zero).state.toNat []).length ≤ 1024 := by
      rw [hG.at hm.1.1 (by omega), List.length_map]
      have := List.length_filter_le (fun x : Tip => decide (x.state = (nth t.ends k Tip.zero).state)) (t.ends.take k)
      rw [List.length_take] at this
      have := ht.endsN; omega
    refine ⟨(l.set (nth t.ends k Tip.zero).state.toNat (nth l (nth t.ends k Tip.zero).state.toNat [] ++ [(nth t.ends k Tip.zero).out]), k + 1), ?_, ⟨by simp only; omega, ?_⟩, by simp only; omega⟩
    · simp only [Cf_, lt_dec hlt, iteO_true]
      rw [grd_mk (by omega), grd_mk (by rw [List.length_singleton]; omega), grd_mk (by omega)]
      rfl
    · simp only
      rw [take_snoc t.ends hlt Tip.zero]
      exact hG.snoc hm.1.1 (by omega)
  · right
    have e : t.ends.take k = t.ends := List.take_of_length_le (by omega)
    rw [e] at hG
    refine ⟨_, ?_, rfl⟩
    simp only [Cf_, decide_eq_false (show ¬ ((k : Nat) : Int) < ((t.ends.length : Nat) : Int) by omega), iteO_false]
    have hrow : ∀ i, (nth l i []).length ≤ 1024 ∧ ∀ o ∈ nth l i [], o.length ≤ 1024 := fun i => by
      by_cases hi : i < t.states.toNat
      · rw [hG.row i hi, List.length_map]
        refine ⟨Nat.le_trans (List.length_filter_le _ _) ht.endsN, fun o ho => ?_⟩
        obtain ⟨x, hx, rfl⟩ := List.mem_map.1 ho
        exact (ht.ends x (List.mem_filter.1 hx).1).2
      · have : nth l i [] = [] := by simp [nth, List.getD, show l.length ≤ i by omega]
        rw [this]; simp
    obtain ⟨q0, hq0⟩ := Rep.ofL S
    rw [allP_i (r := (onceL [] Lib.compareBytes (endT t S), 0)) q0 hq0 fun q hq => ?_]
    · rfl
    · obtain ⟨h1, h2⟩ := Rep.of_ofL hq
      rw [b5_run l hrow q [] (fun z hz => by have := hS z.1 ((h1 z).1 hz); exact ⟨⟨this.1.1, by omega⟩, this.2⟩) (by simp; omega)]
      congr 2
      refine Ir_ cmpB_good fun x => ?_
      simp only [endG, endT, List.nil_append, List.mem_flatMap]
      constructor
      · rintro ⟨z, hz, h⟩
        have hzS := (h1 z).1 hz
        have := hS z.1 hzS
        rw [hG.at this.1.1 (by omega)] at h
        exact ⟨z.1, hzS, h⟩
      · rintro ⟨p, hp, h⟩
        have := hS p hp
        refine ⟨(p, ()), (h1 (p, ())).2 hp, ?_⟩
        rw [hG.at this.1.1 (by omega)]
        exact h
theorem aftG_eq {t : Fst} {l : List (List Arc)} (hG : Grp Arc.frm id t.states.toNat l t.arcs) (S : List FPair) (hS : ∀ p ∈ S, 0 ≤ p.state ∧ p.state < t.states) (b : UInt8) : aftG l S b = aftP t S b := by
  unfold aftG aftP
  rw [List.flatMap_def, List.flatMap_def]
  congr 1
  refine List.map_congr_left fun p hp => ?_
  have := hS p hp
  rw [hG.at this.1 (by omega), List.map_id]
theorem card_start {t : Fst} (ht : FstOk t) : card (t.starts.map tp) ≤ 4096 := by
  have := card_le (t.starts.map tp)
  rw [List.length_map] at this
  have := ht.startsN; omega
theorem Jd_ {t : Fst} (ht : FstOk t) (w : List UInt8) (hw : w.length ≤ 256) (l : List (List Arc)) (hG : Grp Arc.frm id t.states.toNat l t.arcs) :
    iter (fun q : (FM FPair Unit) × Nat => B4_ w l t q.1 q.2) (FM.ofL (t.starts.map tp), 0) = some (if fitsB t w then (outsL t w, 0) else ([], 2)) := by
  have ht0 := ht.st0
  have ht1 := ht.st1
  have hlen := hG.len
  have hrow : ∀ i, ∀ a ∈ nth l i [], a.out.length ≤ 1024 := fun i a ha => by
    by_cases hi : i < t.states.toNat
    · rw [hG.row i hi, List.map_id] at ha
      exact (ht.arcs a (List.mem_filter.1 ha).1).2.2.2
    · have : nth l i [] = [] := by simp [nth, List.getD, show l.length ≤ i by omega]
      rw [this] at ha; cases ha
  refine Exists.elim (iter_run (step := fun q : (FM FPair Unit) × Nat => B4_ w l t q.1 q.2) (fun q => q.2 ≤ w.length ∧ q.1 = FM.ofL (pairsL t (w.take q.2)) ∧ card (pairsL t (w.take q.2)) ≤ 4096 ∧ ∀ j, j < q.2 → card (pairsL t (w.take (j + 1))) ≤ 4096)
    (fun r => r = if fitsB t w then (outsL t w, 0) else ([], 2)) (fun q => w.length - q.2) ?_ (FM.ofL (t.starts.map tp), 0) ⟨Nat.zero_le _, rfl, card_start ht, fun j hj => by cases hj⟩) (fun r hr => by rw [hr.1, hr.2])
  rintro ⟨m, k⟩ ⟨hk, hm, hc, hf⟩
  simp only at hk hm hc hf
  subst hm
  have hok := pairs_ok ht (w.take k)
  have hlt' : (w.take k).length ≤ 256 := by rw [List.length_take]; omega
  by_cases hlt : k < w.length
  · have hstep := step_eq l (nth w k 0) (pairsL t (w.take k)) hrow (fun p hp => by have := hok p hp; exact ⟨⟨this.1.1, by omega⟩, by omega⟩)
    rw [aftG_eq hG _ (fun p hp => (hok p hp).1), ← pairsL_snoc, ← take_snoc w hlt 0] at hstep
    simp only [B4_, lt_dec hlt, iteO_true, hstep, bnd, Option.bind_some]
    by_cases hb : card (pairsL t (w.take (k + 1))) ≤ 4096
    · left
      rw [if_pos hb]
      refine ⟨(FM.ofL (pairsL t (w.take (k + 1))), k + 1), rfl, ⟨by simp only; omega, rfl, hb, fun j hj => ?_⟩, by simp only; omega⟩
      simp only at hj
      by_cases e : j = k
      · subst e; exact hb
      · exact hf j (by omega)
    · right
      rw [if_neg hb]
      refine ⟨([], 2), rfl, ?_⟩
      rw [if_neg]
      intro h
      rw [fitsB, List.all_eq_true] at h
      exact hb (by simpa using h k (List.mem_range.2 hlt))
  · right
    have e : w.take k = w := List.take_of_length_le (by omega)
    have hk' : k = w.length := by omega
    refine ⟨(outsL t w, 0), ?_, ?_⟩
    · simp only [B4_, decide_eq_false (show ¬ ((k : Nat) : Int) < ((w.length : Nat) : Int) by omega), iteO_false]
      rw [grd_mk (by omega), e, ends_run ht _ (fun p hp => by have := pairs_ok ht w p hp; exact ⟨this.1, by omega⟩) (by rw [e] at hc; exact hc)]
      rfl
    · rw [if_pos]
      rw [fitsB, List.all_eq_true]
      intro j hj
      simpa using hf j (by rw [hk']; exact List.mem_range.1 hj)
theorem starts_run (t : Fst) (w : List UInt8) (l : List (List Arc)) {r : List (List UInt8) × Int} (h : iter (fun q : (FM FPair Unit) × Nat => B4_ w l t q.1 q.2) (FM.ofL (t.starts.map tp), 0) = some r) :
    iter (fun q : (FM FPair Unit) × Nat => Cl_ t w l q.1 q.2) (FM.emp, 0) = some r := by
  refine iter_fold (step := fun q : (FM FPair Unit) × Nat => Cl_ t w l q.1 q.2) t.starts Tip.zero (fun k => FM.ofL ((t.starts.take k).map tp)) ?_ ?_
  · intro k hk
    simp only [Cl_, lt_dec hk, iteO_true]
    rw [take_snoc t.starts hk Tip.zero, List.map_append, List.map_cons, List.map_nil, FM.ofL_snoc]
    rfl
  · simp only [Cl_, Int.lt_irrefl, decide_false, iteO_false, List.take_length, h]; rfl
theorem arcs_run {t : Fst} (ht : FstOk t) (w : List UInt8) (hw : w.length ≤ 256) :
    iter (fun q : (List (List Arc)) × Nat => Cg_ t w q.1 q.2) (List.replicate t.states.toNat [], 0) = some (if fitsB t w then (outsL t w, 0) else ([], 2)) := by
  have ht0 := ht.st0
  refine Exists.elim (iter_run (step := fun q : (List (List Arc)) × Nat => Cg_ t w q.1 q.2) (fun q => q.2 ≤ t.arcs.length ∧ Grp Arc.frm id t.states.toNat q.1 (t.arcs.take q.2))
    (fun r => r = if fitsB t w then (outsL t w, 0) else ([], 2)) (fun q => t.arcs.length - q.2) ?_ (List.replicate t.states.toNat [], 0) ⟨Nat.zero_le _, by simpa using Grp.nil Arc.frm id t.states.toNat⟩) (fun r hr => by rw [hr.1, hr.2])
  rintro ⟨l, k⟩ ⟨hk, hG⟩
  simp only at hk hG
  have hlen := hG.len
  by_cases hlt : k < t.arcs.length
  · left
    have hm := ht.arcs _ (nth_mem' hlt Arc.zero)
    have hrow : (nth l (nth t.arcs k Arc.zero).frm.toNat []).length ≤ 16384 := by
      rw [hG.at hm.1.1 (by omega), List.length_map]
      have := List.length_filter_le (fun x : Arc => decide (x.frm = (nth t.arcs k Arc.zero).frm)) (t.arcs.take k)
      rw [List.length_take] at this
      have := ht.arcsN; omega
    refine ⟨(l.set (nth t.arcs k Arc.zero).frm.toNat (nth l (nth t.arcs k Arc.zero).frm.toNat [] ++ [nth t.arcs k Arc.zero]), k + 1), ?_, ⟨by simp only; omega, ?_⟩, by simp only; omega⟩
    · simp only [Cg_, lt_dec hlt, iteO_true]
      rw [grd_mk (by omega), grd_mk (by rw [List.length_singleton]; omega), grd_mk (by omega)]
      rfl
    · simp only
      rw [take_snoc t.arcs hlt Arc.zero]
      exact hG.snoc hm.1.1 (by omega)
  · right
    have e : t.arcs.take k = t.arcs := List.take_of_length_le (by omega)
    rw [e] at hG
    refine ⟨_, ?_, rfl⟩
    simp only [Cg_, decide_eq_false (show ¬ ((k : Nat) : Int) < ((t.arcs.length : Nat) : Int) by omega), iteO_false]
    rw [starts_run t w l (Jd_ ht w hw l hG)]
    rfl
theorem outs_eq (t : Fst) (w : List UInt8) (hw : w.length ≤ 281474976710656) : Ga_ t w = some (if fstB t = true then (if w.length ≤ 256 then (if fitsB t w = true then (outsL t w, 0) else ([], 2)) else ([], 2)) else ([], 1)) := by
  unfold Ga_
  rw [grd_mk hw, Er_, bnd, Option.bind_some, errB_ne]
  by_cases h : fstB t = true
  · have ht := (fstB_iff t).1 h
    have ht0 := ht.st0
    have ht1 := ht.st1
    rw [h, if_pos rfl, Bool.not_true, iteO_false]
    by_cases h2 : w.length ≤ 256
    · rw [decide_eq_false (by omega), iteO_false, if_pos h2, grd_mk (by omega), arcs_run ht w h2]
    · rw [decide_eq_true (by omega), iteO_true, if_neg h2]
  · simp only [Bool.not_eq_true] at h
    rw [h]; rfl
end Go.Proofs.YtnpbfjdpglfdkaaGreatDoor
end

section
namespace Go.Proofs.YtnpbfjdpglfdkaaGreatDoor
open Go Go.E
def endsN (d : Dfa) (m : Nat) : List Int := (List.range m).flatMap fun s => if nth d.fin s false = true then [((s : Nat) : Int)] else []
end Go.Proofs.YtnpbfjdpglfdkaaGreatDoor
end

section
namespace Go.Proofs.YtnpbfjdpglfdkaaGreatDoor
open Go Go.E
theorem partSets_ok (cls : List Int) : ∃ r, Da_ cls = some r ∧ (((cls.length ≠ 256 ∨ cntF cls = none) ∧ r.2 = 1) ∨ (cls.length = 256 ∧ cntF cls = some r.1.length ∧ r.2 = 0)) := by
  obtain ⟨r, h, h1 | h1⟩ := partSets_full cls
  · exact ⟨r, h, .inl h1⟩
  · exact ⟨r, h, .inr ⟨h1.1, h1.2.1, h1.2.2.1⟩⟩
def goodS (n : Nat) (s : Int) : Bool := decide (0 ≤ s) && decide (s < (n : Int))
def goodR (n m : Nat) (row : List Int) : Bool := decide (row.length = m) && row.all (goodS n)
def rightD (d : Dfa) : Bool := decide (d.cls.length = 256) && (match cntF d.cls with | some m => d.next.all (goodR d.next.length m) | none => false) && decide (1 ≤ d.next.length ∧ d.next.length ≤ 1024) && decide (d.fin.length = d.next.length)
theorem all_snocD {α : Type} (p : α → Bool) (l : List α) (x : α) : (l ++ [x]).all p = (l.all p && p x) := by simp [List.all_append]
theorem all_falseD {α : Type} {p : α → Bool} {l : List α} {k : Nat} (hk : k < l.length) (d : α) (h : p (nth l k d) = false) : l.all p = false := by
  rw [List.all_eq_false]; exact ⟨_, List.mem_of_getElem? (getD_some l hk d), by simp [h]⟩
theorem chk_in (d : Dfa) (k : Nat) : ∃ r, iter (fun q : Nat => Bg_ d k q) 0 = some r ∧ (((nth d.next k []).all (goodS d.next.length) = true ∧ r = .inl (k + 1)) ∨ ((nth d.next k []).all (goodS d.next.length) = false ∧ r = .inr 1)) :=
  iter_for (step := fun q : Nat => Bg_ d k q) (fun (_ : Unit) j => j) (nth d.next k []) 0 (fun pre _ => pre.all (goodS d.next.length) = true) (fun r => ((nth d.next k []).all (goodS d.next.length) = true ∧ r = .inl (k + 1)) ∨ ((nth d.next k []).all (goodS d.next.length) = false ∧ r = .inr 1))
    (fun j s hj hI => by
      simp only [Bg_]
      rw [show decide (((j : Nat) : Int) < (((nth d.next k ([] : List Int)).length : Nat) : Int)) = true from decide_eq_true (by omega), iteO_true]
      by_cases c1 : nth (nth d.next k ([] : List Int)) j (0 : Int) < 0
      · right; rw [decide_eq_true c1, iteO_true]; exact ⟨_, rfl, .inr ⟨all_falseD hj 0 (by simp [goodS]; omega), rfl⟩⟩
      rw [decide_eq_false c1, iteO_false]
      by_cases c2 : ((d.next.length : Nat) : Int) ≤ nth (nth d.next k ([] : List Int)) j (0 : Int)
      · right; rw [decide_eq_true c2, iteO_true]; exact ⟨_, rfl, .inr ⟨all_falseD hj 0 (by simp [goodS]; omega), rfl⟩⟩
      rw [decide_eq_false c2, iteO_false]
      left
      exact ⟨(), rfl, by rw [all_snocD, hI]; simp [goodS]; omega⟩)
    (fun s hI => by
      simp only [Bg_]
      rw [show decide ((((nth d.next k ([] : List Int)).length : Nat) : Int) < (((nth d.next k ([] : List Int)).length : Nat) : Int)) = false from decide_eq_false (by omega), iteO_false]
      exact ⟨_, rfl, .inl ⟨hI, rfl⟩⟩) (s0 := ()) rfl
theorem chk_out (d : Dfa) (v : (List BSet) × Int) : ∃ r, iter (fun q : Nat => Bi_ d v q) 0 = some r ∧ ((d.next.all (goodR d.next.length v.1.length) = true ∧ r = 0) ∨ (d.next.all (goodR d.next.length v.1.length) = false ∧ r = 1)) :=
  iter_for (step := fun q : Nat => Bi_ d v q) (fun (_ : Unit) j => j) d.next [] (fun pre _ => pre.all (goodR d.next.length v.1.length) = true) (fun r => (d.next.all (goodR d.next.length v.1.length) = true ∧ r = 0) ∨ (d.next.all (goodR d.next.length v.1.length) = false ∧ r = 1))
    (fun k s hk hI => by
      simp only [Bi_]
      rw [show decide (((k : Nat) : Int) < ((d.next.length : Nat) : Int)) = true from decide_eq_true (by omega), iteO_true]
      by_cases c1 : (nth d.next k ([] : List Int)).length = v.1.length
      · rw [show decide ((((nth d.next k ([] : List Int)).length : Nat) : Int) ≠ ((v.1.length : Nat) : Int)) = false from decide_eq_false (by omega), iteO_false]
        obtain ⟨r, h1, h2 | h2⟩ := chk_in d k
        · left; rw [h1, h2.2]; exact ⟨(), rfl, by rw [all_snocD, hI]; simp [goodR, c1, h2.1]⟩
        · right; rw [h1, h2.2]; exact ⟨_, rfl, .inr ⟨all_falseD hk [] (by simp only [goodR, h2.1, Bool.and_false]), rfl⟩⟩
      · right
        rw [show decide ((((nth d.next k ([] : List Int)).length : Nat) : Int) ≠ ((v.1.length : Nat) : Int)) = true from decide_eq_true (by omega), iteO_true]
        exact ⟨_, rfl, .inr ⟨all_falseD hk [] (by simp [goodR, c1]), rfl⟩⟩)
    (fun s hI => by
      simp only [Bi_]
      rw [show decide (((d.next.length : Nat) : Int) < ((d.next.length : Nat) : Int)) = false from decide_eq_false (by omega), iteO_false]
      exact ⟨_, rfl, .inl ⟨hI, rfl⟩⟩) (s0 := ()) rfl
theorem dcheck_eq (d : Dfa) : Db_ d = some (if rightD d = true then 0 else 1) := by
  unfold Db_
  obtain ⟨v, hv, h⟩ := partSets_ok d.cls
  rw [bnd_some hv]
  rcases h with ⟨h1, h2⟩ | ⟨h1, h2, h3⟩
  · rw [decide_eq_true (show v.2 ≠ 0 by omega), iteO_true]
    rw [if_neg]
    rcases h1 with h1 | h1
    · simp [rightD, h1]
    · simp [rightD, h1]
  · rw [decide_eq_false (show ¬ v.2 ≠ 0 by omega), iteO_false]
    by_cases c1 : d.next.length < 1
    · rw [show decide (((d.next.length : Nat) : Int) < 1) = true from decide_eq_true (by omega), iteO_true, if_neg]
      simp only [rightD, Bool.and_eq_true, decide_eq_true_eq]; omega
    rw [show decide (((d.next.length : Nat) : Int) < 1) = false from decide_eq_false (by omega), iteO_false]
    by_cases c2 : 1024 < d.next.length
    · rw [show decide (1024 < ((d.next.length : Nat) : Int)) = true from decide_eq_true (by omega), iteO_true, if_neg]
      simp only [rightD, Bool.and_eq_true, decide_eq_true_eq]; omega
    rw [show decide (1024 < ((d.next.length : Nat) : Int)) = false from decide_eq_false (by omega), iteO_false]
    by_cases c3 : d.fin.length = d.next.length
    · rw [show decide (((d.fin.length : Nat) : Int) ≠ ((d.next.length : Nat) : Int)) = false from decide_eq_false (by omega), iteO_false]
      obtain ⟨r, hr, hr2⟩ := chk_out d v
      rw [hr]
      have e : rightD d = d.next.all (goodR d.next.length v.1.length) := by
        simp only [rightD, h1, h2, c3, decide_true, Bool.true_and, Bool.and_true]
        rw [show decide (1 ≤ d.next.length ∧ d.next.length ≤ 1024) = true from decide_eq_true (by omega), Bool.and_true]
      rw [e]
      rcases hr2 with ⟨h4, h5⟩ | ⟨h4, h5⟩
      · rw [h4, h5, if_pos rfl]
      · rw [h4, h5, if_neg (by simp)]
    · rw [show decide (((d.fin.length : Nat) : Int) ≠ ((d.next.length : Nat) : Int)) = true from decide_eq_true (by omega), iteO_true, if_neg]
      simp only [rightD, Bool.and_eq_true, decide_eq_true_eq]; omega
theorem cnt_mem : ∀ (l : List Int) (j m : Nat), l.foldl cntS (some j) = some m → j ≤ m ∧ ∀ n ∈ l, 0 ≤ n ∧ n < (m : Int)
  | [], j, m, h => by cases h; simp
  | n :: l, j, m, h => by
    rw [List.foldl_cons] at h
    by_cases hc : n < 0 ∨ (j : Int) < n
    · rw [show cntS (some j) n = none by simp [cntS, hc], cntS_none] at h; cases h
    · rw [show cntS (some j) n = some (if n = j then j + 1 else j) by simp [cntS, hc]] at h
      obtain ⟨h1, h2⟩ := cnt_mem l _ m h
      refine ⟨by split at h1 <;> omega, fun k hk => ?_⟩
      rcases List.mem_cons.1 hk with rfl | hk
      · split at h1 <;> omega
      · exact h2 k hk
def okS (d : Dfa) (s : Int) : Prop := 0 ≤ s ∧ s < (d.next.length : Int)
def dlt (d : Dfa) (s : Int) (b : UInt8) : Int := nth (nth d.next s.toNat ([] : List Int)) ((nth d.cls b.toNat (0 : Int)).toNat) (0 : Int)
theorem nth_memD {α : Type} {l : List α} {i : Nat} (hi : i < l.length) (d : α) : nth l i d ∈ l := List.mem_of_getElem? (getD_some l hi d)
structure DltOk (d : Dfa) (s : Int) (b : UInt8) : Prop where
  cl : b.toNat < d.cls.length
  c : 0 ≤ nth d.cls b.toNat (0 : Int) ∧ nth d.cls b.toNat (0 : Int) < ((nth d.next s.toNat ([] : List Int)).length : Int)
  nx : okS d (dlt d s b)
  f : 0 ≤ dlt d s b ∧ dlt d s b < (d.fin.length : Int)
theorem dlt_ok {d : Dfa} (h : rightD d = true) {s : Int} (hs : okS d s) (b : UInt8) : DltOk d s b := by
  simp only [rightD, Bool.and_eq_true, decide_eq_true_eq] at h
  obtain ⟨⟨⟨h1, h2⟩, h3⟩, h4⟩ := h
  cases hm : cntF d.cls with
  | none => rw [hm] at h2; cases h2
  | some m =>
    rw [hm] at h2
    have hb := UInt8.toNat_lt b
    have hcl : b.toNat < d.cls.length := by omega
    have hc := (cnt_mem d.cls 0 m hm).2 _ (nth_memD hcl 0)
    obtain ⟨hs0, hs1⟩ := hs
    have hrow := List.all_eq_true.1 h2 _ (nth_memD (l := d.next) (i := s.toNat) (by omega) [])
    simp only [goodR, Bool.and_eq_true, decide_eq_true_eq] at hrow
    obtain ⟨hr1, hr2⟩ := hrow
    have hx := List.all_eq_true.1 hr2 _ (nth_memD (l := nth d.next s.toNat []) (i := (nth d.cls b.toNat (0 : Int)).toNat) (by omega) 0)
    simp only [goodS, Bool.and_eq_true, decide_eq_true_eq] at hx
    exact ⟨hcl, ⟨hc.1, by omega⟩, hx, ⟨hx.1, by have := hx.2; unfold dlt; omega⟩⟩
theorem ok0 {d : Dfa} (h : rightD d = true) : okS d 0 := by
  simp only [rightD, Bool.and_eq_true, decide_eq_true_eq] at h
  exact ⟨by omega, by omega⟩
def runD (d : Dfa) (q : Int) (l : List UInt8) : Int := l.foldl (dlt d) q
theorem runD_ok {d : Dfa} (h : rightD d = true) : ∀ (l : List UInt8) {q : Int}, okS d q → okS d (runD d q l)
  | [], _, hq => hq
  | b :: l, q, hq => by
    rw [runD, List.foldl_cons]; exact runD_ok h l (dlt_ok h hq b).nx
end Go.Proofs.YtnpbfjdpglfdkaaGreatDoor
end

section
namespace Go.Proofs.YtnpbfjdpglfdkaaGreatDoor
open Go Go.E
def growSt (g : Grow) (x : Tip) : Grow := if g.over = true ∨ 1024 ≤ g.f.starts.length ∨ 1024 < x.out.length then ⟨g.f, true⟩ else ⟨⟨g.f.states, g.f.starts ++ [x], g.f.ends, g.f.arcs⟩, false⟩
structure RowOk (d : Dfa) (m s b : Nat) : Prop where
  cl : b < d.cls.length
  c0 : 0 ≤ nth d.cls b (0 : Int)
  c1 : nth d.cls b (0 : Int) < ((m : Nat) : Int)
  n0 : 0 ≤ nth (nth d.next s ([] : List Int)) (nth d.cls b (0 : Int)).toNat (0 : Int)
  n1 : nth (nth d.next s ([] : List Int)) (nth d.cls b (0 : Int)).toNat (0 : Int) < ((d.next.length : Nat) : Int)
theorem right_parts {d : Dfa} (h : rightD d = true) : ∃ m, cntF d.cls = some m ∧ d.cls.length = 256 ∧ 1 ≤ d.next.length ∧ d.next.length ≤ 1024 ∧ d.fin.length = d.next.length ∧ (∀ s, s < d.next.length → (nth d.next s ([] : List Int)).length = m ∧ ∀ c, c < m → 0 ≤ nth (nth d.next s ([] : List Int)) c (0 : Int) ∧ nth (nth d.next s ([] : List Int)) c (0 : Int) < ((d.next.length : Nat) : Int)) := by
  simp only [rightD, Bool.and_eq_true, decide_eq_true_eq] at h
  obtain ⟨⟨⟨h1, h2⟩, h3⟩, h4⟩ := h
  cases hm : cntF d.cls with
  | none => rw [hm] at h2; cases h2
  | some m =>
    rw [hm] at h2
    refine ⟨m, rfl, h1, h3.1, h3.2, h4, fun s hs => ?_⟩
    have hrow := List.all_eq_true.1 h2 _ (nth_memD (l := d.next) (i := s) hs [])
    simp only [goodR, Bool.and_eq_true, decide_eq_true_eq] at hrow
    refine ⟨hrow.1, fun c hc => ?_⟩
    have hx := List.all_eq_true.1 hrow.2 _ (nth_memD (l := nth d.next s []) (i := c) (by omega) 0)
    simp only [goodS, Bool.and_eq_true, decide_eq_true_eq] at hx
    exact hx
structure ByI (d : Dfa) (s k : Nat) (l : List BSet) : Prop where
  len : l.length = 1024
  at_ : ∀ z, z < 1024 → nth l z BSet.zero = BSet.make fun b => decide (nth d.cls b (0 : Int) < ((k : Nat) : Int)) && decide (nth (nth d.next s ([] : List Int)) (nth d.cls b (0 : Int)).toNat (0 : Int) = ((z : Nat) : Int))
theorem nth_rep {α : Type} (n i : Nat) (x : α) : nth (List.replicate n x) i x = x := by
  unfold nth
  rw [List.getD_eq_getElem?_getD, List.getElem?_replicate]
  split <;> rfl
end Go.Proofs.YtnpbfjdpglfdkaaGreatDoor
end

section
namespace Go.Proofs.YtnpbfjdpglfdkaaGreatDoor
open Go Go.E
theorem state_con (σ : Store) (s n : Int) : Con Tryz.prog 65 #[.int .i64 s, .int .i64 n] σ [] (PureP (.bool (stateB s n)) σ) := by
  refine Con.mk (n := 12) Tryz.func65 rfl rfl rfl (fun w0 => ?_)
  refine TC.seq ?_
  refine TC.region ?_
  refine TL.v rfl (OpVal.moveB (.inr rfl) rfl) rfl rfl ?_
  refine TL.nil ?_
  refine S.n ?_
  refine TC.seq ?_
  refine TC.region ?_
  refine TL.v rfl (OpVal.moveI (.inl rfl) rfl) rfl rfl ?_
  refine TL.v rfl (OpVal.leq rfl rfl rfl) rfl rfl ?_
  refine TL.v rfl (OpVal.moveB (.inl rfl) rfl) rfl rfl ?_
  refine TL.split 7 rfl (fun h1 => ?_) (fun h1 => ?_)
  · try simp only [decide_eq_true_eq, decide_eq_false_iff_not, Bool.not_eq_true', Bool.not_eq_false', Bool.not_eq_eq_eq_not, Bool.not_true, Bool.not_false, Int.not_lt, Int.not_le, Decidable.not_not] at h1
    refine TL.gv rfl rfl rfl rfl rfl (OpVal.moveI (.inl rfl) rfl) rfl rfl ?_
    refine TL.gv rfl rfl rfl rfl rfl (OpVal.moveI (.inl rfl) rfl) rfl rfl ?_
    refine TL.gv rfl rfl rfl rfl rfl (OpVal.lss rfl rfl rfl) rfl rfl ?_
    refine TL.v rfl (OpVal.pickTB rfl rfl rfl) rfl rfl ?_
    refine TL.v rfl (OpVal.moveB (.inr rfl) rfl) rfl rfl ?_
    refine TL.nil ?_
    refine S.n ?_
    refine TC.ret ?_
    -- leaf 1 ret [h1: t7=True] H=[]
    refine ret1P rfl (congrArg Value.bool ?_)
    simp [stateB, *] <;> omega
  · try simp only [decide_eq_true_eq, decide_eq_false_iff_not, Bool.not_eq_true', Bool.not_eq_false', Bool.not_eq_eq_eq_not, Bool.not_true, Bool.not_false, Int.not_lt, Int.not_le, Decidable.not_not] at h1
    refine TL.goff rfl rfl rfl rfl rfl rfl rfl rfl ?_
    refine TL.goff rfl rfl rfl rfl rfl rfl rfl rfl ?_
    refine TL.goff rfl rfl rfl rfl rfl rfl rfl rfl ?_
    refine TL.v rfl (OpVal.pickFB rfl rfl rfl) rfl rfl ?_
    refine TL.v rfl (OpVal.moveB (.inr rfl) rfl) rfl rfl ?_
    refine TL.nil ?_
    refine S.n ?_
    refine TC.ret ?_
    -- leaf 2 ret [h1: t7=False] H=[]
    refine ret1P rfl (congrArg Value.bool ?_)
    simp [stateB, *] <;> omega
theorem rise_con (σ : Store) (a : Option Addr) (c : Nat) (l : List Int) (st : Int) (hl : RS σ 1 Go.E.encI (.slice a l.length c) l) :
    Con Tryz.prog 64 #[.slice a l.length c, .int .i64 st] σ [] (PureP (.bool (riseB l st)) σ) := by
  have hb := hl.rv.big
  refine Con.mk (n := 32) Tryz.func64 rfl rfl rfl (fun w0 => ?_)
  refine TC.seq ?_
  refine TC.region ?_
  refine TL.v rfl (OpVal.moveB (.inr rfl) rfl) rfl rfl ?_
  refine TL.nil ?_
  refine S.n ?_
  refine TC.seq ?_
  refine TC.seq ?_
  refine TC.region ?_
  refine TL.v rfl (OpVal.moveSl (.inl rfl) rfl) rfl rfl ?_
  refine TL.v rfl (OpVal.lenC rfl Tryz.underlying27 rfl) rfl rfl ?_
  refine TL.v rfl (OpVal.moveI (.inl rfl) rfl) rfl rfl ?_
  refine TL.nil ?_
  refine S.n ?_
  refine TC.block ?_
  refine TC.loopF (α := Nat) [4, 5, 6, 9, 10, 11, 12, 13, 14, 15, 16, 17, 18, 19, 20, 21, 22, 23, 24, 25, 26, 27, 28, 29, 30, 31] (fun k => [(9, .int .i64 (k : Nat))]) (fun _ => _) (fun _ => _) (fun k => k ≤ l.length ∧ ∀ i, i < k → riseFrom st l i = true) (fun k => l.length - k) (0) (by first | exact True.intro | omega | (dsimp only; omega) | (simp; done) | (simp; omega)) (by repeat (first | exact trivial | refine ⟨rfl, ?_⟩)) (by rfl) (by rfl) (fun g1 j1 hg1 => ?_)
  obtain ⟨hk, hi⟩ := hg1
  refine TC.seq ?_
  refine TC.region ?_
  refine TL.v rfl (OpVal.lss rfl rfl rfl) rfl rfl ?_
  refine TL.nil ?_
  refine S.n ?_
  refine TC.seq ?_
  refine TC.condD rfl (fun h1 => ?_) (fun h1 => ?_)
  · try simp only [decide_eq_true_eq, decide_eq_false_iff_not, Bool.not_eq_true', Bool.not_eq_false', Bool.not_eq_eq_eq_not, Bool.not_true, Bool.not_false, Int.not_lt, Int.not_le, Decidable.not_not] at h1
    refine TC.skip ?_
    refine S.n ?_
    refine TC.seq ?_
    refine TC.block ?_
    refine TC.seq ?_
    refine TC.region ?_
    refine TL.v rfl (OpVal.moveI (.inl rfl) rfl) rfl rfl ?_
    refine TL.v rfl (OpVal.indexN rfl Tryz.underlying27 sz3 rfl rfl (by first | assumption | exact (RS.rv (by assumption)).sl) (by omega)) rfl rfl ?_
    refine TL.v rfl (OpVal.loadS1 (0 : Int) rfl ag3 rfl (by assumption) (by omega) rfl) rfl rfl ?_
    refine TL.v rfl (OpVal.moveI (.inr rfl) rfl) rfl rfl ?_
    refine TL.v rfl (OpVal.moveI (.inr rfl) rfl) rfl rfl ?_
    refine TL.nil ?_
    refine S.n ?_
    refine TC.seq ?_
    refine TC.region ?_
    refine TL.v rfl (OpVal.moveI (.inl rfl) rfl) rfl rfl ?_
    refine TL.v rfl (OpVal.moveI (.inl rfl) rfl) rfl rfl ?_
    refine TL.op rfl (OpOk.callP (state_con _ _ _) rfl rfl pf65 rfl rfl rfl ?_)
    refine TL.v rfl (OpVal.not rfl rfl) rfl rfl ?_
    refine TL.v rfl (OpVal.moveB (.inl rfl) rfl) rfl rfl ?_
    refine TL.split 18 rfl (fun h2 => ?_) (fun h2 => ?_)
    · try simp only [decide_eq_true_eq, decide_eq_false_iff_not, Bool.not_eq_true', Bool.not_eq_false', Bool.not_eq_eq_eq_not, Bool.not_true, Bool.not_false, Int.not_lt, Int.not_le, Decidable.not_not] at h2
      refine TL.goff rfl rfl rfl rfl rfl rfl rfl rfl ?_
      refine TL.goff rfl rfl rfl rfl rfl rfl rfl rfl ?_
      refine TL.goff rfl rfl rfl rfl rfl rfl rfl rfl ?_
      refine TL.goff' rfl rfl rfl rfl rfl rfl rfl ?_
      refine TL.goff' rfl rfl rfl rfl rfl rfl rfl ?_
      refine TL.goff' rfl rfl rfl rfl rfl rfl rfl ?_
      refine TL.goff' rfl rfl rfl rfl rfl rfl rfl ?_
      refine TL.goff' rfl rfl rfl rfl rfl rfl rfl ?_
      refine TL.goff' rfl rfl rfl rfl rfl rfl rfl ?_
      refine TL.goff' rfl rfl rfl rfl rfl rfl rfl ?_
      refine TL.goff rfl rfl rfl rfl rfl rfl rfl rfl ?_
      refine TL.v rfl (OpVal.pickTB rfl rfl rfl) rfl rfl ?_
      refine TL.nil ?_
      refine S.n ?_
      refine TC.cond rfl (fun _ => ?_) (fun h => Bool.noConfusion h)
      refine TC.seq ?_
      refine TC.region ?_
      refine TL.v rfl (OpVal.moveB (.inr rfl) rfl) rfl rfl ?_
      refine TL.nil ?_
      refine S.n ?_
      refine TC.ret ?_
      refine B.r ?_
      refine S.r ?_
      refine S.r ?_
      refine B.r ?_
      refine S.r ?_
      -- leaf 1 ret [h1: True; h2: t18=True] H=[]
      refine ret1P rfl (congrArg Value.bool ?_)
      exact (riseB_no (k := g1) (by omega) (by simp [riseFrom, h2])).symm
    · try simp only [decide_eq_true_eq, decide_eq_false_iff_not, Bool.not_eq_true', Bool.not_eq_false', Bool.not_eq_eq_eq_not, Bool.not_true, Bool.not_false, Int.not_lt, Int.not_le, Decidable.not_not] at h2
      refine TL.gv rfl rfl rfl rfl rfl (OpVal.moveI (.inl rfl) rfl) rfl rfl ?_
      refine TL.gv rfl rfl rfl rfl rfl (OpVal.gtr rfl rfl rfl) rfl rfl ?_
      refine TL.gv rfl rfl rfl rfl rfl (OpVal.moveB (.inl rfl) rfl) rfl rfl ?_
      refine TL.split 21 rfl (fun h3 => ?_) (fun h3 => ?_)
      · try simp only [decide_eq_true_eq, decide_eq_false_iff_not, Bool.not_eq_true', Bool.not_eq_false', Bool.not_eq_eq_eq_not, Bool.not_true, Bool.not_false, Int.not_lt, Int.not_le, Decidable.not_not] at h3
        refine TL.gv rfl rfl rfl rfl rfl (OpVal.moveI (.inl rfl) rfl) rfl rfl ?_
        refine TL.gv rfl rfl rfl rfl rfl (OpVal.moveSl (.inl rfl) rfl) rfl rfl ?_
        refine TL.gv rfl rfl rfl rfl rfl (OpVal.moveI (.inl rfl) rfl) rfl rfl ?_
        refine TL.gv rfl rfl rfl rfl rfl (OpVal.sub rfl rfl rfl (by omega) (by omega)) rfl rfl ?_
        refine TL.gv rfl rfl rfl rfl rfl (OpVal.index rfl Tryz.underlying27 sz3 rfl rfl (by first | assumption | exact (RS.rv (by assumption)).sl) (by omega) (by omega)) rfl rfl ?_
        refine TL.gv rfl rfl rfl rfl rfl (OpVal.loadS1 (0 : Int) rfl ag3 rfl (by assumption) (by omega) rfl) rfl rfl ?_
        refine TL.gv rfl rfl rfl rfl rfl (OpVal.leq rfl rfl rfl) rfl rfl ?_
        refine TL.gv rfl rfl rfl rfl rfl (OpVal.pickTB rfl rfl rfl) rfl rfl ?_
        refine TL.v rfl (OpVal.pickFB rfl rfl rfl) rfl rfl ?_
        refine TL.nil ?_
        refine S.n ?_
        refine TC.condD rfl (fun h4 => ?_) (fun h4 => ?_)
        · try simp only [decide_eq_true_eq, decide_eq_false_iff_not, Bool.not_eq_true', Bool.not_eq_false', Bool.not_eq_eq_eq_not, Bool.not_true, Bool.not_false, Int.not_lt, Int.not_le, Decidable.not_not] at h4
          refine TC.seq ?_
          refine TC.region ?_
          refine TL.v rfl (OpVal.moveB (.inr rfl) rfl) rfl rfl ?_
          refine TL.nil ?_
          refine S.n ?_
          refine TC.ret ?_
          refine B.r ?_
          refine S.r ?_
          refine S.r ?_
          refine B.r ?_
          refine S.r ?_
          -- leaf 2 ret [h1: True; h2: t18=False; h3: t21=True; h4: True] H=[]
          refine ret1P rfl (congrArg Value.bool ?_)
          exact (riseB_no (k := g1) (by omega) (by rw [show ((g1 : Int) - 1).toNat = g1 - 1 from by omega] at h4; simp [riseFrom, h2, h4]; omega)).symm
        · try simp only [decide_eq_true_eq, decide_eq_false_iff_not, Bool.not_eq_true', Bool.not_eq_false', Bool.not_eq_eq_eq_not, Bool.not_true, Bool.not_false, Int.not_lt, Int.not_le, Decidable.not_not] at h4
          refine TC.skip ?_
          refine B.n ?_
          refine S.n ?_
          refine TC.region ?_
          refine TL.v rfl (OpVal.succ rfl rfl rfl (by omega)) rfl rfl ?_
          refine TL.v rfl (OpVal.moveI (.inl rfl) rfl) rfl rfl ?_
          refine TL.nil ?_
          refine S.n ?_
          -- leaf 3 next [h1: True; h2: t18=False; h3: t21=True; h4: False] H=[]
          refine ⟨by repeat (first | exact Agr.mask | refine Agr.upd rfl ?_ | refine Agr.maskIn rfl ?_), g1 + 1, ?_, ?_, ?_, ?_, ?_⟩
          · omega
          · exact ⟨by omega, all_step hi (by rw [show ((g1 : Int) - 1).toNat = g1 - 1 from by omega] at h4; simp [riseFrom, h2]; omega)⟩
          · repeat (first | exact trivial | refine ⟨rfl, ?_⟩)
          · rfl
          · rfl
      · try simp only [decide_eq_true_eq, decide_eq_false_iff_not, Bool.not_eq_true', Bool.not_eq_false', Bool.not_eq_eq_eq_not, Bool.not_true, Bool.not_false, Int.not_lt, Int.not_le, Decidable.not_not] at h3
        refine TL.goff rfl rfl rfl rfl rfl rfl rfl rfl ?_
        refine TL.goff rfl rfl rfl rfl rfl rfl rfl rfl ?_
        refine TL.goff rfl rfl rfl rfl rfl rfl rfl rfl ?_
        refine TL.goff rfl rfl rfl rfl rfl rfl rfl rfl ?_
        refine TL.goff rfl rfl rfl rfl rfl rfl rfl rfl ?_
        refine TL.goff rfl rfl rfl rfl rfl rfl rfl rfl ?_
        refine TL.goff rfl rfl rfl rfl rfl rfl rfl rfl ?_
        refine TL.gv rfl rfl rfl rfl rfl (OpVal.pickFB rfl rfl rfl) rfl rfl ?_
        refine TL.v rfl (OpVal.pickFB rfl rfl rfl) rfl rfl ?_
        refine TL.nil ?_
        refine S.n ?_
        refine TC.cond rfl (fun h => Bool.noConfusion h) (fun _ => ?_)
        refine TC.skip ?_
        refine B.n ?_
        refine S.n ?_
        refine TC.region ?_
        refine TL.v rfl (OpVal.succ rfl rfl rfl (by omega)) rfl rfl ?_
        refine TL.v rfl (OpVal.moveI (.inl rfl) rfl) rfl rfl ?_
        refine TL.nil ?_
        refine S.n ?_
        -- leaf 4 next [h1: True; h2: t18=False; h3: t21=False] H=[]
        refine ⟨by repeat (first | exact Agr.mask | refine Agr.upd rfl ?_ | refine Agr.maskIn rfl ?_), g1 + 1, ?_, ?_, ?_, ?_, ?_⟩
        · omega
        · exact ⟨by omega, all_step hi (by simp [riseFrom, h2]; omega)⟩
        · repeat (first | exact trivial | refine ⟨rfl, ?_⟩)
        · rfl
        · rfl
  · try simp only [decide_eq_true_eq, decide_eq_false_iff_not, Bool.not_eq_true', Bool.not_eq_false', Bool.not_eq_eq_eq_not, Bool.not_true, Bool.not_false, Int.not_lt, Int.not_le, Decidable.not_not] at h1
    refine TC.exit ?_
    refine S.x ?_
    refine S.x ?_
    refine TC.exitHere ?_
    refine S.n ?_
    refine TC.seq ?_
    refine TC.region ?_
    refine TL.v rfl (OpVal.moveB (.inr rfl) rfl) rfl rfl ?_
    refine TL.nil ?_
    refine S.n ?_
    refine TC.ret ?_
    -- leaf 5 ret [h1: False] H=[]
    refine ret1P rfl (congrArg Value.bool ?_)
    exact (riseB_yes (k := g1) (by omega) hi).symm
theorem check_con (σ : Store) (n : Nfa) (p : NfaP) (hn : RNfa σ n p) : Con Tryz.prog 27 #[nfaV n p] σ [] (PureP (.int .i64 (errB (checkB n))) σ) := by
  have hb := hn.d.rv.big
  have hd := hn.d
  refine Con.mk (n := 61) Tryz.func27 rfl rfl rfl (fun w0 => ?_)
  refine TC.seq ?_
  refine TC.region ?_
  refine TL.op rfl (OpOk.boxA rfl rfl rfl rfl (fun b1 => ?_))
  refine TL.v rfl (OpVal.moveI (.inr rfl) rfl) rfl rfl ?_
  refine TL.nil ?_
  refine S.n ?_
  refine TC.seq ?_
  refine TC.seq ?_
  refine TC.region ?_
  refine TL.v rfl (OpVal.fieldLoc rfl fo48_0 rfl) rfl rfl ?_
  refine TL.v rfl (OpVal.loadLoc rfl ag3 rfl (i := 0) rfl rfl) rfl rfl ?_
  refine TL.v rfl (OpVal.lss rfl rfl rfl) rfl rfl ?_
  refine TL.v rfl (OpVal.moveB (.inl rfl) rfl) rfl rfl ?_
  refine TL.split 8 rfl (fun h3 => ?_) (fun h3 => ?_)
  · try simp only [decide_eq_true_eq, decide_eq_false_iff_not, Bool.not_eq_true', Bool.not_eq_false', Bool.not_eq_eq_eq_not, Bool.not_true, Bool.not_false, Int.not_lt, Int.not_le, Decidable.not_not] at h3
    refine TL.goff rfl rfl rfl rfl rfl rfl rfl rfl ?_
    refine TL.goff rfl rfl rfl rfl rfl rfl rfl rfl ?_
    refine TL.goff rfl rfl rfl rfl rfl rfl rfl rfl ?_
    refine TL.v rfl (OpVal.pickTB rfl rfl rfl) rfl rfl ?_
    refine TL.v rfl (OpVal.moveB (.inl rfl) rfl) rfl rfl ?_
    refine TL.goff rfl rfl rfl rfl rfl rfl rfl rfl ?_
    refine TL.goff rfl rfl rfl rfl rfl rfl rfl rfl ?_
    refine TL.goff rfl rfl rfl rfl rfl rfl rfl rfl ?_
    refine TL.goff rfl rfl rfl rfl rfl rfl rfl rfl ?_
    refine TL.v rfl (OpVal.pickTB rfl rfl rfl) rfl rfl ?_
    refine TL.nil ?_
    refine S.n ?_
    refine TC.cond rfl (fun _ => ?_) (fun h => Bool.noConfusion h)
    refine TC.seq ?_
    refine TC.region ?_
    refine TL.v rfl (OpVal.moveI (.inr rfl) rfl) rfl rfl ?_
    refine TL.nil ?_
    refine S.n ?_
    refine TC.ret ?_
    refine S.r ?_
    -- leaf 1 ret [h3: t8=True] H=['q2']
    refine ret1P rfl (congrArg (Value.int _) ?_)
    exact (congrArg errB (show checkB n = false from by simp only [checkB, Bool.and_eq_false_iff, decide_eq_false_iff_not]; omega)).symm
  · try simp only [decide_eq_true_eq, decide_eq_false_iff_not, Bool.not_eq_true', Bool.not_eq_false', Bool.not_eq_eq_eq_not, Bool.not_true, Bool.not_false, Int.not_lt, Int.not_le, Decidable.not_not] at h3
    refine TL.gv rfl rfl rfl rfl rfl (OpVal.fieldLoc rfl fo48_0 rfl) rfl rfl ?_
    refine TL.gv rfl rfl rfl rfl rfl (OpVal.loadLoc rfl ag3 rfl (i := 0) rfl rfl) rfl rfl ?_
    refine TL.gv rfl rfl rfl rfl rfl (OpVal.gtr rfl rfl rfl) rfl rfl ?_
    refine TL.v rfl (OpVal.pickFB rfl rfl rfl) rfl rfl ?_
    refine TL.v rfl (OpVal.moveB (.inl rfl) rfl) rfl rfl ?_
    refine TL.split 13 rfl (fun h4 => ?_) (fun h4 => ?_)
    · try simp only [decide_eq_true_eq, decide_eq_false_iff_not, Bool.not_eq_true', Bool.not_eq_false', Bool.not_eq_eq_eq_not, Bool.not_true, Bool.not_false, Int.not_lt, Int.not_le, Decidable.not_not] at h4
      refine TL.goff rfl rfl rfl rfl rfl rfl rfl rfl ?_
      refine TL.goff rfl rfl rfl rfl rfl rfl rfl rfl ?_
      refine TL.goff rfl rfl rfl rfl rfl rfl rfl rfl ?_
      refine TL.goff rfl rfl rfl rfl rfl rfl rfl rfl ?_
      refine TL.v rfl (OpVal.pickTB rfl rfl rfl) rfl rfl ?_
      refine TL.nil ?_
      refine S.n ?_
      refine TC.cond rfl (fun _ => ?_) (fun h => Bool.noConfusion h)
      refine TC.seq ?_
      refine TC.region ?_
      refine TL.v rfl (OpVal.moveI (.inr rfl) rfl) rfl rfl ?_
      refine TL.nil ?_
      refine S.n ?_
      refine TC.ret ?_
      refine S.r ?_
      -- leaf 2 ret [h3: t8=False; h4: t13=True] H=['q2']
      refine ret1P rfl (congrArg (Value.int _) ?_)
      exact (congrArg errB (show checkB n = false from by simp only [checkB, Bool.and_eq_false_iff, decide_eq_false_iff_not]; omega)).symm
    · try simp only [decide_eq_true_eq, decide_eq_false_iff_not, Bool.not_eq_true', Bool.not_eq_false', Bool.not_eq_eq_eq_not, Bool.not_true, Bool.not_false, Int.not_lt, Int.not_le, Decidable.not_not] at h4
      refine TL.gv rfl rfl rfl rfl rfl (OpVal.fieldLoc rfl fo48_3 rfl) rfl rfl ?_
      refine TL.gv rfl rfl rfl rfl rfl (OpVal.loadLoc rfl ag46 rfl (i := 0) rfl rfl) rfl rfl ?_
      refine TL.gv rfl rfl rfl rfl rfl (OpVal.lenC rfl Tryz.underlying46 rfl) rfl rfl ?_
      refine TL.gv rfl rfl rfl rfl rfl (OpVal.gtr rfl rfl rfl) rfl rfl ?_
      refine TL.v rfl (OpVal.pickFB rfl rfl rfl) rfl rfl ?_
      refine TL.nil ?_
      refine S.n ?_
      refine TC.condD rfl (fun h5 => ?_) (fun h5 => ?_)
      · try simp only [decide_eq_true_eq, decide_eq_false_iff_not, Bool.not_eq_true', Bool.not_eq_false', Bool.not_eq_eq_eq_not, Bool.not_true, Bool.not_false, Int.not_lt, Int.not_le, Decidable.not_not] at h5
        refine TC.seq ?_
        refine TC.region ?_
        refine TL.v rfl (OpVal.moveI (.inr rfl) rfl) rfl rfl ?_
        refine TL.nil ?_
        refine S.n ?_
        refine TC.ret ?_
        refine S.r ?_
        -- leaf 3 ret [h3: t8=False; h4: t13=False; h5: True] H=['q2']
        refine ret1P rfl (congrArg (Value.int _) ?_)
        exact (congrArg errB (show checkB n = false from by simp only [checkB, Bool.and_eq_false_iff, decide_eq_false_iff_not]; omega)).symm
      · try simp only [decide_eq_true_eq, decide_eq_false_iff_not, Bool.not_eq_true', Bool.not_eq_false', Bool.not_eq_eq_eq_not, Bool.not_true, Bool.not_false, Int.not_lt, Int.not_le, Decidable.not_not] at h5
        refine TC.skip ?_
        refine S.n ?_
        refine TC.seq ?_
        refine TC.seq ?_
        refine TC.region ?_
        refine TL.v rfl (OpVal.fieldLoc rfl fo48_1 rfl) rfl rfl ?_
        refine TL.v rfl (OpVal.loadLoc rfl ag27 rfl (i := 0) rfl rfl) rfl rfl ?_
        refine TL.v rfl (OpVal.fieldLoc rfl fo48_0 rfl) rfl rfl ?_
        refine TL.v rfl (OpVal.loadLoc rfl ag3 rfl (i := 0) rfl rfl) rfl rfl ?_
        refine TL.op rfl (OpOk.callP (rise_con _ _ _ _ _ hn.s) rfl rfl pf64 rfl rfl rfl ?_)
        refine TL.v rfl (OpVal.not rfl rfl) rfl rfl ?_
        refine TL.v rfl (OpVal.moveB (.inl rfl) rfl) rfl rfl ?_
        refine TL.split 25 rfl (fun h6 => ?_) (fun h6 => ?_)
        · try simp only [decide_eq_true_eq, decide_eq_false_iff_not, Bool.not_eq_true', Bool.not_eq_false', Bool.not_eq_eq_eq_not, Bool.not_true, Bool.not_false, Int.not_lt, Int.not_le, Decidable.not_not] at h6
          refine TL.goff rfl rfl rfl rfl rfl rfl rfl rfl ?_
          refine TL.goff rfl rfl rfl rfl rfl rfl rfl rfl ?_
          refine TL.goff rfl rfl rfl rfl rfl rfl rfl rfl ?_
          refine TL.goff rfl rfl rfl rfl rfl rfl rfl rfl ?_
          refine TL.goff rfl rfl rfl rfl rfl rfl rfl rfl ?_
          refine TL.goff rfl rfl rfl rfl rfl rfl rfl rfl ?_
          refine TL.v rfl (OpVal.pickTB rfl rfl rfl) rfl rfl ?_
          refine TL.nil ?_
          refine S.n ?_
          refine TC.cond rfl (fun _ => ?_) (fun h => Bool.noConfusion h)
          refine TC.seq ?_
          refine TC.region ?_
          refine TL.v rfl (OpVal.moveI (.inr rfl) rfl) rfl rfl ?_
          refine TL.nil ?_
          refine S.n ?_
          refine TC.ret ?_
          refine S.r ?_
          -- leaf 4 ret [h3: t8=False; h4: t13=False; h5: False; h6: t25=True] H=['q2']
          refine ret1P rfl (congrArg (Value.int _) ?_)
          exact (congrArg errB (show checkB n = false from by simp [checkB, h6])).symm
        · try simp only [decide_eq_true_eq, decide_eq_false_iff_not, Bool.not_eq_true', Bool.not_eq_false', Bool.not_eq_eq_eq_not, Bool.not_true, Bool.not_false, Int.not_lt, Int.not_le, Decidable.not_not] at h6
          refine TL.gv rfl rfl rfl rfl rfl (OpVal.fieldLoc rfl fo48_2 rfl) rfl rfl ?_
          refine TL.gv rfl rfl rfl rfl rfl (OpVal.loadLoc rfl ag27 rfl (i := 0) rfl rfl) rfl rfl ?_
          refine TL.gv rfl rfl rfl rfl rfl (OpVal.fieldLoc rfl fo48_0 rfl) rfl rfl ?_
          refine TL.gv rfl rfl rfl rfl rfl (OpVal.loadLoc rfl ag3 rfl (i := 0) rfl rfl) rfl rfl ?_
          refine TL.gon rfl rfl rfl rfl rfl (OpOk.callP (rise_con _ _ _ _ _ (by first | exact hn.s | exact hn.e)) rfl rfl pf64 rfl rfl rfl ?_)
          refine TL.gv rfl rfl rfl rfl rfl (OpVal.not rfl rfl) rfl rfl ?_
          refine TL.v rfl (OpVal.pickFB rfl rfl rfl) rfl rfl ?_
          refine TL.nil ?_
          refine S.n ?_
          refine TC.cond rfl (fun h7 => ?_) (fun h7 => ?_)
          · try simp only [decide_eq_true_eq, decide_eq_false_iff_not, Bool.not_eq_true', Bool.not_eq_false', Bool.not_eq_eq_eq_not, Bool.not_true, Bool.not_false, Int.not_lt, Int.not_le, Decidable.not_not] at h7
            refine TC.seq ?_
            refine TC.region ?_
            refine TL.v rfl (OpVal.moveI (.inr rfl) rfl) rfl rfl ?_
            refine TL.nil ?_
            refine S.n ?_
            refine TC.ret ?_
            refine S.r ?_
            -- leaf 5 ret [h3: t8=False; h4: t13=False; h5: False; h6: t25=False; h7: True] H=['q2']
            refine ret1P rfl (congrArg (Value.int _) ?_)
            exact (congrArg errB (show checkB n = false from by simp [checkB, h7])).symm
          · try simp only [decide_eq_true_eq, decide_eq_false_iff_not, Bool.not_eq_true', Bool.not_eq_false', Bool.not_eq_eq_eq_not, Bool.not_true, Bool.not_false, Int.not_lt, Int.not_le, Decidable.not_not] at h7
            refine TC.skip ?_
            refine S.n ?_
            refine TC.seq ?_
            refine TC.seq ?_
            refine TC.region ?_
            refine TL.v rfl (OpVal.fieldLoc rfl fo48_3 rfl) rfl rfl ?_
            refine TL.v rfl (OpVal.loadLoc rfl ag46 rfl (i := 0) rfl rfl) rfl rfl ?_
            refine TL.v rfl (OpVal.lenC rfl Tryz.underlying46 rfl) rfl rfl ?_
            refine TL.v rfl (OpVal.moveI (.inl rfl) rfl) rfl rfl ?_
            refine TL.nil ?_
            refine S.n ?_
            refine TC.block ?_
            refine TC.loopF (α := Nat) [2, 4, 36, 37, 38, 39, 40, 41, 42, 43, 44, 45, 46, 47, 48, 49, 50, 51, 52, 53, 54, 55, 56, 57, 58, 59, 60] (fun k => [(36, .int .i64 (k : Nat))]) (fun _ => _) (fun _ => _) (fun k => k ≤ n.edges.length ∧ ∀ i, i < k → edgeB n.states (nth n.edges i Arrow.zero) = true) (fun k => n.edges.length - k) (0) (by first | exact True.intro | omega | (dsimp only; omega) | (simp; done) | (simp; omega)) (by repeat (first | exact trivial | refine ⟨rfl, ?_⟩)) (by rfl) (by rfl) (fun g1 j1 hg1 => ?_)
            obtain ⟨hk, hi⟩ := hg1
            refine TC.seq ?_
            refine TC.region ?_
            refine TL.v rfl (OpVal.lss rfl rfl rfl) rfl rfl ?_
            refine TL.nil ?_
            refine S.n ?_
            refine TC.seq ?_
            refine TC.condD rfl (fun h8 => ?_) (fun h8 => ?_)
            · try simp only [decide_eq_true_eq, decide_eq_false_iff_not, Bool.not_eq_true', Bool.not_eq_false', Bool.not_eq_eq_eq_not, Bool.not_true, Bool.not_false, Int.not_lt, Int.not_le, Decidable.not_not] at h8
              refine TC.skip ?_
              refine S.n ?_
              refine TC.seq ?_
              refine TC.block ?_
              refine TC.seq ?_
              refine TC.region ?_
              refine TL.v rfl (OpVal.indexN rfl Tryz.underlying46 sz78 rfl rfl (by first | assumption | exact (RS.rv (by assumption)).sl) (by omega)) rfl rfl ?_
              refine TL.v rfl (OpVal.loadSA Arrow.zero rfl ag78 sz78 rfl (by assumption) (by omega) (by omega)) rfl rfl ?_
              refine TL.op rfl (OpOk.alloc rfl ze78 rfl rfl (fun b9 => ?_))
              refine TL.op rfl (OpOk.storeAll rfl sz78 rfl rfl rfl rfl rfl rfl ?_)
              refine TL.nil ?_
              refine S.n ?_
              refine TC.seq ?_
              refine TC.region ?_
              refine TL.v rfl (OpVal.fieldLoc rfl fo78_0 rfl) rfl rfl ?_
              refine TL.v rfl (OpVal.loadLoc rfl ag3 rfl (i := 0) rfl rfl) rfl rfl ?_
              refine TL.v rfl (OpVal.fieldLoc rfl fo48_0 rfl) rfl rfl ?_
              refine TL.v rfl (OpVal.loadLoc rfl ag3 rfl (i := 1) rfl rfl) rfl rfl ?_
              refine TL.op rfl (OpOk.callP (state_con _ _ _) rfl rfl pf65 rfl rfl rfl ?_)
              refine TL.v rfl (OpVal.not rfl rfl) rfl rfl ?_
              refine TL.v rfl (OpVal.moveB (.inl rfl) rfl) rfl rfl ?_
              refine TL.split 46 rfl (fun h11 => ?_) (fun h11 => ?_)
              · try simp only [decide_eq_true_eq, decide_eq_false_iff_not, Bool.not_eq_true', Bool.not_eq_false', Bool.not_eq_eq_eq_not, Bool.not_true, Bool.not_false, Int.not_lt, Int.not_le, Decidable.not_not] at h11
                refine TL.goff rfl rfl rfl rfl rfl rfl rfl rfl ?_
                refine TL.goff rfl rfl rfl rfl rfl rfl rfl rfl ?_
                refine TL.goff rfl rfl rfl rfl rfl rfl rfl rfl ?_
                refine TL.goff rfl rfl rfl rfl rfl rfl rfl rfl ?_
                refine TL.goff rfl rfl rfl rfl rfl rfl rfl rfl ?_
                refine TL.goff rfl rfl rfl rfl rfl rfl rfl rfl ?_
                refine TL.v rfl (OpVal.pickTB rfl rfl rfl) rfl rfl ?_
                refine TL.v rfl (OpVal.moveB (.inl rfl) rfl) rfl rfl ?_
                refine TL.goff rfl rfl rfl rfl rfl rfl rfl rfl ?_
                refine TL.goff rfl rfl rfl rfl rfl rfl rfl rfl ?_
                refine TL.goff rfl rfl rfl rfl rfl rfl rfl rfl ?_
                refine TL.goff rfl rfl rfl rfl rfl rfl rfl rfl ?_
                refine TL.v rfl (OpVal.pickTB rfl rfl rfl) rfl rfl ?_
                refine TL.nil ?_
                refine S.n ?_
                refine TC.cond rfl (fun _ => ?_) (fun h => Bool.noConfusion h)
                refine TC.seq ?_
                refine TC.region ?_
                refine TL.v rfl (OpVal.moveI (.inr rfl) rfl) rfl rfl ?_
                refine TL.nil ?_
                refine S.n ?_
                refine TC.ret ?_
                refine B.r ?_
                refine S.r ?_
                refine S.r ?_
                refine B.r ?_
                refine S.r ?_
                -- leaf 6 ret [h3: t8=False; h4: t13=False; h5: False; h6: t25=False; h7: False; h8: True; h11: t46=True] H=['q10', 'q2']
                refine ret1P rfl (congrArg (Value.int _) ?_)
                exact (congrArg errB (show checkB n = false from by rw [checkB, edges_no (n := n) (k := g1) (by omega) (by simp [edgeB, h11]), Bool.and_false])).symm
              · try simp only [decide_eq_true_eq, decide_eq_false_iff_not, Bool.not_eq_true', Bool.not_eq_false', Bool.not_eq_eq_eq_not, Bool.not_true, Bool.not_false, Int.not_lt, Int.not_le, Decidable.not_not] at h11
                refine TL.gv rfl rfl rfl rfl rfl (OpVal.fieldLoc rfl fo78_1 rfl) rfl rfl ?_
                refine TL.gv rfl rfl rfl rfl rfl (OpVal.loadLoc rfl ag3 rfl (i := 0) rfl rfl) rfl rfl ?_
                refine TL.gv rfl rfl rfl rfl rfl (OpVal.fieldLoc rfl fo48_0 rfl) rfl rfl ?_
                refine TL.gv rfl rfl rfl rfl rfl (OpVal.loadLoc rfl ag3 rfl (i := 1) rfl rfl) rfl rfl ?_
                refine TL.gon rfl rfl rfl rfl rfl (OpOk.callP (state_con _ _ _) rfl rfl pf65 rfl rfl rfl ?_)
                refine TL.gv rfl rfl rfl rfl rfl (OpVal.not rfl rfl) rfl rfl ?_
                refine TL.v rfl (OpVal.pickFB rfl rfl rfl) rfl rfl ?_
                refine TL.v rfl (OpVal.moveB (.inl rfl) rfl) rfl rfl ?_
                refine TL.split 54 rfl (fun h12 => ?_) (fun h12 => ?_)
                · try simp only [decide_eq_true_eq, decide_eq_false_iff_not, Bool.not_eq_true', Bool.not_eq_false', Bool.not_eq_eq_eq_not, Bool.not_true, Bool.not_false, Int.not_lt, Int.not_le, Decidable.not_not] at h12
                  refine TL.goff rfl rfl rfl rfl rfl rfl rfl rfl ?_
                  refine TL.goff rfl rfl rfl rfl rfl rfl rfl rfl ?_
                  refine TL.goff rfl rfl rfl rfl rfl rfl rfl rfl ?_
                  refine TL.goff rfl rfl rfl rfl rfl rfl rfl rfl ?_
                  refine TL.v rfl (OpVal.pickTB rfl rfl rfl) rfl rfl ?_
                  refine TL.nil ?_
                  refine S.n ?_
                  refine TC.cond rfl (fun _ => ?_) (fun h => Bool.noConfusion h)
                  refine TC.seq ?_
                  refine TC.region ?_
                  refine TL.v rfl (OpVal.moveI (.inr rfl) rfl) rfl rfl ?_
                  refine TL.nil ?_
                  refine S.n ?_
                  refine TC.ret ?_
                  refine B.r ?_
                  refine S.r ?_
                  refine S.r ?_
                  refine B.r ?_
                  refine S.r ?_
                  -- leaf 7 ret [h3: t8=False; h4: t13=False; h5: False; h6: t25=False; h7: False; h8: True; h11: t46=False; h12: t54=True] H=['q10', 'q2']
                  refine ret1P rfl (congrArg (Value.int _) ?_)
                  exact (congrArg errB (show checkB n = false from by rw [checkB, edges_no (n := n) (k := g1) (by omega) (by simp [edgeB, h11, h12]), Bool.and_false])).symm
                · try simp only [decide_eq_true_eq, decide_eq_false_iff_not, Bool.not_eq_true', Bool.not_eq_false', Bool.not_eq_eq_eq_not, Bool.not_true, Bool.not_false, Int.not_lt, Int.not_le, Decidable.not_not] at h12
                  refine TL.gv rfl rfl rfl rfl rfl (OpVal.fieldLoc rfl fo78_2 rfl) rfl rfl ?_
                  refine TL.gv rfl rfl rfl rfl rfl (OpVal.loadLocA rfl ag57 sz57 rfl (i := 0) rfl rfl rfl) rfl rfl ?_
                  refine TL.gv rfl rfl rfl rfl rfl (OpVal.buildArrL rfl Tryz.underlying57 sz55 ze57 rfl) rfl rfl ?_
                  refine TL.gv rfl rfl rfl rfl rfl (OpVal.eqlArr4 rfl Tryz.underlying57 Tryz.underlying55 ag55 sz55 eg57 rfl rfl rfl rfl) rfl rfl ?_
                  refine TL.v rfl (OpVal.pickFB rfl rfl rfl) rfl rfl ?_
                  refine TL.nil ?_
                  refine S.n ?_
                  refine TC.condD rfl (fun h13 => ?_) (fun h13 => ?_)
                  · try simp only [decide_eq_true_eq, decide_eq_false_iff_not, Bool.not_eq_true', Bool.not_eq_false', Bool.not_eq_eq_eq_not, Bool.not_true, Bool.not_false, Int.not_lt, Int.not_le, Decidable.not_not] at h13
                    refine TC.seq ?_
                    refine TC.region ?_
                    refine TL.v rfl (OpVal.moveI (.inr rfl) rfl) rfl rfl ?_
                    refine TL.nil ?_
                    refine S.n ?_
                    refine TC.ret ?_
                    refine B.r ?_
                    refine S.r ?_
                    refine S.r ?_
                    refine B.r ?_
                    refine S.r ?_
                    -- leaf 8 ret [h3: t8=False; h4: t13=False; h5: False; h6: t25=False; h7: False; h8: True; h11: t46=False; h12: t54=False; h13: True] H=['q10', 'q2']
                    refine ret1P rfl (congrArg (Value.int _) ?_)
                    exact (congrArg errB (show checkB n = false from by rw [checkB, edges_no (n := n) (k := g1) (by omega) (by simp [edgeB, (BSet.zero_iff _).1 h13]), Bool.and_false])).symm
                  · try simp only [decide_eq_true_eq, decide_eq_false_iff_not, Bool.not_eq_true', Bool.not_eq_false', Bool.not_eq_eq_eq_not, Bool.not_true, Bool.not_false, Int.not_lt, Int.not_le, Decidable.not_not] at h13
                    refine TC.skip ?_
                    refine B.n ?_
                    refine S.n ?_
                    refine TC.region ?_
                    refine TL.v rfl (OpVal.succ rfl rfl rfl (by omega)) rfl rfl ?_
                    refine TL.v rfl (OpVal.moveI (.inl rfl) rfl) rfl rfl ?_
                    refine TL.dropN 1 rfl ?_
                    refine TL.nil ?_
                    refine S.n ?_
                    -- leaf 9 next [h3: t8=False; h4: t13=False; h5: False; h6: t25=False; h7: False; h8: True; h11: t46=False; h12: t54=False; h13: False] H=['q2']
                    refine ⟨by repeat (first | exact Agr.mask | refine Agr.upd rfl ?_ | refine Agr.maskIn rfl ?_), g1 + 1, ?_, ?_, ?_, ?_, ?_⟩
                    · omega
                    · exact ⟨by omega, all_step (p := fun i => edgeB n.states (nth n.edges i Arrow.zero)) hi (by simp only [edgeB, h11, h12, Bool.true_and, Bool.not_eq_true', decide_eq_false_iff_not]; exact fun hx => h13 ((BSet.zero_iff _).2 hx))⟩
                    · repeat (first | exact trivial | refine ⟨rfl, ?_⟩)
                    · rfl
                    · rfl
            · try simp only [decide_eq_true_eq, decide_eq_false_iff_not, Bool.not_eq_true', Bool.not_eq_false', Bool.not_eq_eq_eq_not, Bool.not_true, Bool.not_false, Int.not_lt, Int.not_le, Decidable.not_not] at h8
              refine TC.exit ?_
              refine S.x ?_
              refine S.x ?_
              refine TC.exitHere ?_
              refine S.n ?_
              refine TC.seq ?_
              refine TC.region ?_
              refine TL.v rfl (OpVal.moveI (.inr rfl) rfl) rfl rfl ?_
              refine TL.nil ?_
              refine S.n ?_
              refine TC.ret ?_
              -- leaf 10 ret [h3: t8=False; h4: t13=False; h5: False; h6: t25=False; h7: False; h8: False] H=['q2']
              refine ret1P rfl (congrArg (Value.int _) ?_)
              have he := edges_yes (n := n) (fun i h => hi i (by omega))
              simp [errB, checkB, h3, h4, h5, h6, h7, he]
end Go.Proofs.YtnpbfjdpglfdkaaGreatDoor
end

section
namespace Go.Proofs.YtnpbfjdpglfdkaaGreatDoor
open Go Go.E Go.E.OpVal Go.E.OpOk Go.Proofs.Tryz
private theorem ag31 : Go.E.aggOf Tryz.prog 31 = some true := by kernel_rfl
private theorem ag32 : Go.E.aggOf Tryz.prog 32 = some false := by kernel_rfl
private theorem ag4 : Go.E.aggOf Tryz.prog 4 = some false := by kernel_rfl
private theorem ag48 : Go.E.aggOf Tryz.prog 48 = some true := by kernel_rfl
private theorem ag86 : Go.E.aggOf Tryz.prog 86 = some false := by kernel_rfl
private theorem ag87 : Go.E.aggOf Tryz.prog 87 = some false := by kernel_rfl
private theorem by27 : Go.E.byOf Tryz.prog 27 = some 24 := by kernel_rfl
private theorem by4 : Go.E.byOf Tryz.prog 4 = some 1 := by kernel_rfl
private theorem by46 : Go.E.byOf Tryz.prog 46 = some 24 := by kernel_rfl
private theorem by78 : Go.E.byOf Tryz.prog 78 = some 48 := by kernel_rfl
private theorem pf27 : Go.E.plainF Tryz.prog 27 = true := by kernel_rfl
private theorem pf28 : Go.E.plainF Tryz.prog 28 = true := by kernel_rfl
private theorem pf29 : Go.E.plainF Tryz.prog 29 = true := by kernel_rfl
private theorem pf30 : Go.E.plainF Tryz.prog 30 = true := by kernel_rfl
private theorem pf31 : Go.E.plainF Tryz.prog 31 = true := by kernel_rfl
private theorem pf32 : Go.E.plainF Tryz.prog 32 = true := by kernel_rfl
private theorem pf33 : Go.E.plainF Tryz.prog 33 = true := by kernel_rfl
private theorem pf34 : Go.E.plainF Tryz.prog 34 = true := by kernel_rfl
private theorem pf35 : Go.E.plainF Tryz.prog 35 = true := by kernel_rfl
private theorem pf36 : Go.E.plainF Tryz.prog 36 = true := by kernel_rfl
private theorem pf73 : Go.E.plainF Tryz.prog 73 = true := by kernel_rfl
private theorem pl31 : Go.E.plOf Tryz.prog 31 = some #[(0, 1), (1, 1), (2, 1)] := by kernel_rfl
private theorem sz28 : Go.E.szOf Tryz.prog 28 = some 1 := by kernel_rfl
private theorem sz29 : Go.E.szOf Tryz.prog 29 = some 1 := by kernel_rfl
private theorem sz31 : Go.E.szOf Tryz.prog 31 = some 3 := by kernel_rfl
private theorem sz32 : Go.E.szOf Tryz.prog 32 = some 1 := by kernel_rfl
private theorem sz4 : Go.E.szOf Tryz.prog 4 = some 1 := by kernel_rfl
private theorem sz48 : Go.E.szOf Tryz.prog 48 = some 4 := by kernel_rfl
private theorem sz86 : Go.E.szOf Tryz.prog 86 = some 1 := by kernel_rfl
private theorem sz87 : Go.E.szOf Tryz.prog 87 = some 1 := by kernel_rfl
private theorem ze27 : Go.E.zeroOf Tryz.prog 27 = some (.slice none 0 0) := by kernel_rfl
private theorem ze31 : Go.E.zeroOf Tryz.prog 31 = some (.agg #[.slice none 0 0, .slice none 0 0, .slice none 0 0]) := by kernel_rfl
private theorem ze32 : Go.E.zeroOf Tryz.prog 32 = some (.int .i64 0) := by kernel_rfl
private theorem ze4 : Go.E.zeroOf Tryz.prog 4 = some (.bool false) := by kernel_rfl
private theorem ze46 : Go.E.zeroOf Tryz.prog 46 = some (.slice none 0 0) := by kernel_rfl
private theorem ze86 : Go.E.zeroOf Tryz.prog 86 = some (.slice none 0 0) := by kernel_rfl
private theorem ze87 : Go.E.zeroOf Tryz.prog 87 = some (.pointer none) := by kernel_rfl
noncomputable def Ft_ (l130 : List (List Arrow)) (x0 : Nfa) (k134 : Nat) : Option (((List (List Arrow)) × Nat) ⊕ (Dfa × Int)) :=
 nxt ((l130.set (((nth x0.edges k134 Arrow.zero).frm).toNat) ((nth l130 (((nth x0.edges k134 Arrow.zero).frm).toNat) ([] : List Arrow)) ++ [(nth x0.edges k134 Arrow.zero)])), (k134 + 1))
noncomputable def D6_ (k323 : Nat) (t335 : Bool) : Option ((Bool × Nat) ⊕ ((Int × (List (List Int)) × (FM (List UInt8) Int) × (List (List Int)) × (List Bool) × Nat) ⊕ (Dfa × Int))) :=
 nxt (t335, (k323 + 1))
noncomputable def Be_ (l130 : List (List Arrow)) (v116 : (List Int) × Int) (i388 : Int) (l391 : List (List Int)) (m397 : FM (List UInt8) Int) (l401 : List Int) (y256_0 : Int) (y256_1 : BSet) : Option (Nat × (Int × (List (List Int)) × (FM (List UInt8) Int) × (List Int))) :=
 bnd (Dc_ l130 v116.1 y256_1) (fun v161 => bnd (putKeep (⟨(⟨l391, m397⟩ : IStore)⟩ : ITable) v161) (fun v162 => iteO (decide (v162.2.2.1 ≠ 0)) (some (1, (v162.2.2.1, v162.2.2.2.of.rows, v162.2.2.2.of.places, l401))) (iteO (decide (1024 ≤ v162.1)) (some (1, (2, v162.2.2.2.of.rows, v162.2.2.2.of.places, l401))) (grd (0 ≤ y256_0 ∧ y256_0 < (l401.length : Int)) (some (0, (i388, v162.2.2.2.of.rows, v162.2.2.2.of.places, (l401.set y256_0.toNat v162.1))))))))
noncomputable def Dr_ (l277 : List (List Int)) (l283 : List Bool) (t322 : Bool) (k286 : Nat) (jz : Nat) (i388 : Int) (l391 : List (List Int)) (m397 : FM (List UInt8) Int) (l401 : List Int) : Option ((Int × (List (List Int)) × (FM (List UInt8) Int) × (List (List Int)) × (List Bool) × Nat) ⊕ (Dfa × Int)) :=
 jsel jz (grd ((l277.length + [l401].length) * 24 ≤ 140737488355328) (grd ((l283.length + [t322].length) * 1 ≤ 140737488355328) (grd (k286 + 1 ≤ 9223372036854775807) (nxt (i388, l391, m397, (l277 ++ [l401]), (l283 ++ [t322]), (k286 + 1)))))) (fun j_ => jsel j_ (fin (some ((⟨([] : List Int), ([] : List (List Int)), ([] : List Bool)⟩ : Dfa), i388))) (fun _ => none))
noncomputable def Bq_ (v116 : (List Int) × Int) (l193 : List Bool) (v13 : (List BSet) × Int) (l130 : List (List Arrow)) (i264 : Int) (l268 : List (List Int)) (m274 : FM (List UInt8) Int) (l277 : List (List Int)) (l283 : List Bool) (k286 : Nat) (t322 : Bool) (k323 : Nat) : Option ((Bool × Nat) ⊕ ((Int × (List (List Int)) × (FM (List UInt8) Int) × (List (List Int)) × (List Bool) × Nat) ⊕ (Dfa × Int))) :=
 iteO (decide (((k323 : Nat) : Int) < ((v116.1.length : Nat) : Int))) (iteO t322 (D6_ k323 true) (grd (0 ≤ (nth v116.1 k323 (0 : Int)) ∧ (nth v116.1 k323 (0 : Int)) < (l193.length : Int)) (D6_ k323 (nth l193 ((nth v116.1 k323 (0 : Int)).toNat) false)))) (fin (grd (8 * v13.1.length ≤ 281474976710656) (bnd (C0_ v13.1) (fun v153 => bnd (Bl_ (stepY (fun (q : Int × (List (List Int)) × (FM (List UInt8) Int) × (List Int)) (x : Int × BSet) => Be_ l130 v116 q.1 q.2.1 q.2.2.1 q.2.2.2 x.1 x.2)) (0, (i264, l268, m274, (List.replicate v13.1.length (0 : Int)))) v153) (fun zr256 => Dr_ l277 l283 t322 k286 zr256.1 zr256.2.1 zr256.2.2.1 zr256.2.2.2.1 zr256.2.2.2.2)))))
noncomputable def B8_ (l193 : List Bool) (v13 : (List BSet) × Int) (l130 : List (List Arrow)) (v26 : (List Int) × Int) (i264 : Int) (l268 : List (List Int)) (m274 : FM (List UInt8) Int) (l277 : List (List Int)) (l283 : List Bool) (k286 : Nat) : Option ((Int × (List (List Int)) × (FM (List UInt8) Int) × (List (List Int)) × (List Bool) × Nat) ⊕ (Dfa × Int)) :=
 bnd (intern_Table_Size (⟨(⟨l268, m274⟩ : IStore)⟩ : ITable)) (fun v112 => iteO (decide (((k286 : Nat) : Int) < v112)) (bnd (intern_Table_Row (⟨(⟨l268, m274⟩ : IStore)⟩ : ITable) ((k286 : Nat) : Int)) (fun v116 => iteO (decide (v116.2 ≠ 0)) (fin (some ((⟨([] : List Int), ([] : List (List Int)), ([] : List Bool)⟩ : Dfa), v116.2))) (iter (fun q : Bool × Nat => Bq_ v116 l193 v13 l130 i264 l268 m274 l277 l283 k286 q.1 q.2) (false, 0)))) (fin (some ((⟨v26.1, l277, l283⟩ : Dfa), 0))))
noncomputable def B5_ (x0 : Nfa) (v13 : (List BSet) × Int) (l130 : List (List Arrow)) (v26 : (List Int) × Int) (l193 : List Bool) (k195 : Nat) : Option (((List Bool) × Nat) ⊕ (Dfa × Int)) :=
 iteO (decide (((k195 : Nat) : Int) < ((x0.ends.length : Nat) : Int))) (grd (0 ≤ (nth x0.ends k195 (0 : Int)) ∧ (nth x0.ends k195 (0 : Int)) < (l193.length : Int)) (nxt ((l193.set ((nth x0.ends k195 (0 : Int)).toNat) true), (k195 + 1)))) (fin (bnd (intern_New) (fun v85 => bnd (intern_Table_Put (⟨(⟨v85.of.rows, v85.of.places⟩ : IStore)⟩ : ITable) x0.starts) (fun v91 => iteO (decide (v91.2.2.1 ≠ 0)) (some ((⟨([] : List Int), ([] : List (List Int)), ([] : List Bool)⟩ : Dfa), v91.2.2.1)) (iter (fun q : Int × (List (List Int)) × (FM (List UInt8) Int) × (List (List Int)) × (List Bool) × Nat => B8_ l193 v13 l130 v26 q.1 q.2.1 q.2.2.1 q.2.2.2.1 q.2.2.2.2.1 q.2.2.2.2.2) (0, v91.2.2.2.of.rows, v91.2.2.2.of.places, ([] : List (List Int)), ([] : List Bool), 0))))))
noncomputable def B9_ (x0 : Nfa) (v13 : (List BSet) × Int) (v26 : (List Int) × Int) (l130 : List (List Arrow)) (k134 : Nat) : Option (((List (List Arrow)) × Nat) ⊕ (Dfa × Int)) :=
 iteO (decide (((k134 : Nat) : Int) < ((x0.edges.length : Nat) : Int))) (grd (0 ≤ ((nth x0.edges k134 Arrow.zero).frm) ∧ ((nth x0.edges k134 Arrow.zero).frm) < (l130.length : Int)) (grd (((nth l130 (((nth x0.edges k134 Arrow.zero).frm).toNat) ([] : List Arrow)).length + [(nth x0.edges k134 Arrow.zero)].length) * 48 ≤ 140737488355328) (grd (0 ≤ ((nth x0.edges k134 Arrow.zero).frm) ∧ ((nth x0.edges k134 Arrow.zero).frm) < (l130.length : Int)) (Ft_ l130 x0 k134)))) (fin (grd (0 ≤ x0.states ∧ 1 * x0.states.toNat ≤ 281474976710656) (iter (fun q : (List Bool) × Nat => B5_ x0 v13 l130 v26 q.1 q.2) ((List.replicate x0.states.toNat false), 0))))
noncomputable def Fu_ (x0 : Nfa) : Option (Dfa × Int) :=
 iteO (decide ((errB (checkB x0)) ≠ 0)) (some ((⟨([] : List Int), ([] : List (List Int)), ([] : List Bool)⟩ : Dfa), 1)) (bnd (De_ x0.edges) (fun v12 => bnd (Dh_ v12) (fun v13 => iteO (decide (v13.2 ≠ 0)) (some ((⟨([] : List Int), ([] : List (List Int)), ([] : List Bool)⟩ : Dfa), v13.2)) (bnd (Df_ v13.1) (fun v26 => iteO (decide (v26.2 ≠ 0)) (some ((⟨([] : List Int), ([] : List (List Int)), ([] : List Bool)⟩ : Dfa), v26.2)) (grd (0 ≤ x0.states ∧ 24 * x0.states.toNat ≤ 281474976710656) (iter (fun q : (List (List Arrow)) × Nat => B9_ x0 v13 v26 q.1 q.2) ((List.replicate x0.states.toNat ([] : List Arrow)), 0))))))))
def Jg_ (σ : Store) (r : Dfa × Int) : Value → Store → List Res → Prop := fun v σ' H' =>
 ∃ (a1 : Option Addr), ∃ (c1 : Nat), ∃ (a2 : Option Addr), ∃ (c2 : Nat), ∃ (a3 : Option Addr), ∃ (c3 : Nat),  v = .tuple #[.agg #[.slice a1 r.1.cls.length c1, .slice a2 r.1.next.length c2, .slice a3 r.1.fin.length c3], .int .i64 r.2] ∧ RS σ' 1 Go.E.encI (.slice a1 r.1.cls.length c1) r.1.cls ∧ RZ σ' (pkSl 1 Go.E.encI Go.E.encI_len) (.slice a2 r.1.next.length c2) r.1.next ∧ RS σ' 1 encB (.slice a3 r.1.fin.length c3) r.1.fin ∧ H' = []
set_option maxHeartbeats 8000000 in
theorem I1_ {σ : Store} {x0 : Nfa} {a0_0 : Option Addr} {c0_0 : Nat} {a0_1 : Option Addr} {c0_1 : Nat} {a0_2 : Option Addr} {c0_2 : Nat} (hgl : GT σ 1 encU8 deB) (f0_0 : RS σ 1 Go.E.encI (.slice a0_0 x0.starts.length c0_0) x0.starts) (f0_1 : RS σ 1 Go.E.encI (.slice a0_1 x0.ends.length c0_1) x0.ends) (f0_2 : RS σ 6 encE (.slice a0_2 x0.edges.length c0_2) x0.edges) {r : Dfa × Int} (hh : Fu_ x0 = some r) :
  Con Tryz.prog 14 #[.agg #[.int .i64 x0.states, .slice a0_0 x0.starts.length c0_0, .slice a0_1 x0.ends.length c0_1, .slice a0_2 x0.edges.length c0_2]] σ [] (Jg_ σ r) := by
 dsimp only [Fu_] at hh
 have f0_0b := f0_0.rv.big
 have f0_1b := f0_1.rv.big
 have f0_2b := f0_2.rv.big
 refine Con.mk (n := 177) Tryz.func14 z z z (fun w0 => ?_)
 refine TC.a (TL.op z (boxA z z z z (fun b101 => ?_)))
 refine TL.op z (OpOk.alloc z ze31 z z (fun b103 => ?_))
 refine TL.op z (OpOk.alloc z ze32 z z (fun b105 => ?_))
 refine TL.en (TC.seq (TC.a (TL.w z (loadAll z ag48 sz48 z (i := 2) z z) (TL.op z (callP (check_con _ x0 ⟨a0_0, c0_0, a0_1, c0_1, a0_2, c0_2⟩ ⟨f0_0, f0_1, f0_2, fun x _ => x.set.isOk⟩) z z pf27 z z z ?_)))))
 refine TL.w z (OpVal.neq z z z) (TL.en (TC.cD z hh (fun h107 hh => ?_) (fun h107 hh => ?_)))
 ·refine TC.a (TL.w z (buildL z pl31 ze31 z) (TL.front 1 z z (TL.op z (storeAll z sz31 z z z z z z ?_))))
  refine TL.front 1 z z (TL.op z (storeI z sz32 z z z z z ?_))
  refine TL.en (TC.ofSub (Sub.f [1] 2) (TC.ret (S.r ?_)))
  obtain rfl := so hh
  exact ro [] z (RVs.agg ag31 sz31 z (i := 0) z z (RVs.one ag32 z (i := 1) z z RVs.nil)) ⟨none, 0, none, 0, none, 0, z, (RS.nilF _ Go.E.encI Go.E.encI_len), (RZ.nilF _ (pkSl 1 Go.E.encI Go.E.encI_len)), (RS.nilF _ encB encB_len), z⟩
 ·refine TC.skip (S.n (TC.a (TL.w z (fieldLoc z fo48_3 z) (TL.w z (loadLoc z ag46 z (i := 2) z z) ?_))))
  obtain ⟨v12, u12, hh⟩ := bnd_e hh
  refine TL.op z (OpOk.call (Hs_ f0_2 u12) z z pf29 z z z z ?_)
  rintro _ τ108 _ hle108 ⟨a108_1, c108_1, rfl, hr108_0, rfl⟩
  replace f0_0 := f0_0.mono hle108
  replace f0_1 := f0_1.mono hle108
  replace f0_2 := f0_2.mono hle108
  replace hgl := hgl.mono hle108
  have hr108_0b := hr108_0.rv.big
  obtain ⟨v13, u13, hh⟩ := bnd_e hh
  refine TL.op z (OpOk.call (Hx_ hr108_0 u13) z z pf28 z z z z ?_)
  rintro _ τ109 _ hle109 ⟨a109_1, c109_1, rfl, hr109_0, rfl⟩
  replace f0_0 := f0_0.mono hle109
  replace f0_1 := f0_1.mono hle109
  replace f0_2 := f0_2.mono hle109
  replace hgl := hgl.mono hle109
  have hr109_0b := hr109_0.rv.big
  refine TL.w z (moveT (.inl z) z) (TL.w z (OpVal.extract z z z) (TL.w z (OpVal.extract z z z) (TL.s z z (TL.i z z (TL.en (TC.seq (TC.a (TL.i z z (TL.w z (OpVal.neq z z z) (TL.en (TC.cD z hh (fun h110 hh => ?_) (fun h110 hh => ?_))))))))))))
  ·refine TC.a (TL.w z (buildL z pl31 ze31 z) (TL.i z z (TL.front 1 z z (TL.op z (storeAll z sz31 z z z z z z ?_)))))
   refine TL.front 1 z z (TL.op z (storeI z sz32 z z z z z ?_))
   refine TL.en (TC.ofSub (Sub.f [1] 2) (TC.ret (S.r ?_)))
   obtain rfl := so hh
   exact ro [] z (RVs.agg ag31 sz31 z (i := 0) z z (RVs.one ag32 z (i := 1) z z RVs.nil)) ⟨none, 0, none, 0, none, 0, z, (RS.nilF _ Go.E.encI Go.E.encI_len), (RZ.nilF _ (pkSl 1 Go.E.encI Go.E.encI_len)), (RS.nilF _ encB encB_len), z⟩
  ·refine TC.skip (S.n (TC.a (TL.s z z ?_)))
   obtain ⟨v26, u26, hh⟩ := bnd_e hh
   refine TL.op z (OpOk.call (Ht_ hgl hr109_0 u26) z z pf30 z z z z ?_)
   rintro _ τ111 _ hle111 ⟨a111_1, c111_1, rfl, hr111_0, rfl⟩
   replace f0_0 := f0_0.mono hle111
   replace f0_1 := f0_1.mono hle111
   replace f0_2 := f0_2.mono hle111
   replace hgl := hgl.mono hle111
   replace hr109_0 := hr109_0.mono hle111
   have hr111_0b := hr111_0.rv.big
   refine TL.w z (moveT (.inl z) z) (TL.w z (OpVal.extract z z z) (TL.w z (OpVal.extract z z z) (TL.s z z (TL.i z z (TL.en (TC.seq (TC.a (TL.i z z (TL.w z (OpVal.neq z z z) (TL.en (TC.cD z hh (fun h112 hh => ?_) (fun h112 hh => ?_))))))))))))
   ·refine TC.a (TL.w z (buildL z pl31 ze31 z) (TL.i z z (TL.front 1 z z (TL.op z (storeAll z sz31 z z z z z z ?_)))))
    refine TL.front 1 z z (TL.op z (storeI z sz32 z z z z z ?_))
    refine TL.en (TC.ofSub (Sub.f [1] 2) (TC.ret (S.r ?_)))
    obtain rfl := so hh
    exact ro [] z (RVs.agg ag31 sz31 z (i := 0) z z (RVs.one ag32 z (i := 1) z z RVs.nil)) ⟨none, 0, none, 0, none, 0, z, (RS.nilF _ Go.E.encI Go.E.encI_len), (RZ.nilF _ (pkSl 1 Go.E.encI Go.E.encI_len)), (RS.nilF _ encB encB_len), z⟩
   ·refine TC.skip (S.n (TC.a (TL.w z (fieldLoc z fo48_0 z) (TL.w z (loadLoc z ag3 z (i := 2) z z) ?_))))
    have u40 := grd_c hh
    replace hh := grd_t hh
    refine TL.op rfl (makeN (q := x0.states.toNat) (E := 78) (size := 6) (enc := encE) rfl underlying86 sz46 by46 ze46 rfl rfl (by show Value.int _ _ = _; rw [Int.toNat_of_nonneg u40.1]) (by show Value.int _ _ = _; rw [Int.toNat_of_nonneg u40.1]) (by omega) (by decide) rfl (fun a113 c114 zf115 => ?_))
    refine TL.op z (OpOk.alloc z ze86 z z (fun b117 => ?_))
    refine TL.op z (storeSl z sz86 z z z z z ?_)
    refine TL.en (TC.seq (TC.a (TL.w z (fieldLoc z fo48_3 z) (TL.w z (loadLoc z ag46 z (i := 4) z z) (TL.w z (lenC z underlying46 z) (TL.i z z (TL.en (TC.block (TC.loopG (α := ((List (List Arrow)) × Nat) × ((List (NP Arrow)))) (rgs [(9, 1), (60, 17)]) (fun g => [(60, .int .i64 ((g.1.2 : Nat) : Int))]) (fun g => [Res.cells b101 #[.int .i64 x0.states, .slice a0_0 x0.starts.length c0_0, .slice a0_1 x0.ends.length c0_1, .slice a0_2 x0.edges.length c0_2] 48, Res.cells b103 #[.slice none 0 0, .slice none 0 0, .slice none 0 0] 31, Res.cells b105 #[.int .i64 0] 32, Res.cells b117 #[.slice a113 ((List.replicate x0.states.toNat ([] : List Arrow)).length) c114] 86, Res.nest 46 78 6 encE (.slice a113 (List.replicate x0.states.toNat ([] : List Arrow)).length c114) g.2]) (fun g => τ111) (fun g => iter (fun q : (List (List Arrow)) × Nat => B9_ x0 v13 v26 q.1 q.2) g.1 = some r ∧ g.1.1.length = (List.replicate x0.states.toNat ([] : List Arrow)).length ∧ Zn g.2 g.1.1) (fun g => rounds (fun q : (List (List Arrow)) × Nat => B9_ x0 v13 v26 q.1 q.2) g.1) (((List.replicate x0.states.toNat ([] : List Arrow)), 0), (List.replicate x0.states.toNat (nilN : NP Arrow))) (Sub.f [1, 1, 2, 3, 4] 5) z (by repeat (first | exact trivial | refine ⟨z, ?_⟩)) ⟨hh, z, zf115⟩ (fun g1 j1 hg1 => ?_))))))))))
    obtain ⟨⟨l130, k134⟩, z132⟩ := g1
    obtain ⟨hh, hn131, zf133⟩ := hg1
    try dsimp only at hn131 zf133 ⊢
    obtain ⟨z1, hh, hR1⟩ := iter_e hh
    dsimp only [B9_] at hh
    have hn131b := hn131
    have zf133b := zf133.len
    refine TC.know (isSl_nest (q := 4) z zf133) (fun ⟨_, hb135⟩ => ?_)
    refine TC.a (TL.w z (OpVal.lss z z z) (TL.en (TC.seq (TC.cD z hh (fun h136 hh => ?_) (fun h136 hh => ?_)))))
    ·refine TC.skip (S.n (TC.cutG (α := (Unit) × ((List (NP Arrow)))) (rgs [(9, 1), (62, 14)]) (fun g => []) (fun g => [Res.cells b101 #[.int .i64 x0.states, .slice a0_0 x0.starts.length c0_0, .slice a0_1 x0.ends.length c0_1, .slice a0_2 x0.edges.length c0_2] 48, Res.cells b103 #[.slice none 0 0, .slice none 0 0, .slice none 0 0] 31, Res.cells b105 #[.int .i64 0] 32, Res.cells b117 #[.slice a113 ((List.replicate x0.states.toNat ([] : List Arrow)).length) c114] 86, Res.nest 46 78 6 encE (.slice a113 (List.replicate x0.states.toNat ([] : List Arrow)).length c114) g.2]) (fun g => τ111) (fun g => Ft_ l130 x0 k134 = some z1 ∧ (l130.set (((nth x0.edges k134 Arrow.zero).frm).toNat) ((nth l130 (((nth x0.edges k134 Arrow.zero).frm).toNat) ([] : List Arrow)) ++ [(nth x0.edges k134 Arrow.zero)])).length = (List.replicate x0.states.toNat ([] : List Arrow)).length ∧ Zn g.2 (l130.set (((nth x0.edges k134 Arrow.zero).frm).toNat) ((nth l130 (((nth x0.edges k134 Arrow.zero).frm).toNat) ([] : List Arrow)) ++ [(nth x0.edges k134 Arrow.zero)]))) ?_ (fun g j hg => ?_)))
     ·skip
      refine TC.block (TC.a (TL.w z (indexN z underlying46 sz78 z z f0_2.rv.sl (by omega)) (TL.w z (loadSA Arrow.zero z ag78 sz78 z f0_2 (by omega) (by omega)) (TL.op z (OpOk.alloc z ze78 z z (fun b140 => ?_))))))
      refine TL.op z (storeAll z sz78 z z z z z z ?_)
      refine TL.en ?_
      have u58 := grd_c hh
      replace hh := grd_t hh
      have u62 := grd_c hh
      replace hh := grd_t hh
      have u63 := grd_c hh
      replace hh := grd_t hh
      refine TC.drawR (Hr := [Res.cells b140 #[.int .i64 ((nth x0.edges k134 Arrow.zero).frm), .int .i64 ((nth x0.edges k134 Arrow.zero).to), .int .u64 ((((nth x0.edges k134 Arrow.zero).set).a : Nat) : Int), .int .u64 ((((nth x0.edges k134 Arrow.zero).set).b : Nat) : Int), .int .u64 ((((nth x0.edges k134 Arrow.zero).set).c : Nat) : Int), .int .u64 ((((nth x0.edges k134 Arrow.zero).set).d : Nat) : Int)] 78, Res.cells b101 #[.int .i64 x0.states, .slice a0_0 x0.starts.length c0_0, .slice a0_1 x0.ends.length c0_1, .slice a0_2 x0.edges.length c0_2] 48, Res.cells b103 #[.slice none 0 0, .slice none 0 0, .slice none 0 0] 31, Res.cells b105 #[.int .i64 0] 32, Res.cells b117 #[.slice a113 ((List.replicate x0.states.toNat ([] : List Arrow)).length) c114] 86]) (fun r hr => mem_pick [0, 1, 2, 3, 4] z hr) [] (by kernel_rfl) (TA.b 0 z (loadLoc z ag86 z (i := 4) z z) z (TA.a 1 z (fieldLoc z fo78_0 z) z (TA.b 2 z (loadLoc z ag3 z (i := 0) z z) z (TA.b 3 z (loadLoc z ag86 z (i := 4) z z) z (TA.a 4 z (fieldLoc z fo78_0 z) z (TA.b 5 z (loadLoc z ag3 z (i := 0) z z) z (TA.know (isSl_nest (q := 5) z zf133) (fun ⟨hs153, hs153b⟩ => ?_))))))))
      refine TA.b 6 z (OpVal.index z underlying86 sz46 z z hs153 u58.1 u58.2) z (TA.b 8 z (loadAll z ag78 sz78 z (i := 0) z z) z ?_)
      obtain ⟨p154, hz154, hm154⟩ := Zn.at zf133 (i := ((nth x0.edges k134 Arrow.zero).frm).toNat) (by omega)
      refine TA.actN [7, 9] (by kernel_rfl) (an z z (OpVal.ok (loadN z ag46 z (q := 5) z hz154 hm154) z z ⟨(fun w h => sees_of (Store.le.refl _) (fun r hr => mem_pick [0, 1, 2, 3, 4] z hr) w h), ?_⟩) (an z z (OpOk.lit (enc := encE) [(nth x0.edges k134 Arrow.zero)] z underlying46 sz78 ze78 z z z encE_len (by decide) (by decide) Arrow.zero z (by decide) z (by decide) encE_one (fun a155 c156 => ⟨(fun w h => sees_of (Store.le.refl _) (fun r hr => mem_pick [1, 2, 3, 4, 5] z hr) w h), ?_⟩)) (True.intro)))
      ·skip
       refine TA.ac 9 z (OpOk.lit (enc := encE) [(nth x0.edges k134 Arrow.zero)] z underlying46 sz78 ze78 z z z encE_len (by decide) (by decide) Arrow.zero z (by decide) z (by decide) encE_one (fun a158 c159 => ⟨(fun w h => sees_of (Store.le.refl _) (fun r hr => mem_pick [1, 2, 3, 4, 5] z hr) w h), ?_⟩))
       refine TA.front 6 z z (TA.by (fun w h => Reach.takeN hz154 hm154 h) (TA.ac 10 z (appendS z z underlying46 sz78 by78 ze78 z z (by decide) z z z (.inr ⟨_, 1, z⟩) (by simpa using u62) (by decide) (fun a162 c163 => (k3 ?_)))))
       refine TA.know (isSl_nestX (q := 1) z zf133) (fun ⟨hs164, hs164b⟩ => ?_)
       refine TA.b 11 z (OpVal.index z underlying86 sz46 z z hs164 u63.1 u63.2) z (TA.front 1 z z (TA.front 1 z z ?_))
       have hn166 : (l130.set (((nth x0.edges k134 Arrow.zero).frm).toNat) ((nth l130 (((nth x0.edges k134 Arrow.zero).frm).toNat) ([] : List Arrow)) ++ [(nth x0.edges k134 Arrow.zero)])).length = (List.replicate x0.states.toNat ([] : List Arrow)).length := (List.length_set ..).trans hn131
       refine TA.ac 12 rfl (storeX (l' := ((nth l130 (((nth x0.edges k134 Arrow.zero).frm).toNat) ([] : List Arrow)) ++ [(nth x0.edges k134 Arrow.zero)])) rfl sz46 rfl rfl rfl rfl rfl (by rw [zf133.len]; omega) zf133 (fun zf165 => (k2 ?_)))
       exact TA.dn (B.n (S.n (cf ((), (z132.set (((nth x0.edges k134 Arrow.zero).frm).toNat) (((nth l130 (((nth x0.edges k134 Arrow.zero).frm).toNat) ([] : List Arrow)) ++ [(nth x0.edges k134 Arrow.zero)]), (a162, c163)))) ⟨hh, hn166, zf165⟩ (Sub.f [6, 6, 6, 6] 5))))
      ·skip
       obtain ⟨p167, hz167, hm167⟩ := Zn.at zf133 (i := ((nth x0.edges k134 Arrow.zero).frm).toNat) (by omega)
       refine TA.ac 7 z (OpVal.ok (loadN z ag46 z (q := 6) z hz167 hm167) z z ⟨(fun w h => sees_of (Store.le.refl _) (fun r hr => mem_pick [1, 2, 3, 4, 5] z hr) w h), ?_⟩)
       refine TA.front 6 z z (TA.by (fun w h => Reach.takeN hz167 hm167 h) (TA.ac 10 z (appendS z z underlying46 sz78 by78 ze78 z z (by decide) z z z (.inr ⟨_, 1, z⟩) (by simpa using u62) (by decide) (fun a169 c170 => (k3 ?_)))))
       refine TA.know (isSl_nestX (q := 1) z zf133) (fun ⟨hs171, hs171b⟩ => ?_)
       refine TA.b 11 z (OpVal.index z underlying86 sz46 z z hs171 u63.1 u63.2) z (TA.front 1 z z (TA.front 1 z z ?_))
       have hn173 : (l130.set (((nth x0.edges k134 Arrow.zero).frm).toNat) ((nth l130 (((nth x0.edges k134 Arrow.zero).frm).toNat) ([] : List Arrow)) ++ [(nth x0.edges k134 Arrow.zero)])).length = (List.replicate x0.states.toNat ([] : List Arrow)).length := (List.length_set ..).trans hn131
       refine TA.ac 12 rfl (storeX (l' := ((nth l130 (((nth x0.edges k134 Arrow.zero).frm).toNat) ([] : List Arrow)) ++ [(nth x0.edges k134 Arrow.zero)])) rfl sz46 rfl rfl rfl rfl rfl (by rw [zf133.len]; omega) zf133 (fun zf172 => (k2 ?_)))
       exact TA.dn (B.n (S.n (cf ((), (z132.set (((nth x0.edges k134 Arrow.zero).frm).toNat) (((nth l130 (((nth x0.edges k134 Arrow.zero).frm).toNat) ([] : List Arrow)) ++ [(nth x0.edges k134 Arrow.zero)]), (a169, c170)))) ⟨hh, hn173, zf172⟩ (Sub.f [6, 6, 6, 6] 5))))
     ·skip
      obtain ⟨_, z138⟩ := g
      obtain ⟨hh, hn137, zf139⟩ := hg
      try dsimp only at hn137 zf139 ⊢
      dsimp only [Ft_] at hh
      have hn137b := hn137
      have zf139b := zf139.len
      refine TC.know (isSl_nest (q := 4) z zf139) (fun ⟨_, hb174⟩ => ?_)
      refine TC.region (TL.w z (OpVal.succ z z z (by omega)) (TL.i z z (TL.en ?_)))
      obtain ⟨hh, hlt175⟩ := nxt_x hR1 hh
      exact lf (((l130.set (((nth x0.edges k134 Arrow.zero).frm).toNat) ((nth l130 (((nth x0.edges k134 Arrow.zero).frm).toNat) ([] : List Arrow)) ++ [(nth x0.edges k134 Arrow.zero)])), (k134 + 1)), z138) hlt175 ⟨hh, hn137, zf139⟩ (Sub.f [4, 4, 4, 4, 4] 5)
    ·refine TC.exit (S.x (S.x ?_))
     replace hh := fin_x hR1 hh
     refine TC.exitHere (S.n (TC.a (TL.w z (fieldLoc z fo48_0 z) (TL.w z (loadLoc z ag3 z (i := 0) z z) ?_))))
     have u69 := grd_c hh
     replace hh := grd_t hh
     refine TL.op rfl (makeS2 (m := x0.states.toNat) (enc := encB) false rfl underlying29 sz4 by4 ze4 rfl rfl (by show Value.int _ _ = _; rw [Int.toNat_of_nonneg u69.1]) (by show Value.int _ _ = _; rw [Int.toNat_of_nonneg u69.1]) (by omega) (by decide) encB_len (by decide) rfl encB_one (fun a176 c177 => ?_))
     refine TL.s z z (TL.en (TC.seq (TC.a (TL.w z (fieldLoc z fo48_2 z) (TL.w z (loadLoc z ag27 z (i := 1) z z) (TL.w z (lenC z underlying27 z) (TL.i z z (TL.en (TC.block (TC.loopG (α := ((List Bool) × Nat) × (Unit)) (rgs [(12, 1), (83, 8)]) (fun g => [(83, .int .i64 ((g.1.2 : Nat) : Int))]) (fun g => [Res.cells b101 #[.int .i64 x0.states, .slice a0_0 x0.starts.length c0_0, .slice a0_1 x0.ends.length c0_1, .slice a0_2 x0.edges.length c0_2] 48, Res.cells b103 #[.slice none 0 0, .slice none 0 0, .slice none 0 0] 31, Res.cells b105 #[.int .i64 0] 32, Res.cells b117 #[.slice a113 ((List.replicate x0.states.toNat ([] : List Arrow)).length) c114] 86, Res.nest 46 78 6 encE (.slice a113 (List.replicate x0.states.toNat ([] : List Arrow)).length c114) z132, Res.rowS 4 1 encB (.slice a176 (List.replicate x0.states.toNat false).length c177) g.1.1]) (fun g => τ111) (fun g => iter (fun q : (List Bool) × Nat => B5_ x0 v13 l130 v26 q.1 q.2) g.1 = some r ∧ l130.length = (List.replicate x0.states.toNat ([] : List Arrow)).length ∧ Zn z132 l130 ∧ g.1.1.length = (List.replicate x0.states.toNat false).length) (fun g => rounds (fun q : (List Bool) × Nat => B5_ x0 v13 l130 v26 q.1 q.2) g.1) (((List.replicate x0.states.toNat false), 0), ()) (Sub.f [5, 5, 5, 5, 5] 6) z (by repeat (first | exact trivial | refine ⟨z, ?_⟩)) ⟨hh, hn131, zf133, z⟩ (fun g2 j2 hg2 => ?_)))))))))))
     obtain ⟨⟨l193, k195⟩, _⟩ := g2
     obtain ⟨hh, hn191, zf192, hn194⟩ := hg2
     try dsimp only at hn191 zf192 hn194 ⊢
     obtain ⟨z1, hh, hR1⟩ := iter_e hh
     dsimp only [B5_] at hh
     have hn191b := hn191
     have zf192b := zf192.len
     have hn194b := hn194
     refine TC.know (isSl_nest (q := 4) z zf192) (fun ⟨_, hb196⟩ => ?_)
     refine TC.isSl (i := 5) z (fun _ hb197 _ => ?_)
     refine TC.a (TL.w z (OpVal.lss z z z) (TL.en (TC.seq (TC.cD z hh (fun h198 hh => ?_) (fun h198 hh => ?_)))))
     ·refine TC.skip (S.n (TC.seq (TC.block (TC.a (TL.w z (indexN z underlying27 sz3 z z f0_1.rv.sl (by omega)) (TL.w z (loadS1 (0 : Int) z ag3 z f0_1 (by omega) z) (TL.i z z (TL.en (TC.region (TL.s z z (TL.i z z ?_)))))))))))
      have u81 := grd_c hh
      replace hh := grd_t hh
      refine TL.isSl (i := 5) z (fun hs199 _ _ => ?_)
      refine TL.w z (OpVal.index z underlying29 sz4 z z hs199 u81.1 u81.2) (TL.front 5 z z ?_)
      have hn200 : (l193.set ((nth x0.ends k195 (0 : Int)).toNat) true).length = (List.replicate x0.states.toNat false).length := by rw [List.length_set]; exact hn194
      refine TL.op z (storeS true z sz4 z z z z encB_len encB_one (by omega) (by omega) ?_)
      refine TL.nil (B.n (S.n (TC.region (TL.w z (OpVal.succ z z z (by omega)) (TL.i z z (TL.en ?_))))))
      obtain ⟨hh, hlt201⟩ := nxt_x hR1 hh
      exact lf (((l193.set ((nth x0.ends k195 (0 : Int)).toNat) true), (k195 + 1)), ()) hlt201 ⟨hh, hn191, zf192, hn200⟩ (Sub.f [5, 5, 5, 5, 5] 6)
     ·refine TC.exit (S.x (S.x ?_))
      replace hh := fin_x hR1 hh
      refine TC.exitHere (S.n (TC.a ?_))
      obtain ⟨v85, u85, hh⟩ := bnd_e hh
      refine TL.op z (OpOk.call (intern_New_con u85) z z pf31 z z z z ?_)
      rintro _ τ202 _ hle202 ⟨b202_1, a202_2, c202_3, z202_4, b202_6, rfl, zf202_5, rfl⟩
      replace f0_0 := f0_0.mono hle202
      replace hgl := hgl.mono hle202
      replace hr109_0 := hr109_0.mono hle202
      replace hr111_0 := hr111_0.mono hle202
      have zf202_5b := zf202_5.length
      refine TL.op z (OpOk.alloc z ze87 z z (fun b206 => ?_))
      refine TL.op z (storeLoc z sz87 z z z z z ?_)
      refine TL.en (TC.seq (TC.a (TL.w z (loadLoc z ag87 z (i := 0) z z) (TL.w z (fieldLoc z fo48_1 z) (TL.w z (loadLoc z ag27 z (i := 4) z z) (TL.front 3 z z (TL.front 3 z z (TL.front 3 z z ?_))))))))
      obtain ⟨v91, u91, hh⟩ := bnd_e hh
      refine TL.op z (OpOk.call (intern_Table_Put_con zf202_5 f0_0 u91) z z pf32 z z z z ?_)
      rintro _ τ208 _ hle208 ⟨a208_1, c208_2, z208_3, b208_5, rfl, zf208_4, rfl⟩
      replace hgl := hgl.mono hle208
      replace hr109_0 := hr109_0.mono hle208
      replace hr111_0 := hr111_0.mono hle208
      have zf208_4b := zf208_4.length
      refine TL.w z (moveT (.inl z) z) (TL.w z (OpVal.extract z z z) (TL.w z (OpVal.extract z z z) (TL.w z (OpVal.extract z z z) (TL.i z z (TL.j z z (TL.i z z (TL.en (TC.a (TL.i z z (TL.w z (OpVal.neq z z z) (TL.en (TC.cD z hh (fun h211 hh => ?_) (fun h211 hh => ?_)))))))))))))
      ·refine TC.a (TL.w z (buildL z pl31 ze31 z) (TL.i z z (TL.front 5 z z (TL.op z (storeAll z sz31 z z z z z z ?_)))))
       refine TL.front 6 z z (TL.op z (storeI z sz32 z z z z z ?_))
       refine TL.en (TC.ofSub (Sub.f [1] 2) (TC.ret (S.r ?_)))
       obtain rfl := so hh
       exact ro [] z (RVs.agg ag31 sz31 z (i := 0) z z (RVs.one ag32 z (i := 1) z z RVs.nil)) ⟨none, 0, none, 0, none, 0, z, (RS.nilF _ Go.E.encI Go.E.encI_len), (RZ.nilF _ (pkSl 1 Go.E.encI Go.E.encI_len)), (RS.nilF _ encB encB_len), z⟩
      ·refine TC.skip (S.n (TC.a (TL.s z z (TL.w z (buildL z pl31 ze31 z) (TL.op z (OpOk.alloc z ze31 z z (fun b212 => ?_)))))))
       refine TL.op z (storeAll z sz31 z z z z z z ?_)
       refine TL.en (TC.seq (TC.a (TL.i z z (TL.en (TC.block ?_)))))
       rw [← hn191]
       refine TC.front 9 z z (TC.seals (fun w h => Reach.sealNest encE_len zf192 h) (fun τ289 hle288 hr287 => ?_))
       replace hgl := hgl.mono hle288
       replace hr109_0 := hr109_0.mono hle288
       replace hr111_0 := hr111_0.mono hle288
       replace zf208_4 := zf208_4.mono hle288
       have hr287b := hr287.big
       refine TC.nilS 27 1 (pkSl 1 Go.E.encI Go.E.encI_len).en ?_
       have zf290 := ZOk.nil τ289 (pkSl 1 Go.E.encI Go.E.encI_len)
       refine TC.nilS 4 1 encB (TC.loopG (α := (Int × (List (List Int)) × (FM (List UInt8) Int) × (List (List Int)) × (List Bool) × Nat) × ((Option Addr) × Nat × (List (List Int × (pkSl 1 Go.E.encI Go.E.encI_len).P)) × Nat × (Option Addr) × Nat × (List (List Int × (pkSl 1 Go.E.encI Go.E.encI_len).P)) × (Option Addr) × Nat × Store)) (rgs [(18, 4), (23, 2), (106, 35), (164, 12)]) (fun g => [(18, .int .i64 ((g.1.2.2.2.2.2 : Nat) : Int))]) (fun g => [Res.cells b103 #[.slice none 0 0, .slice none 0 0, .slice none 0 0] 31, Res.cells b105 #[.int .i64 g.1.1] 32, Res.cells b117 #[.slice a113 l130.length c114] 86, Res.rowS 4 1 encB (.slice a176 (List.replicate x0.states.toNat false).length c177) l193, Res.cells b206 #[loc b202_1 0] 87, Res.cells b202_1 #[.slice g.2.1 g.1.2.1.length g.2.2.1, .map (some g.2.2.2.2.1)] 140, Res.rowS 27 1 (pkSl 1 Go.E.encI Go.E.encI_len).en (.slice g.2.1 g.1.2.1.length g.2.2.1) g.2.2.2.1, Res.mapB keyS keyI (some g.2.2.2.2.1) g.1.2.2.1, Res.cells b212 #[.slice a111_1 v26.1.length c111_1, .slice g.2.2.2.2.2.1 g.1.2.2.2.1.length g.2.2.2.2.2.2.1, .slice g.2.2.2.2.2.2.2.2.1 g.1.2.2.2.2.1.length g.2.2.2.2.2.2.2.2.2.1] 31, Res.rowS 27 1 (pkSl 1 Go.E.encI Go.E.encI_len).en (.slice g.2.2.2.2.2.1 g.1.2.2.2.1.length g.2.2.2.2.2.2.1) g.2.2.2.2.2.2.2.1, Res.rowS 4 1 encB (.slice g.2.2.2.2.2.2.2.2.1 g.1.2.2.2.2.1.length g.2.2.2.2.2.2.2.2.2.1) g.1.2.2.2.2.1]) (fun g => g.2.2.2.2.2.2.2.2.2.2) (fun g => iter (fun q : Int × (List (List Int)) × (FM (List UInt8) Int) × (List (List Int)) × (List Bool) × Nat => B8_ l193 v13 l130 v26 q.1 q.2.1 q.2.2.1 q.2.2.2.1 q.2.2.2.2.1 q.2.2.2.2.2) g.1 = some r ∧ RZ g.2.2.2.2.2.2.2.2.2.2 (pkSl 6 encE encE_len) (.slice a113 l130.length c114) l130 ∧ l193.length = (List.replicate x0.states.toNat false).length ∧ ZOk g.2.2.2.2.2.2.2.2.2.2 (pkSl 1 Go.E.encI Go.E.encI_len) g.2.2.2.1 g.1.2.1 ∧ ZOk g.2.2.2.2.2.2.2.2.2.2 (pkSl 1 Go.E.encI Go.E.encI_len) g.2.2.2.2.2.2.2.1 g.1.2.2.2.1 ∧ Store.le τ289 g.2.2.2.2.2.2.2.2.2.2) (fun g => rounds (fun q : Int × (List (List Int)) × (FM (List UInt8) Int) × (List (List Int)) × (List Bool) × Nat => B8_ l193 v13 l130 v26 q.1 q.2.1 q.2.2.1 q.2.2.2.1 q.2.2.2.2.1 q.2.2.2.2.2) g.1) ((0, v91.2.2.2.of.rows, v91.2.2.2.of.places, ([] : List (List Int)), ([] : List Bool), 0), (a208_1, c208_2, z208_3, b208_5, none, 0, [], none, 0, τ289)) (Sub.f [1, 2, 5, 5, 5, 6, 11, 11, 11, 11] 11) z (by repeat (first | exact trivial | refine ⟨z, ?_⟩)) ⟨hh, hr287, hn194, zf208_4, zf290, (Store.le.refl _)⟩ (fun g3 j3 hg3 => ?_))
       obtain ⟨⟨i264, l268, m274, l277, l283, k286⟩, ⟨a269, c270, z271, b275, a278, c279, z280, a284, c285, τ293⟩⟩ := g3
       obtain ⟨hh, hr265, hn266, zf272, zf281, hle294⟩ := hg3
       try dsimp only at hr265
       try dsimp only at hn266
       try dsimp only at zf272
       try dsimp only at zf281
       dsimp only at hle294
       replace hgl := hgl.mono hle294
       replace hr109_0 := hr109_0.mono hle294
       replace hr111_0 := hr111_0.mono hle294
       try dsimp only
       obtain ⟨z1, hh, hR1⟩ := iter_e hh
       dsimp only [B8_] at hh
       have hr265b := hr265.big
       have hn266b := hn266
       have zf272b := zf272.length
       have zf281b := zf281.length
       refine TC.isSl (i := 3) z (fun _ hb295 _ => ?_)
       refine TC.isSl (i := 6) z (fun _ hb296 _ => ?_)
       refine TC.isSl (i := 9) z (fun _ hb297 _ => ?_)
       refine TC.isSl (i := 10) z (fun _ hb298 _ => ?_)
       refine TC.seq (TC.a (TL.i z z (TL.w z (loadLoc z ag87 z (i := 4) z z) (TL.front 7 z z (TL.front 7 z z (TL.front 7 z z ?_))))))
       obtain ⟨v112, u112, hh⟩ := bnd_e hh
       refine TL.op z (OpOk.call (intern_Table_Size_con zf272 u112) z z pf33 z z z z ?_)
       rintro _ _ _ hle299 ⟨rfl, rfl, rfl⟩
       refine TL.w z (OpVal.lss z z z) (TL.en (TC.cD z hh (fun h300 hh => ?_) (fun h300 hh => ?_)))
       ·refine TC.skip (S.n (TC.seq (TC.block (TC.a (TL.w z (loadLoc z ag87 z (i := 7) z z) (TL.i z z (TL.front 2 z z (TL.front 2 z z (TL.front 2 z z ?_)))))))))
        obtain ⟨v116, u116, hh⟩ := bnd_e hh
        refine TL.op z (OpOk.call (intern_Table_Row_con zf272 u116) z z pf34 z z z z ?_)
        rintro _ _ _ hle301 ⟨a301_1, c301_2, rfl, rfl, rfl⟩
        refine TL.w z (moveT (.inl z) z) (TL.w z (OpVal.extract z z z) (TL.w z (OpVal.extract z z z) (TL.op z (OpOk.alloc z ze27 z z (fun b303 => ?_)))))
        refine TL.op z (storeSl z sz27 z z z z z ?_)
        refine TL.i z z (TL.en (TC.seq (TC.a (TL.i z z (TL.w z (OpVal.neq z z z) (TL.en (TC.cD z hh (fun h305 hh => ?_) (fun h305 hh => ?_))))))))
        ·refine TC.a (TL.w z (buildL z pl31 ze31 z) (TL.i z z (TL.front 5 z z (TL.op z (storeAll z sz31 z z z z z z ?_)))))
         refine TL.front 6 z z (TL.op z (storeI z sz32 z z z z z ?_))
         refine TL.en (TC.ofSub (Sub.f [1] 2) (TC.ret (S.r (B.r (S.r (S.r ?_))))))
         replace hh := fin_x hR1 hh
         refine B.r (S.r ?_)
         obtain rfl := so hh
         exact ro [] z (RVs.agg ag31 sz31 z (i := 0) z z (RVs.one ag32 z (i := 1) z z RVs.nil)) ⟨none, 0, none, 0, none, 0, z, (RS.nilF _ Go.E.encI Go.E.encI_len), (RZ.nilF _ (pkSl 1 Go.E.encI Go.E.encI_len)), (RS.nilF _ encB encB_len), z⟩
        ·refine TC.skip (S.n (TC.a (TL.j z z (TL.en (TC.seq (TC.a (TL.w z (loadLoc z ag27 z (i := 0) z z) (TL.w z (lenC z underlying27 z) (TL.i z z (TL.en (TC.block (TC.loopG (α := (Bool × Nat) × (Store)) (rgs [(21, 1), (23, 1), (124, 12)]) (fun g => [(21, .bool g.1.1), (124, .int .i64 ((g.1.2 : Nat) : Int))]) (fun g => [Res.cells b103 #[.slice none 0 0, .slice none 0 0, .slice none 0 0] 31, Res.cells b105 #[.int .i64 i264] 32, Res.cells b117 #[.slice a113 l130.length c114] 86, Res.rowS 4 1 encB (.slice a176 (List.replicate x0.states.toNat false).length c177) l193, Res.cells b206 #[loc b202_1 0] 87, Res.cells b202_1 #[.slice a269 l268.length c270, .map (some b275)] 140, Res.rowS 27 1 (pkSl 1 Go.E.encI Go.E.encI_len).en (.slice a269 l268.length c270) z271, Res.mapB keyS keyI (some b275) m274, Res.cells b212 #[.slice a111_1 v26.1.length c111_1, .slice a278 l277.length c279, .slice a284 l283.length c285] 31, Res.rowS 27 1 (pkSl 1 Go.E.encI Go.E.encI_len).en (.slice a278 l277.length c279) z280, Res.rowS 4 1 encB (.slice a284 l283.length c285) l283, Res.cells b303 #[.slice a301_1 v116.1.length c301_2] 27, Res.rowS 3 1 Go.E.encI (.slice a301_1 v116.1.length c301_2) v116.1]) (fun g => g.2) (fun g => iter (fun q : Bool × Nat => Bq_ v116 l193 v13 l130 i264 l268 m274 l277 l283 k286 q.1 q.2) g.1 = some z1 ∧ l193.length = (List.replicate x0.states.toNat false).length ∧ ZOk g.2 (pkSl 1 Go.E.encI Go.E.encI_len) z271 l268 ∧ ZOk g.2 (pkSl 1 Go.E.encI Go.E.encI_len) z280 l277 ∧ Store.le τ293 g.2) (fun g => rounds (fun q : Bool × Nat => Bq_ v116 l193 v13 l130 i264 l268 m274 l277 l283 k286 q.1 q.2) g.1) ((false, 0), τ293) (Sub.f [1, 1, 12, 12, 12, 7, 7, 7, 12, 12, 12, 12, 12] 13) z (by repeat (first | exact trivial | refine ⟨z, ?_⟩)) ⟨hh, hn266, zf272, zf281, (Store.le.refl _)⟩ (fun g4 j4 hg4 => ?_)))))))))))))
         obtain ⟨⟨t322, k323⟩, τ324⟩ := g4
         obtain ⟨hh, hn319, zf320, zf321, hle325⟩ := hg4
         try dsimp only at hn319
         try dsimp only at zf320
         try dsimp only at zf321
         dsimp only at hle325
         replace hgl := hgl.mono hle325
         replace hr109_0 := hr109_0.mono hle325
         replace hr111_0 := hr111_0.mono hle325
         replace hr265 := hr265.mono hle325
         replace zf281 := zf281.mono hle325
         try dsimp only
         obtain ⟨z2, hh, hR2⟩ := iter_e hh
         dsimp only [Bq_] at hh
         have hn319b := hn319
         have zf320b := zf320.length
         have zf321b := zf321.length
         refine TC.isSl (i := 3) z (fun _ hb326 _ => ?_)
         refine TC.isSl (i := 6) z (fun _ hb327 _ => ?_)
         refine TC.isSl (i := 9) z (fun _ hb328 _ => ?_)
         refine TC.isSl (i := 10) z (fun _ hb329 _ => ?_)
         refine TC.isSl (i := 12) z (fun _ hb330 _ => ?_)
         refine TC.a (TL.w z (OpVal.lss z z z) (TL.en (TC.seq (TC.cD z hh (fun h331 hh => ?_) (fun h331 hh => ?_)))))
         ·refine TC.skip (S.n (TC.cutG (α := (Bool) × (Store)) (rgs [(21, 1), (23, 1), (126, 9)]) (fun g => [(21, .bool g.1)]) (fun g => [Res.cells b103 #[.slice none 0 0, .slice none 0 0, .slice none 0 0] 31, Res.cells b105 #[.int .i64 i264] 32, Res.cells b117 #[.slice a113 l130.length c114] 86, Res.rowS 4 1 encB (.slice a176 (List.replicate x0.states.toNat false).length c177) l193, Res.cells b206 #[loc b202_1 0] 87, Res.cells b202_1 #[.slice a269 l268.length c270, .map (some b275)] 140, Res.rowS 27 1 (pkSl 1 Go.E.encI Go.E.encI_len).en (.slice a269 l268.length c270) z271, Res.mapB keyS keyI (some b275) m274, Res.cells b212 #[.slice a111_1 v26.1.length c111_1, .slice a278 l277.length c279, .slice a284 l283.length c285] 31, Res.rowS 27 1 (pkSl 1 Go.E.encI Go.E.encI_len).en (.slice a278 l277.length c279) z280, Res.rowS 4 1 encB (.slice a284 l283.length c285) l283, Res.cells b303 #[.slice a301_1 v116.1.length c301_2] 27, Res.rowS 3 1 Go.E.encI (.slice a301_1 v116.1.length c301_2) v116.1]) (fun g => g.2) (fun g => D6_ k323 g.1 = some z2 ∧ l193.length = (List.replicate x0.states.toNat false).length ∧ ZOk g.2 (pkSl 1 Go.E.encI Go.E.encI_len) z271 l268 ∧ ZOk g.2 (pkSl 1 Go.E.encI Go.E.encI_len) z280 l277 ∧ Store.le τ324 g.2) ?_ (fun g j hg => ?_)))
          ·skip
           refine TC.block (TC.a (TL.isSl (i := 12) z (fun hs336 _ _ => ?_)))
           refine TL.w z (indexN z underlying27 sz3 z z hs336 (by omega)) (TL.w z (loadO1 (0 : Int) z ag3 z (q := 12) z Go.E.encI_len (by omega) z) (TL.i z z (TL.en (TC.region (TL.j z z (TL.j z z (TL.split 129 z (fun h337 => ?_) (fun h337 => ?_))))))))
           ·replace hh := iteO_t h337 hh
            exact TL.f z (TL.f z (TL.f z (TL.f z (TL.w z (pickTB z z z) (TL.j z z (TL.nil (B.n (S.n (cf (true, τ324) ⟨hh, hn319, zf320, zf321, (Store.le.refl _)⟩ (Sub.f [12, 12, 12, 12, 12, 12, 12, 12, 12, 12, 12, 12, 12] 13))))))))))
           ·replace hh := iteO_f h337 hh
            refine TL.g z (moveSl (.inl z) z) (TL.g z (moveI (.inl z) z) ?_)
            have u141 := grd_c hh
            replace hh := grd_t hh
            refine TL.isSl (i := 3) z (fun hs338 _ _ => ?_)
            exact TL.g z (OpVal.index z underlying29 sz4 z z hs338 u141.1 u141.2) (TL.g z (loadO1 false z ag4 z (q := 3) z encB_len (by omega) z) (TL.w z (pickFB z z z) (TL.j z z (TL.nil (B.n (S.n (cf ((nth l193 ((nth v116.1 k323 (0 : Int)).toNat) false), τ324) ⟨hh, hn319, zf320, zf321, (Store.le.refl _)⟩ (Sub.f [12, 12, 12, 12, 12, 12, 12, 12, 12, 12, 12, 12, 12] 13))))))))
          ·skip
           obtain ⟨t335, τ339⟩ := g
           obtain ⟨hh, hn332, zf333, zf334, hle340⟩ := hg
           try dsimp only at hn332
           try dsimp only at zf333
           try dsimp only at zf334
           dsimp only at hle340
           replace hgl := hgl.mono hle340
           replace hr109_0 := hr109_0.mono hle340
           replace hr111_0 := hr111_0.mono hle340
           replace hr265 := hr265.mono hle340
           replace zf281 := zf281.mono hle340
           replace zf320 := zf320.mono hle340
           replace zf321 := zf321.mono hle340
           try dsimp only
           dsimp only [D6_] at hh
           have hn332b := hn332
           have zf333b := zf333.length
           have zf334b := zf334.length
           refine TC.isSl (i := 3) z (fun _ hb341 _ => ?_)
           refine TC.isSl (i := 6) z (fun _ hb342 _ => ?_)
           refine TC.isSl (i := 9) z (fun _ hb343 _ => ?_)
           refine TC.isSl (i := 10) z (fun _ hb344 _ => ?_)
           refine TC.isSl (i := 12) z (fun _ hb345 _ => ?_)
           refine TC.region (TL.w z (OpVal.succ z z z (by omega)) (TL.i z z (TL.en ?_)))
           obtain ⟨hh, hlt346⟩ := nxt_x hR2 hh
           exact lf ((t335, (k323 + 1)), τ339) hlt346 ⟨hh, hn332, zf333, zf334, (hle325.trans hle340)⟩ (Sub.f [12, 12, 12, 12, 12, 12, 12, 12, 12, 12, 12, 12, 12] 13)
         ·refine TC.exit (S.x (S.x ?_))
          replace hh := fin_x hR2 hh
          refine TC.exitHere (S.n (TC.a (TL.s z z (TL.w z (lenC z underlying80 z) ?_))))
          have u149 := grd_c hh
          replace hh := grd_t hh
          refine TL.op z (makeS2 (enc := Go.E.encI) (0 : Int) z underlying27 sz3 by3 ze3 z z z z (by omega) (by decide) Go.E.encI_len (by decide) z Go.E.encI_one (fun a347 c348 => ?_))
          refine TL.op z (OpOk.alloc z ze27 z z (fun b350 => ?_))
          refine TL.op z (storeSl z sz27 z z z z z ?_)
          refine TL.en (TC.seq (TC.a (TL.s z z ?_)))
          obtain ⟨v153, u153, hh⟩ := bnd_e hh
          refine TL.op z (OpOk.call (Hr_ hr109_0 u153) z z pf35 z z z z ?_)
          rintro _ τ352 _ hle352 ⟨b352_4, a352_1, c352_2, rfl, f352_3, rfl⟩
          replace hgl := hgl.mono hle352
          replace hr111_0 := hr111_0.mono hle352
          replace hr265 := hr265.mono hle352
          replace zf281 := zf281.mono hle352
          replace zf320 := zf320.mono hle352
          replace zf321 := zf321.mono hle352
          have f352_3b := f352_3.rv.big
          refine TL.en (TC.block (TC.front 15 z z (TC.sealS Go.E.encI_len (fun τ405 hle404 hr403 => ?_))))
          replace hgl := hgl.mono hle404
          replace hr111_0 := hr111_0.mono hle404
          replace hr265 := hr265.mono hle404
          replace zf281 := zf281.mono hle404
          replace zf320 := zf320.mono hle404
          replace zf321 := zf321.mono hle404
          replace f352_3 := f352_3.mono hle404
          have hr403b := hr403.rv.big
          refine TC.ofSub (Sub.f [2, 2, 14, 14, 14, 14, 14, 14, 14, 14, 14, 14, 14, 14] 15) ?_
          obtain ⟨zr256, hz256, hh⟩ := bnd_e hh
          obtain ⟨jz256, ⟨i388, l391, m397, l401⟩⟩ := zr256
          dsimp only at hh
          refine TC.rangeG (A := (fun (x : Int × BSet) _ vs => vs = [.int .i64 x.1, setV x.2])) [.ret] (fun (q : Int × (List (List Int)) × (FM (List UInt8) Int) × (List Int)) (x : Int × BSet) => Be_ l130 v116 q.1 q.2.1 q.2.2.1 q.2.2.2 x.1 x.2) (fun (q : Int × (List (List Int)) × (FM (List UInt8) Int) × (List Int)) (τ406 : Store) Hs => ∃ (a392 : Option Addr), ∃ (c393 : Nat), ∃ (z394 : List (List Int × (pkSl 1 Go.E.encI Go.E.encI_len).P)), ∃ (b398 : Nat), Hs = [Res.cells b103 #[.slice none 0 0, .slice none 0 0, .slice none 0 0] 31, Res.cells b105 #[.int .i64 q.1] 32, Res.cells b117 #[.slice a113 l130.length c114] 86, Res.rowS 4 1 encB (.slice a176 (List.replicate x0.states.toNat false).length c177) l193, Res.cells b206 #[loc b202_1 0] 87, Res.cells b202_1 #[.slice a392 q.2.1.length c393, .map (some b398)] 140, Res.rowS 27 1 (pkSl 1 Go.E.encI Go.E.encI_len).en (.slice a392 q.2.1.length c393) z394, Res.mapB keyS keyI (some b398) q.2.2.1, Res.cells b212 #[.slice a111_1 v26.1.length c111_1, .slice a278 l277.length c279, .slice a284 l283.length c285] 31, Res.rowS 27 1 (pkSl 1 Go.E.encI Go.E.encI_len).en (.slice a278 l277.length c279) z280, Res.rowS 4 1 encB (.slice a284 l283.length c285) l283, Res.cells b303 #[.slice a301_1 v116.1.length c301_2] 27, Res.cells b350 #[.slice a347 ((List.replicate v13.1.length (0 : Int)).length) c348] 27, Res.rowS 3 1 Go.E.encI (.slice a347 (List.replicate v13.1.length (0 : Int)).length c348) q.2.2.2] ∧ l193.length = (List.replicate x0.states.toNat false).length ∧ ZOk τ406 (pkSl 1 Go.E.encI Go.E.encI_len) z394 q.2.1 ∧ ZOk τ406 (pkSl 1 Go.E.encI Go.E.encI_len) z280 l277 ∧ RS τ406 1 Go.E.encI (.slice a301_1 v116.1.length c301_2) v116.1 ∧ q.2.2.2.length = (List.replicate v13.1.length (0 : Int)).length) (s := (i264, l268, m274, (List.replicate v13.1.length (0 : Int)))) rfl pf73 rfl rfl (by rintro _ _ _ _ ⟨a392, c393, z394, b398, rfl, hn389, zf395, zf399, hr400, hn402⟩ hle_; exact ⟨a392, c393, z394, b398, rfl, hn389, zf395.mono hle_, zf399.mono hle_, hr400.mono hle_, hn402⟩) ⟨a269, c270, z271, b275, rfl, hn319, zf320, zf321, hr403, rfl⟩ (fun _ _ _ h_ => by subst h_; rfl) (Hi_ f352_3 hz256) ?_ ?_
          ·clear hh hz256
           rintro l_ _ _ _ τ406 ⟨i388, l391, m397, l401⟩ ⟨y256_0, y256_1⟩ z256 _ _ hh hle407 rfl ⟨a392, c393, z394, b398, rfl, hn389, zf395, zf399, hr400, hn402⟩
           dsimp only [Be_] at hh
           replace hgl := hgl.mono hle407
           replace hr111_0 := hr111_0.mono hle407
           replace hr265 := hr265.mono hle407
           replace zf281 := zf281.mono hle407
           have hn389b := hn389
           have zf395b := zf395.length
           have zf399b := zf399.length
           have hr400b := hr400.rv.big
           have hn402b := hn402
           show TC _ _ _ (upds _ [(142, setV y256_1), (141, .int .i64 y256_0)]) τ406 [Res.cells b103 #[.slice none 0 0, .slice none 0 0, .slice none 0 0] 31, Res.cells b105 #[.int .i64 i388] 32, Res.cells b117 #[.slice a113 l130.length c114] 86, Res.rowS 4 1 encB (.slice a176 (List.replicate x0.states.toNat false).length c177) l193, Res.cells b206 #[loc b202_1 0] 87, Res.cells b202_1 #[.slice a392 l391.length c393, .map (some b398)] 140, Res.rowS 27 1 (pkSl 1 Go.E.encI Go.E.encI_len).en (.slice a392 l391.length c393) z394, Res.mapB keyS keyI (some b398) m397, Res.cells b212 #[.slice a111_1 v26.1.length c111_1, .slice a278 l277.length c279, .slice a284 l283.length c285] 31, Res.rowS 27 1 (pkSl 1 Go.E.encI Go.E.encI_len).en (.slice a278 l277.length c279) z280, Res.rowS 4 1 encB (.slice a284 l283.length c285) l283, Res.cells b303 #[.slice a301_1 v116.1.length c301_2] 27, Res.cells b350 #[.slice a347 ((List.replicate v13.1.length (0 : Int)).length) c348] 27, Res.rowS 3 1 Go.E.encI (.slice a347 (List.replicate v13.1.length (0 : Int)).length c348) l401]
           refine TC.isSl (i := 3) z (fun _ hb408 _ => ?_)
           refine TC.isSl (i := 6) z (fun _ hb409 _ => ?_)
           refine TC.isSl (i := 9) z (fun _ hb410 _ => ?_)
           refine TC.isSl (i := 10) z (fun _ hb411 _ => ?_)
           refine TC.isSl (i := 13) z (fun _ hb412 _ => ?_)
           refine TC.a (TL.i z z (TL.en (TC.region (TL.op z (OpOk.alloc z ze57 z z (fun b413 => ?_))))))
           refine TL.op z (storeAll z sz57 z z z z z z ?_)
           refine TL.nil (asg_n (fun _ _ _ => ?_))
           refine TC.block (TC.seq ?_)
           obtain ⟨v161, u161, hh⟩ := bnd_e hh
           obtain ⟨v162, u162, hh⟩ := bnd_e hh
           refine TC.drawR (Hr := [Res.cells b413 (setA y256_1) 57, Res.cells b103 #[.slice none 0 0, .slice none 0 0, .slice none 0 0] 31, Res.cells b105 #[.int .i64 i388] 32, Res.cells b117 #[.slice a113 l130.length c114] 86, Res.rowS 4 1 encB (.slice a176 (List.replicate x0.states.toNat false).length c177) l193, Res.cells b206 #[loc b202_1 0] 87, Res.cells b212 #[.slice a111_1 v26.1.length c111_1, .slice a278 l277.length c279, .slice a284 l283.length c285] 31, Res.rowS 27 1 (pkSl 1 Go.E.encI Go.E.encI_len).en (.slice a278 l277.length c279) z280, Res.rowS 4 1 encB (.slice a284 l283.length c285) l283, Res.cells b303 #[.slice a301_1 v116.1.length c301_2] 27, Res.cells b350 #[.slice a347 ((List.replicate v13.1.length (0 : Int)).length) c348] 27, Res.rowS 3 1 Go.E.encI (.slice a347 (List.replicate v13.1.length (0 : Int)).length c348) l401]) (fun r hr => mem_pick [0, 1, 2, 3, 4, 5, 9, 10, 11, 12, 13, 14] z hr) [] (by kernel_rfl) (TA.b 0 z (loadLoc z ag87 z (i := 5) z z) z (TA.b 1 z (loadLoc z ag86 z (i := 3) z z) z (TA.b 2 z (loadLoc z ag27 z (i := 9) z z) z (TA.b 3 z (loadAll z ag57 sz57 z (i := 0) z z) z (TA.ac 4 z (OpOk.call (Hv_ hgl hr265 hr400 u161) z z pf36 z z z z ?_))))))
           rintro _ _ _ hle420 ⟨a420_1, c420_1, rfl, rfl, rfl⟩
           refine ⟨(fun w h => sees_of (Store.le.refl _) (fun r hr => mem_pick [1, 2, 3, 4, 5, 6, 10, 11, 12, 13, 14, 15] z hr) w h), ?_⟩
           refine TA.front 9 z z (TA.front 9 z z (TA.front 9 z z (TA.ac 5 z (OpOk.call (putKeep_con zf395 u162) z z pf32 z z z z ?_))))
           rintro _ τ422 _ hle422 ⟨a422_1, c422_2, z422_3, b422_5, rfl, zf422_4, rfl⟩
           replace hr111_0 := hr111_0.mono hle422
           replace hr265 := hr265.mono hle422
           replace zf281 := zf281.mono hle422
           replace zf395 := zf395.mono hle422
           replace zf399 := zf399.mono hle422
           replace hr400 := hr400.mono hle422
           have zf422_4b := zf422_4.length
           refine kl 4 hle422 (TA.a 6 z (moveT (.inl z) z) z (TA.a 7 z (OpVal.extract z z z) z (TA.a 8 z (OpVal.extract z z z) z (TA.a 9 z (OpVal.extract z z z) z (TA.a 10 z (moveI (.inr z) z) z (TA.a 11 z (moveB (.inr z) z) z (TA.a 12 z (moveI (.inr z) z) z (TA.dn (S.n (TC.seq (TC.a (TL.i z z (TL.w z (OpVal.neq z z z) (TL.en (TC.cD z hh (fun h425 hh => ?_) (fun h425 hh => ?_))))))))))))))))
           ·refine TC.a (TL.w z (buildL z pl31 ze31 z) (TL.i z z (TL.front 5 z z (TL.op z (storeAll z sz31 z z z z z z ?_)))))
            refine TL.front 6 z z (TL.op z (storeI z sz32 z z z z z ?_))
            refine TL.en (TC.ret (S.r (B.r ?_)))
            obtain rfl := so hh
            exact rnd_r 0 z ⟨z, _, Sub.f [15, 15, 15, 15, 15, 15, 10, 10, 10, 15, 15, 15, 12, 13] 14, ⟨a422_1, c422_2, z422_3, b422_5, z, hn389, zf422_4, zf399, hr400, hn402⟩⟩
           ·refine TC.skip (S.n (TC.seq (TC.a (TL.i z z (TL.w z (OpVal.geq z z z) (TL.en (TC.cD z hh (fun h426 hh => ?_) (fun h426 hh => ?_))))))))
            ·refine TC.a (TL.w z (buildL z pl31 ze31 z) (TL.front 5 z z (TL.op z (storeAll z sz31 z z z z z z ?_))))
             refine TL.front 6 z z (TL.op z (storeI z sz32 z z z z z ?_))
             refine TL.en (TC.ret (S.r (B.r ?_)))
             obtain rfl := so hh
             exact rnd_r 0 z ⟨z, _, Sub.f [15, 15, 15, 15, 15, 15, 10, 10, 10, 15, 15, 15, 12, 13] 14, ⟨a422_1, c422_2, z422_3, b422_5, z, hn389, zf422_4, zf399, hr400, hn402⟩⟩
            ·refine TC.skip (S.n (TC.region (TL.w z (loadLoc z ag27 z (i := 14) z z) (TL.i z z (TL.i z z ?_)))))
             have u184 := grd_c hh
             replace hh := grd_t hh
             refine TL.isSl (i := 15) z (fun hs427 _ _ => ?_)
             refine TL.w z (OpVal.index z underlying27 sz3 z z hs427 u184.1 u184.2) (TL.front 15 z z ?_)
             have hn428 : (l401.set y256_0.toNat v162.1).length = (List.replicate v13.1.length (0 : Int)).length := by rw [List.length_set]; exact hn402
             refine TL.op z (storeS v162.1 z sz3 z z z z Go.E.encI_len Go.E.encI_one (by omega) (by omega) ?_)
             refine TL.nil (B.n ?_)
             obtain rfl := so hh
             exact rnd_n ⟨z, _, Sub.f [15, 15, 15, 15, 15, 8, 8, 8, 15, 15, 15, 15, 15] 14, ⟨a422_1, c422_2, z422_3, b422_5, z, hn389, zf422_4, zf399, hr400, hn428⟩⟩
          ·rintro τ406 _ _ hle407 ⟨a392, c393, z394, b398, rfl, hn389, zf395, zf399, hr400, hn402⟩ ⟨rfl⟩
           replace hr111_0 := hr111_0.mono hle407
           replace hr265 := hr265.mono hle407
           replace zf281 := zf281.mono hle407
           have hn389b := hn389
           have zf395b := zf395.length
           have zf399b := zf399.length
           have hr400b := hr400.rv.big
           have hn402b := hn402
           dsimp only [Dr_] at hh
           show jmpQ _ _ _ _ _ τ406 [Res.cells b103 #[.slice none 0 0, .slice none 0 0, .slice none 0 0] 31, Res.cells b105 #[.int .i64 i388] 32, Res.cells b117 #[.slice a113 l130.length c114] 86, Res.rowS 4 1 encB (.slice a176 (List.replicate x0.states.toNat false).length c177) l193, Res.cells b206 #[loc b202_1 0] 87, Res.cells b202_1 #[.slice a392 l391.length c393, .map (some b398)] 140, Res.rowS 27 1 (pkSl 1 Go.E.encI Go.E.encI_len).en (.slice a392 l391.length c393) z394, Res.mapB keyS keyI (some b398) m397, Res.cells b212 #[.slice a111_1 v26.1.length c111_1, .slice a278 l277.length c279, .slice a284 l283.length c285] 31, Res.rowS 27 1 (pkSl 1 Go.E.encI Go.E.encI_len).en (.slice a278 l277.length c279) z280, Res.rowS 4 1 encB (.slice a284 l283.length c285) l283, Res.cells b303 #[.slice a301_1 v116.1.length c301_2] 27, Res.cells b350 #[.slice a347 ((List.replicate v13.1.length (0 : Int)).length) c348] 27, Res.rowS 3 1 Go.E.encI (.slice a347 (List.replicate v13.1.length (0 : Int)).length c348) l401, Res.cells b352_4 #[.slice a352_1 v153.length c352_2] 80]
           refine jmp_split hh ?_ ?_ <;> clear hh
           ·intro hh
            refine B.n (S.n (TC.a (TL.w z (fieldLoc z fo31_1 z) (TL.w z (loadLoc z ag28 z (i := 8) z z) (TL.w z (loadLoc z ag27 z (i := 12) z z) ?_)))))
            rw [← hn402]
            refine TL.front 13 z z (TL.sealS Go.E.encI_len (fun τ433 hle432 hr431 => ?_))
            replace hr111_0 := hr111_0.mono hle432
            replace hr265 := hr265.mono hle432
            replace zf281 := zf281.mono hle432
            replace zf395 := zf395.mono hle432
            replace zf399 := zf399.mono hle432
            have hr431b := hr431.rv.big
            have zf434 : ZOk _ (pkSl 1 Go.E.encI Go.E.encI_len) ([(l401, (a347, c348))] : List (List Int × (pkSl 1 Go.E.encI Go.E.encI_len).P)) [l401] := ZOk.cons (hr431) (ZOk.nil _ _)
            refine TL.op z (litZ zf434 z underlying28 sz27 z ze27 z z z (by decide) (by decide) z (by decide) z (by decide) (fun a429 c430 => ?_))
            refine TL.front 10 z z ?_
            have u190 := grd_c hh
            replace hh := grd_t hh
            refine TL.op z (appendZ (k := (pkSl 1 Go.E.encI Go.E.encI_len)) zf399 zf434 z z underlying28 sz27 by27 ze27 z z (by decide) z z z (.inr ⟨_, 0, z⟩) (by simpa using u190) (by decide) (fun a436 c437 zf438 => ?_))
            refine TL.w z (fieldLoc z fo31_1 z) (TL.front 10 z z (TL.op z (storeSl z sz28 z z z z z ?_)))
            refine TL.en (TC.region (TL.w z (fieldLoc z fo31_2 z) (TL.w z (loadLoc z ag29 z (i := 0) z z) (TL.j z z (TL.op z (OpOk.lit (enc := encB) [t322] z underlying29 sz4 ze4 z z z encB_len (by decide) (by decide) false z (by decide) z (by decide) encB_one (fun a439 c440 => ?_)))))))
            refine TL.front 12 z z ?_
            have u197 := grd_c hh
            replace hh := grd_t hh
            refine TL.op z (appendS z z underlying29 sz4 by4 ze4 z z (by decide) z z z (.inr ⟨_, 0, z⟩) (by simpa using u197) (by decide) (fun a442 c443 => ?_))
            refine TL.w z (fieldLoc z fo31_2 z) (TL.front 2 z z (TL.op z (storeSl z sz29 z z z z z ?_)))
            refine TL.nil (B.n (S.n (TC.region (TL.i z z ?_))))
            have u201 := grd_c hh
            replace hh := grd_t hh
            refine TL.w z (OpVal.succ z z z (by omega)) (TL.i z z (TL.en ?_))
            obtain ⟨hh, hlt444⟩ := nxt_x hR1 hh
            exact lf ((i388, l391, m397, (l277 ++ [l401]), (l283 ++ [t322]), (k286 + 1)), (a392, c393, z394, b398, a436, c437, (z280 ++ ([(l401, (a347, c348))] : List (List Int × (pkSl 1 Go.E.encI Go.E.encI_len).P))), a442, c443, τ433)) hlt444 ⟨hh, hr265, hn389, zf395, zf438, (((((hle294.trans hle325).trans hle352).trans hle404).trans hle407).trans hle432)⟩ (Sub.f [1, 3, 2, 12, 12, 12, 12, 12, 12, 12, 12] 11)
           ·intro m_ c_ hh hc_
            refine jl_split hh hc_ ?_ ?_ <;> clear hh hc_
            ·intro hh
             refine TC.ofSub (Sub.f [1, 1] 2) (TC.ret (B.r (S.r (B.r (S.r (S.r ?_))))))
             replace hh := fin_x hR1 hh
             refine B.r (S.r ?_)
             obtain rfl := so hh
             exact ro [] z (RVs.agg ag31 sz31 z (i := 0) z z (RVs.one ag32 z (i := 1) z z RVs.nil)) ⟨none, 0, none, 0, none, 0, z, (RS.nilF _ Go.E.encI Go.E.encI_len), (RZ.nilF _ (pkSl 1 Go.E.encI Go.E.encI_len)), (RS.nilF _ encB encB_len), z⟩
            ·intro m_ hh hc_
             exact jl_nil hc_
       ·refine TC.exit (S.x (S.x ?_))
        replace hh := fin_x hR1 hh
        refine TC.exitHere (S.n (TC.a (TL.w z (loadAll z ag31 sz31 z (i := 8) z z) (TL.front 3 z z (TL.op z (storeAll z sz31 z z z z z z ?_))))))
        refine TL.front 4 z z (TL.op z (storeI z sz32 z z z z z ?_))
        refine TL.en (TC.front 9 z z (TC.sealZ zf281 (fun τ447 hle446 hr445 => ?_)))
        replace hr111_0 := hr111_0.mono hle446
        have hr445b := hr445.big
        refine TC.front 9 z z (TC.sealS encB_len (fun τ450 hle449 hr448 => ?_))
        replace hr111_0 := hr111_0.mono hle449
        replace hr445 := hr445.mono hle449
        have hr448b := hr448.rv.big
        refine TC.ofSub (Sub.f [1] 2) (TC.ret ?_)
        obtain rfl := so hh
        exact ro [] z (RVs.agg ag31 sz31 z (i := 0) z z (RVs.one ag32 z (i := 1) z z RVs.nil)) ⟨a111_1, c111_1, a278, c279, a284, c285, z, hr111_0, hr445, hr448, z⟩
end Go.Proofs.YtnpbfjdpglfdkaaGreatDoor
end

section
namespace Go.Proofs.YtnpbfjdpglfdkaaGreatDoor
open Go Go.E
theorem u8_of {k : Nat} (hk : k < 256) : (toU8 ((k : Nat) : Int)).toNat = k := by
  have := toU8_val ((k : Nat) : Int)
  rw [wrap_u8] at this; omega
noncomputable def fstB8 (s : BSet) : UInt8 := ((B2_ s).getD (0, false)).1
theorem first_go (s : BSet) : B2_ s = some (fstB8 s, decide (s ≠ BSet.zero)) ∧ (s ≠ BSet.zero → s.has (fstB8 s).toNat = true) := by
  by_cases h : s = BSet.zero
  · subst h
    have e : fstB8 BSet.zero = 0 := by unfold fstB8; rw [first_none]; rfl
    rw [first_none, e]
    exact ⟨rfl, fun h => absurd rfl h⟩
  · obtain ⟨b, h1, h2⟩ := first_some h
    have e : fstB8 s = b := by unfold fstB8; rw [h1]; rfl
    rw [h1, e, decide_eq_true h]
    exact ⟨rfl, fun _ => h2⟩
def keyB (L : List BSet) (b : Nat) : List UInt8 := L.map fun s => if s.has b then 1 else 0
theorem keyB_eq {L : List BSet} {b c : Nat} (h : keyB L b = keyB L c) : ∀ s ∈ L, s.has b = s.has c := fun s hs => by
  have h1 := List.map_inj_left.1 h s hs
  cases e1 : s.has b <;> cases e2 : s.has c <;> rw [e1, e2] at h1 <;> first | rfl | exact absurd h1 (by decide)
theorem partkey_eq (L : List BSet) (hL : L.length ≤ 1024) {k : Nat} (hk : k < 256) : En_ L (toU8 ((k : Nat) : Int)) = some (keyB L k) := by
  unfold En_
  rw [grd_mk (by omega)]
  obtain ⟨r, e, rfl⟩ := iter_up (step := fun q : (List UInt8) × Nat => Bf_ L (toU8 ((k : Nat) : Int)) q.1 q.2) (fun (l : List UInt8) j => (l, j)) L.length
    (fun j l => l.length = L.length ∧ ∀ i, i < L.length → nth l i 0 = if i < j then (if (nth L i BSet.zero).has k then 1 else 0) else 0) (fun r => r = keyB L k)
    (fun j l hj hI => by
      obtain ⟨h1, h2⟩ := hI
      show (∃ s', Bf_ L (toU8 ((k : Nat) : Int)) l j = _ ∧ _) ∨ _
      unfold Bf_ Cz_
      rw [iteO_dt (by omega), u8_of hk]
      cases hh : (nth L j BSet.zero).has k with
      | true =>
        rw [iteO_true, grd_mk (by omega)]
        refine .inl ⟨_, rfl, by rw [List.length_set]; exact h1, fun i hi => ?_⟩
        rw [nth_set]
        by_cases e : j = i
        · subst e; rw [if_pos ⟨rfl, by omega⟩, if_pos (by omega), hh, if_pos rfl]
        · rw [if_neg (fun q => e q.1), h2 i hi]
          by_cases e2 : i < j
          · rw [if_pos e2, if_pos (show i < j + 1 by omega)]
          · rw [if_neg e2, if_neg (show ¬ i < j + 1 by omega)]
      | false =>
        rw [iteO_false]
        refine .inl ⟨l, rfl, h1, fun i hi => ?_⟩
        rw [h2 i hi]
        by_cases e : i = j
        · subst e; rw [if_neg (by omega), if_pos (by omega), hh, if_neg (by simp)]
        · by_cases e2 : i < j
          · rw [if_pos e2, if_pos (show i < j + 1 by omega)]
          · rw [if_neg e2, if_neg (show ¬ i < j + 1 by omega)])
    (fun l hI => by
      obtain ⟨h1, h2⟩ := hI
      refine ⟨l, ?_, ?_⟩
      · show Bf_ L (toU8 ((k : Nat) : Int)) l L.length = _
        unfold Bf_
        rw [iteO_df (by omega)]; rfl
      · refine nth_ext (0 : UInt8) (by unfold keyB; rw [List.length_map]; exact h1) fun i hi => ?_
        rw [h2 i (by omega), if_pos (by omega)]
        unfold keyB
        rw [nth_map _ _ _ BSet.zero 0 (by omega)])
    (s0 := List.replicate L.length 0) ⟨by rw [List.length_replicate], fun i hi => by rw [nth_rep, if_neg (by omega)]⟩
  exact e
structure PartI (L : List BSet) (k : Nat) (m : FM (List UInt8) Int) (p : List BSet) : Prop where
  len : p.length ≤ k
  at_ : ∀ b, b < k → ∃ i : Nat, i < p.length ∧ m.f (keyB L b) = some ((i : Nat) : Int)
  val : ∀ x v, m.f x = some v → ∃ i : Nat, i < p.length ∧ v = ((i : Nat) : Int)
  inj : ∀ x y v, m.f x = some v → m.f y = some v → x = y
  has : ∀ i, i < p.length → ∀ b, b < 256 → ((nth p i BSet.zero).has b = true ↔ b < k ∧ m.f (keyB L b) = some ((i : Nat) : Int))
theorem parts_j1 {L : List BSet} {k : Nat} (hk : k < 256) {m : FM (List UInt8) Int} {p : List BSet} {i : Nat} (hi : i < p.length) (hl : p.length ≤ k + 1) (h1 : m.f (keyB L k) = some ((i : Nat) : Int)) (at_ : ∀ b, b < k → ∃ i : Nat, i < p.length ∧ m.f (keyB L b) = some ((i : Nat) : Int))
    (val : ∀ x v, m.f x = some v → ∃ i : Nat, i < p.length ∧ v = ((i : Nat) : Int)) (inj : ∀ x y v, m.f x = some v → m.f y = some v → x = y)
    (has : ∀ i, i < p.length → ∀ b, b < 256 → ((nth p i BSet.zero).has b = true ↔ b < k ∧ m.f (keyB L b) = some ((i : Nat) : Int))) :
    ∃ p', B1_ k m p ((i : Nat) : Int) = some (.inl (m, p', k + 1)) ∧ PartI L (k + 1) m p' := by
  unfold B1_
  rw [grd_mk ⟨Int.natCast_nonneg i, by omega⟩, grd_mk (by simp), any_eq, bnd_mk, grd_mk ⟨Int.natCast_nonneg i, by omega⟩, Int.toNat_natCast]
  refine ⟨_, rfl, by rw [List.length_set]; exact hl, fun b hb => ?_, fun x v hx => ?_, inj, fun j hj b hb => ?_⟩
  · rw [List.length_set]
    by_cases e : b = k
    · subst e; exact ⟨i, hi, h1⟩
    · exact at_ b (by omega)
  · rw [List.length_set]; exact val x v hx
  · rw [List.length_set] at hj
    rw [nth_set]
    by_cases e : i = j
    · subst e
      rw [if_pos ⟨rfl, hi⟩, BSet.make_has _ hb, of1' k hk hb, Bool.or_eq_true, decide_eq_true_eq, has i hi b hb]
      constructor
      · rintro (⟨h2, h3⟩ | rfl)
        · exact ⟨by omega, h3⟩
        · exact ⟨by omega, h1⟩
      · rintro ⟨h2, h3⟩
        by_cases e : b = k
        · exact .inr e
        · exact .inl ⟨by omega, h3⟩
    · rw [if_neg (fun q => e q.1), has j hj b hb]
      constructor
      · rintro ⟨h2, h3⟩; exact ⟨by omega, h3⟩
      · rintro ⟨h2, h3⟩
        refine ⟨?_, h3⟩
        by_cases e2 : b = k
        · subst e2
          rw [h1] at h3
          have := Option.some.inj h3
          omega
        · omega
theorem parts_go (L : List BSet) : ∃ r, Dh_ L = some r ∧ (r.2 = 0 → ∃ m, PartI L 256 m r.1) ∧ r.1.length ≤ 256 := by
  unfold Dh_
  by_cases hL : 1024 < ((L.length : Nat) : Int)
  · rw [iteO_dt hL]; exact ⟨_, rfl, fun h => (by cases h), by simp⟩
  rw [iteO_df hL]
  refine iter_up (step := fun q : (FM (List UInt8) Int) × (List BSet) × Nat => A0_ L q.1 q.2.1 q.2.2) (fun (s : (FM (List UInt8) Int) × List BSet) k => (s.1, s.2, k)) 256 (fun k s => PartI L k s.1 s.2) _
    (fun k s hk hI => ?_) (fun s hI => ?_) (s0 := (FM.emp, [])) ⟨Nat.le_refl _, fun b hb => by omega, fun x v hx => (by cases hx), fun x y v hx => (by cases hx), fun i hi => by simp at hi⟩
  · obtain ⟨m, p⟩ := s
    have hI : PartI L k m p := hI
    have hlen := hI.len
    show (∃ s', A0_ L m p k = _ ∧ _) ∨ _
    unfold A0_
    rw [iteO_dt (by omega), partkey_eq L (by omega) hk, bnd_mk]
    left
    cases hh : m.has (keyB L k) with
    | true =>
      rw [Bool.not_true, iteO_false]
      obtain ⟨v, hv⟩ : ∃ v, m.f (keyB L k) = some v := by
        unfold FM.has at hh
        exact Option.isSome_iff_exists.1 hh
      obtain ⟨i, hi, rfl⟩ := hI.val _ _ hv
      have hg : m.get (keyB L k) 0 = ((i : Nat) : Int) := by unfold FM.get; rw [hv]; rfl
      rw [hg]
      obtain ⟨p', e, hP⟩ := parts_j1 hk hi (by omega) hv hI.at_ hI.val hI.inj hI.has
      exact ⟨(m, p'), e, hP⟩
    | false =>
      rw [Bool.not_false, iteO_true, grd_mk (by rw [List.length_singleton]; omega)]
      have hn : m.f (keyB L k) = none := by
        unfold FM.has at hh
        cases e : m.f (keyB L k) with
        | none => rfl
        | some v => rw [e] at hh; cases hh
      have hput : ∀ x, (m.put (keyB L k) ((p.length : Nat) : Int)).f x = if x = keyB L k then some ((p.length : Nat) : Int) else m.f x := fun x => rfl
      have hne : ∀ b, b < k → keyB L b ≠ keyB L k := fun b hb e => by
        obtain ⟨i, -, hi⟩ := hI.at_ b hb
        rw [e, hn] at hi; cases hi
      have hlen1 : (p ++ [BSet.zero]).length = p.length + 1 := by rw [List.length_append, List.length_singleton]
      obtain ⟨p', e, hP⟩ := parts_j1 (L := L) hk (m := m.put (keyB L k) ((p.length : Nat) : Int)) (p := p ++ [BSet.zero]) (i := p.length) (by omega) (by omega) (by rw [hput, if_pos rfl])
        (fun b hb => by
          obtain ⟨i, h1, h2⟩ := hI.at_ b hb
          exact ⟨i, by omega, by rw [hput, if_neg (hne b hb)]; exact h2⟩)
        (fun x v hx => by
          rw [hput] at hx
          by_cases e : x = keyB L k
          · rw [if_pos e] at hx; exact ⟨p.length, by omega, (Option.some.inj hx).symm⟩
          · rw [if_neg e] at hx
            obtain ⟨i, h1, h2⟩ := hI.val x v hx
            exact ⟨i, by omega, h2⟩)
        (fun x y v hx hy => by
          rw [hput] at hx hy
          by_cases e : x = keyB L k
          · by_cases e2 : y = keyB L k
            · rw [e, e2]
            · rw [if_pos e] at hx
              rw [if_neg e2] at hy
              obtain ⟨i, h1, h2⟩ := hI.val y v hy
              have := Option.some.inj hx
              omega
          · by_cases e2 : y = keyB L k
            · rw [if_neg e] at hx
              rw [if_pos e2] at hy
              obtain ⟨i, h1, h2⟩ := hI.val x v hx
              have := Option.some.inj hy
              omega
            · rw [if_neg e] at hx
              rw [if_neg e2] at hy
              exact hI.inj x y v hx hy)
        (fun i hi b hb => by
          rw [hput]
          by_cases e : i < p.length
          · rw [nth_app_l _ _ _ _ e, hI.has i e b hb]
            by_cases e2 : keyB L b = keyB L k
            · rw [if_pos e2]
              constructor
              · rintro ⟨h1, h2⟩
                exact absurd e2 (hne b h1)
              · rintro ⟨h1, h2⟩
                exact absurd e2 (hne b h1)
            · rw [if_neg e2]
          · obtain rfl : i = p.length := by omega
            rw [nth_app_e]
            constructor
            · intro h
              rw [← BSet.make_zero, BSet.make_has _ hb] at h; cases h
            · rintro ⟨h1, h2⟩
              rw [if_neg (hne b h1)] at h2
              obtain ⟨j, h3, h4⟩ := hI.val _ _ h2
              omega)
      exact ⟨(_, p'), e, hP⟩
  · obtain ⟨m, p⟩ := s
    refine ⟨(p, 0), ?_, fun _ => ⟨m, hI⟩, hI.len⟩
    show A0_ L m p 256 = _
    unfold A0_
    rw [iteO_df (by omega)]; rfl
theorem PartI.same {L : List BSet} {m : FM (List UInt8) Int} {p : List BSet} (h : PartI L 256 m p) {i : Nat} (hi : i < p.length) {b c : Nat} (hb : b < 256) (hc : c < 256) (h1 : (nth p i BSet.zero).has b = true) (h2 : (nth p i BSet.zero).has c = true) : ∀ s ∈ L, s.has b = s.has c :=
  keyB_eq (h.inj _ _ _ ((h.has i hi b hb).1 h1).2 ((h.has i hi c hc).1 h2).2)
structure ClsI (p : List BSet) (l : List Int) : Prop where
  len : l.length = 256
  at_ : ∀ b, b < 256 → nth l b (0 : Int) = -1 ∨ ∃ i : Nat, nth l b (0 : Int) = ((i : Nat) : Int) ∧ i < p.length ∧ (nth p i BSet.zero).has b = true
def ClsR (p : List BSet) (r : List Int × Int) : Prop := r.2 = 0 → r.1.length = 256 ∧ ∀ b, b < 256 → ∃ i : Nat, nth r.1 b (0 : Int) = ((i : Nat) : Int) ∧ i < p.length ∧ (nth p i BSet.zero).has b = true
theorem class_b4 {p : List BSet} {l : List Int} (h : ClsI p l) : ∃ r, iter (fun q : Nat => Ak_ l q) 0 = some r ∧ ClsR p r := by
  have hlen := h.len
  refine iter_up (step := fun q : Nat => Ak_ l q) (fun (_ : Unit) k => k) 256 (fun k _ => ∀ b, b < k → 0 ≤ nth l b (0 : Int)) _ (fun k s hk hI => ?_) (fun s hI => ?_) (s0 := ()) (fun b hb => by omega)
  · show (∃ s', Ak_ l k = _ ∧ _) ∨ ∃ r, Ak_ l k = _ ∧ _
    unfold Ak_
    rw [List.length_replicate, iteO_dt (by omega), grd_mk (by omega)]
    by_cases c : nth l k (0 : Int) < 0
    · rw [iteO_dt c]; exact .inr ⟨_, rfl, fun h => by cases h⟩
    · rw [iteO_df c]
      refine .inl ⟨(), rfl, fun b hb => ?_⟩
      by_cases e : b = k
      · subst e; omega
      · exact hI b (by omega)
  · refine ⟨(l, 0), ?_, fun _ => ⟨hlen, fun b hb => ?_⟩⟩
    · show Ak_ l 256 = _
      unfold Ak_
      rw [List.length_replicate, iteO_df (by omega)]; rfl
    · rcases h.at_ b hb with h1 | h1
      · have := hI b hb
        show ∃ i : Nat, nth l b (0 : Int) = _ ∧ _
        omega
      · exact h1
theorem class_b3 {p : List BSet} {k : Nat} (hk : k < p.length) (v : UInt8 × Bool) {l : List Int} (h : ClsI p l) :
    ∃ r, iter (fun q : (List Int) × Nat => Ai_ p k v q.1 q.2) (l, 0) = some r ∧ ((∃ l', r = .inl (l', ((v.1.toNat : Nat) : Int), k + 1) ∧ ClsI p l') ∨ r = .inr ([], 1)) := by
  refine iter_up (step := fun q : (List Int) × Nat => Ai_ p k v q.1 q.2) (fun (l : List Int) j => (l, j)) 256 (fun _ l => ClsI p l) _ (fun j l hj hI => ?_) (fun l hI => ?_) (s0 := l) h
  · have hlen := hI.len
    show (∃ s', Ai_ p k v l j = _ ∧ _) ∨ ∃ r, Ai_ p k v l j = _ ∧ _
    unfold Ai_ Ca_
    rw [iteO_dt (by omega), u8_of hj]
    cases hh : (nth p k BSet.zero).has j with
    | false => rw [Bool.not_false, iteO_true]; exact .inl ⟨l, rfl, hI⟩
    | true =>
      rw [Bool.not_true, iteO_false, grd_mk (by omega)]
      by_cases c : 0 ≤ nth l j (0 : Int)
      · rw [iteO_dt c]; exact .inr ⟨_, rfl, .inr rfl⟩
      · rw [iteO_df c, grd_mk (by omega)]
        refine .inl ⟨_, rfl, by rw [List.length_set]; exact hlen, fun b hb => ?_⟩
        rw [nth_set]
        by_cases e : j = b
        · subst e; rw [if_pos ⟨rfl, by omega⟩]; exact .inr ⟨k, rfl, hk, hh⟩
        · rw [if_neg (fun q => e q.1)]; exact hI.at_ b hb
  · refine ⟨_, ?_, .inl ⟨l, rfl, hI⟩⟩
    show Ai_ p k v l 256 = _
    unfold Ai_
    rw [iteO_df (by omega)]; rfl
theorem class_b2 {p : List BSet} {l : List Int} (h : ClsI p l) : ∃ r, iter (fun q : (List Int) × Int × Nat => Ah_ p q.1 q.2.1 q.2.2) (l, -1, 0) = some r ∧ ClsR p r := by
  refine iter_up (step := fun q : (List Int) × Int × Nat => Ah_ p q.1 q.2.1 q.2.2) (fun (s : List Int × Int) k => (s.1, s.2, k)) p.length (fun _ s => ClsI p s.1) _ (fun k s hk hI => ?_) (fun s hI => ?_) (s0 := (l, -1)) h
  · obtain ⟨l, i⟩ := s
    show (∃ s', Ah_ p l i k = _ ∧ _) ∨ ∃ r, Ah_ p l i k = _ ∧ _
    unfold Ah_
    rw [iteO_dt (by omega), (first_go _).1, bnd_mk]
    dsimp only
    by_cases c1 : nth p k BSet.zero ≠ BSet.zero
    · rw [decide_eq_true c1, Bool.not_true, iteO_false]
      by_cases c2 : (((fstB8 (nth p k BSet.zero)).toNat : Nat) : Int) ≤ i
      · rw [iteO_dt c2]; exact .inr ⟨_, rfl, fun h => by cases h⟩
      · rw [iteO_df c2]
        obtain ⟨r, e, h2⟩ := class_b3 hk (fstB8 (nth p k BSet.zero), true) hI
        rw [e]
        rcases h2 with ⟨l', rfl, h2⟩ | rfl
        · exact .inl ⟨(l', _), rfl, h2⟩
        · exact .inr ⟨_, rfl, fun h => by cases h⟩
    · rw [decide_eq_false c1, Bool.not_false, iteO_true]; exact .inr ⟨_, rfl, fun h => by cases h⟩
  · obtain ⟨l, i⟩ := s
    obtain ⟨r, e, h2⟩ := class_b4 (p := p) hI
    refine ⟨r, ?_, h2⟩
    show Ah_ p l i p.length = _
    unfold Ah_
    rw [iteO_df (by omega), e]; rfl
theorem class_go (p : List BSet) : ∃ r, Df_ p = some r ∧ ClsR p r := by
  unfold Df_
  refine iter_up (step := fun q : (List Int) × Nat => A5_ p q.1 q.2) (fun (l : List Int) k => (l, k)) 256 (fun k l => l.length = 256 ∧ ∀ b, b < k → nth l b (0 : Int) = -1) _ (fun k l hk hI => ?_) (fun l hI => ?_) (s0 := List.replicate 256 0) ⟨by rw [List.length_replicate], fun b hb => by omega⟩
  · obtain ⟨h1, h2⟩ := hI
    show (∃ s', A5_ p l k = _ ∧ _) ∨ _
    unfold A5_
    rw [List.length_replicate, iteO_dt (by omega), grd_mk (by omega)]
    refine .inl ⟨_, rfl, by rw [List.length_set]; exact h1, fun b hb => ?_⟩
    rw [nth_set]
    by_cases e : k = b
    · rw [if_pos ⟨e, by omega⟩]
    · rw [if_neg (fun q => e q.1)]; exact h2 b (by omega)
  · obtain ⟨h1, h2⟩ := hI
    obtain ⟨r, e, h3⟩ := class_b2 (p := p) (l := l) ⟨h1, fun b hb => .inl (h2 b hb)⟩
    refine ⟨r, ?_, h3⟩
    show A5_ p l 256 = _
    unfold A5_
    rw [List.length_replicate, iteO_df (by omega), e]; rfl
theorem unlike_go (l : List Arrow) (hl : l.length ≤ 1000000) : ∃ r, De_ l = some r ∧ ∀ e ∈ l, e.set ∈ r := by
  unfold De_
  obtain ⟨r, e, h⟩ := iter_up (step := fun q : (FM BSet Int) × (List BSet) × Nat => A6_ l q.1 q.2.1 q.2.2) (fun (s : (FM BSet Int) × List BSet) k => (s.1, s.2, k)) l.length (fun k s => s.2.length ≤ k ∧ (∀ x, s.1.has x = true → x ∈ s.2) ∧ ∀ e ∈ l.take k, e.set ∈ s.2) (fun r => ∀ e ∈ l, e.set ∈ r)
    (fun k s hk hI => by
      obtain ⟨m, p⟩ := s
      obtain ⟨h1, h2, h3⟩ := hI
      dsimp only at h1 h2 h3
      show (∃ s', A6_ l m p k = _ ∧ _) ∨ _
      unfold A6_ Cd_
      rw [iteO_dt (by omega), take_snoc l hk Arrow.zero]
      cases hh : m.has (nth l k Arrow.zero).set with
      | true =>
        rw [Bool.not_true, iteO_false]
        refine .inl ⟨(m, p), rfl, by show p.length ≤ _; omega, h2, fun e he => ?_⟩
        rcases List.mem_append.1 he with he | he
        · exact h3 e he
        · rw [List.mem_singleton.1 he]; exact h2 _ hh
      | false =>
        rw [Bool.not_false, iteO_true, grd_mk (by rw [List.length_singleton]; omega)]
        refine .inl ⟨(_, p ++ [(nth l k Arrow.zero).set]), rfl, by show (p ++ [_]).length ≤ _; rw [List.length_append, List.length_singleton]; omega, fun x hx => ?_, fun e he => ?_⟩
        · show x ∈ p ++ [_]
          rw [List.mem_append, List.mem_singleton]
          by_cases e : x = (nth l k Arrow.zero).set
          · exact .inr e
          · refine .inl (h2 x ?_)
            have h4 : (m.put (nth l k Arrow.zero).set ((p.length : Nat) : Int)).f x = m.f x := by show (if x = _ then _ else _) = _; rw [if_neg e]
            have hx' : ((m.put (nth l k Arrow.zero).set ((p.length : Nat) : Int)).f x).isSome = true := hx
            rw [h4] at hx'; exact hx'
        · show e.set ∈ p ++ [_]
          rcases List.mem_append.1 he with he | he
          · exact List.mem_append_left _ (h3 e he)
          · rw [List.mem_singleton.1 he]; exact List.mem_append_right _ (List.mem_singleton.2 rfl))
    (fun s hI => by
      obtain ⟨m, p⟩ := s
      obtain ⟨h1, h2, h3⟩ := hI
      rw [List.take_length] at h3
      refine ⟨p, ?_, h3⟩
      show A6_ l m p l.length = _
      unfold A6_
      rw [iteO_df (by omega)]; rfl)
    (s0 := (FM.emp, [])) ⟨Nat.le_refl _, fun x hx => (by cases hx), fun e he => (by cases he)⟩
  exact ⟨r, e, h⟩
theorem behind_go {n : Nfa} {A : List (List Arrow)} (hA : Grp Arrow.frm id n.states.toNat A n.edges) (h0 : 0 ≤ n.states) (hE : n.edges.length ≤ 16384) {row : List Int} (hr : ∀ x ∈ row, 0 ≤ x ∧ x < n.states) (hl : row.length ≤ 20) (s : BSet) :
    ∃ l, Dc_ A row s = some l ∧ l.length ≤ 1000000 ∧ ∀ q, q ∈ l ↔ ∃ e ∈ n.edges, e.frm ∈ row ∧ e.set.has (fstB8 s).toNat = true ∧ e.to = q := by
  have hlen := hA.len
  unfold Dc_
  rw [(first_go s).1, bnd_mk]
  obtain ⟨r, e, h1, h2⟩ := iter_up (step := fun q : (List Int) × Nat => Az_ row A (fstB8 s, decide (s ≠ BSet.zero)) q.1 q.2) (fun (l : List Int) k => (l, k)) row.length
    (fun k l => l.length ≤ 16384 * k ∧ ∀ q, q ∈ l ↔ ∃ e ∈ n.edges, e.frm ∈ row.take k ∧ e.set.has (fstB8 s).toNat = true ∧ e.to = q) (fun r => r.length ≤ 1000000 ∧ ∀ q, q ∈ r ↔ ∃ e ∈ n.edges, e.frm ∈ row ∧ e.set.has (fstB8 s).toNat = true ∧ e.to = q)
    (fun k l hk hI => by
      obtain ⟨h1, h2⟩ := hI
      have hx := hr _ (nth_mem' hk (0 : Int))
      have hg : nth A (nth row k (0 : Int)).toNat ([] : List Arrow) = n.edges.filter fun e => decide (e.frm = nth row k (0 : Int)) := by rw [hA.at hx.1 (by omega), List.map_id]
      have hgl : (nth A (nth row k (0 : Int)).toNat ([] : List Arrow)).length ≤ 16384 := by
        rw [hg]; exact Nat.le_trans (List.length_filter_le _ _) hE
      show (∃ s', Az_ row A (fstB8 s, decide (s ≠ BSet.zero)) l k = _ ∧ _) ∨ _
      unfold Az_
      rw [iteO_dt (by omega), grd_mk (by omega)]
      obtain ⟨r, e, l', rfl, h3, h4⟩ := iter_up (step := fun q : (List Int) × Nat => A4_ A row k (fstB8 s, decide (s ≠ BSet.zero)) q.1 q.2) (fun (l : List Int) j => (l, j)) (nth A (nth row k (0 : Int)).toNat ([] : List Arrow)).length
        (fun j m => m.length ≤ l.length + j ∧ ∀ q, q ∈ m ↔ q ∈ l ∨ ∃ e ∈ (nth A (nth row k (0 : Int)).toNat ([] : List Arrow)).take j, e.set.has (fstB8 s).toNat = true ∧ e.to = q)
        (fun r => ∃ l', r = .inl (l', k + 1) ∧ l'.length ≤ l.length + 16384 ∧ ∀ q, q ∈ l' ↔ q ∈ l ∨ ∃ e ∈ nth A (nth row k (0 : Int)).toNat ([] : List Arrow), e.set.has (fstB8 s).toNat = true ∧ e.to = q)
        (fun j m hj hI => by
          obtain ⟨h3, h4⟩ := hI
          show (∃ s', A4_ A row k (fstB8 s, decide (s ≠ BSet.zero)) m j = _ ∧ _) ∨ _
          unfold A4_ Cc_
          dsimp only
          rw [iteO_dt (by omega)]
          cases hh : (nth (nth A (nth row k (0 : Int)).toNat ([] : List Arrow)) j Arrow.zero).set.has (fstB8 s).toNat with
          | true =>
            rw [iteO_true, grd_mk (by rw [List.length_singleton]; omega)]
            refine .inl ⟨_, rfl, by rw [List.length_append, List.length_singleton]; omega, fun q => ?_⟩
            rw [take_snoc _ hj Arrow.zero, List.mem_append, List.mem_singleton, h4]
            constructor
            · rintro ((h | ⟨e, he, h5⟩) | rfl)
              · exact .inl h
              · exact .inr ⟨e, List.mem_append_left _ he, h5⟩
              · exact .inr ⟨_, List.mem_append_right _ (List.mem_singleton.2 rfl), hh, rfl⟩
            · rintro (h | ⟨e, he, h5, h6⟩)
              · exact .inl (.inl h)
              · rcases List.mem_append.1 he with he | he
                · exact .inl (.inr ⟨e, he, h5, h6⟩)
                · rw [List.mem_singleton.1 he] at h6; exact .inr h6.symm
          | false =>
            rw [iteO_false]
            refine .inl ⟨m, rfl, by omega, fun q => ?_⟩
            rw [take_snoc _ hj Arrow.zero, h4]
            refine or_congr Iff.rfl ⟨fun ⟨e, he, h5⟩ => ⟨e, List.mem_append_left _ he, h5⟩, fun ⟨e, he, h5, h6⟩ => ?_⟩
            rcases List.mem_append.1 he with he | he
            · exact ⟨e, he, h5, h6⟩
            · rw [List.mem_singleton.1 he, hh] at h5; cases h5)
        (fun m hI => by
          obtain ⟨h3, h4⟩ := hI
          rw [List.take_length] at h4
          refine ⟨.inl (m, k + 1), ?_, m, rfl, by omega, h4⟩
          show A4_ A row k (fstB8 s, decide (s ≠ BSet.zero)) m (nth A (nth row k (0 : Int)).toNat ([] : List Arrow)).length = _
          unfold A4_
          rw [iteO_df (by omega)]; rfl)
        (s0 := l) ⟨Nat.le_refl _, fun q => by simp⟩
      rw [e]
      refine .inl ⟨l', rfl, by omega, fun q => ?_⟩
      rw [h4, h2, take_snoc row hk (0 : Int), hg]
      constructor
      · rintro (⟨e, he, h5, h6⟩ | ⟨e, he, h6⟩)
        · exact ⟨e, he, List.mem_append_left _ h5, h6⟩
        · obtain ⟨h7, h8⟩ := List.mem_filter.1 he
          exact ⟨e, h7, List.mem_append_right _ (List.mem_singleton.2 (of_decide_eq_true h8)), h6⟩
      · rintro ⟨e, he, h5, h6⟩
        rcases List.mem_append.1 h5 with h5 | h5
        · exact .inl ⟨e, he, h5, h6⟩
        · exact .inr ⟨e, List.mem_filter.2 ⟨he, decide_eq_true (List.mem_singleton.1 h5)⟩, h6⟩)
    (fun l hI => by
      obtain ⟨h1, h2⟩ := hI
      rw [List.take_length] at h2
      refine ⟨l, ?_, by omega, h2⟩
      show Az_ row A (fstB8 s, decide (s ≠ BSet.zero)) l row.length = _
      unfold Az_
      rw [iteO_df (by omega)]; rfl)
    (s0 := []) ⟨Nat.le_refl _, fun q => by simp⟩
  exact ⟨r, e, h1, h2⟩
end Go.Proofs.YtnpbfjdpglfdkaaGreatDoor
end

section
namespace Go.Proofs.YtnpbfjdpglfdkaaGreatDoor
open Go Go.E
section
variable {α : Type} [DecidableEq α] {d : α} {cf : α → α → Int}
end
end Go.Proofs.YtnpbfjdpglfdkaaGreatDoor
end
