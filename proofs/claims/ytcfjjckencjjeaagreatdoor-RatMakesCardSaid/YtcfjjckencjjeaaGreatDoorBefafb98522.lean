/- Parts of a proof, one behind the other: what a machine reaches, functions decompiled, plain lemmas. Conditions stand with each lemma. -/
import Derived.Test.YtcfjjckencjjeaaGreatDoorBd46949d010
import Derived.Test.YtcfjjckencjjeaaGreatDoorBfcee5c748a
import Derived.RangeFuncLeaves
import Derived.Shelf.SlSortCmp.NoneTotal
import Derived.Shelf.Sort.Plain
import Derived.Test.YtcfjjckencjjeaaGreatDoorChecked

/- S1 -/
section
/- Decompiled: bytes told apart by sets; automatons that go one way. -/
set_option linter.unusedVariables false
set_option linter.unusedSimpArgs false
namespace Go.Proofs.YtcfjjckencjjeaaGreatDoor
open Go Go.E Go.E.OpVal Go.E.OpOk Go.Proofs.Tryz
set_option maxRecDepth 100000
private theorem ag23 : Go.E.aggOf Tryz.prog 23 = some false := by kernel_rfl
private theorem ag24 : Go.E.aggOf Tryz.prog 24 = some false := by kernel_rfl
private theorem ag81 : Go.E.aggOf Tryz.prog 81 = some false := by kernel_rfl
private theorem by5 : Go.E.byOf Tryz.prog 5 = some 1 := by kernel_rfl
private theorem by58 : Go.E.byOf Tryz.prog 58 = some 32 := by kernel_rfl
private theorem fo26_0 : Go.E.foOf Tryz.prog 26 0 = some 0 := by kernel_rfl
private theorem fo26_1 : Go.E.foOf Tryz.prog 26 1 = some 1 := by kernel_rfl
private theorem fo26_2 : Go.E.foOf Tryz.prog 26 2 = some 2 := by kernel_rfl
private theorem pf40 : Go.E.plainF Tryz.prog 40 = true := by kernel_rfl
private theorem pf48 : Go.E.plainF Tryz.prog 48 = true := by kernel_rfl
private theorem pf55 : Go.E.plainF Tryz.prog 55 = true := by kernel_rfl
private theorem pf70 : Go.E.plainF Tryz.prog 70 = true := by kernel_rfl
private theorem pf81 : Go.E.plainF Tryz.prog 81 = true := by kernel_rfl
private theorem pf82 : Go.E.plainF Tryz.prog 82 = true := by kernel_rfl
private theorem pf92 : Go.E.plainF Tryz.prog 92 = true := by kernel_rfl
private theorem sz22 : Go.E.szOf Tryz.prog 22 = some 1 := by kernel_rfl
private theorem ze5 : Go.E.zeroOf Tryz.prog 5 = some (.int .u8 0) := by kernel_rfl

noncomputable def math_bits_TrailingZeros64 (x0 : Nat) : Option (Int) :=
 iteO (decide (x0 = 0)) (some 64) (grd ((u64shr (u64mul (u64and x0 (u64of (-((x0 : Nat) : Int)))) 285870213051353865) 58) < 64) (some (((nth deB (u64shr (u64mul (u64and x0 (u64of (-((x0 : Nat) : Int)))) 285870213051353865) 58) (0 : UInt8)).toNat : Nat) : Int)))
theorem math_bits_TrailingZeros64_con {σ : Store} {x0 : Nat} (hgl : GT σ 1 encU8 deB) {r : Int} (hh : math_bits_TrailingZeros64 x0 = some r) :
  Con Tryz.prog 92 #[.int .u64 ((x0 : Nat) : Int)] σ [] (PureP (.int .i64 r) σ) := by
 dsimp only [math_bits_TrailingZeros64] at hh
 refine Con.mk (n := 14) Tryz.func92 z z z (fun w0 => ?_)
 refine TC.a (TL.i z z (TL.en (TC.seq (TC.a (TL.i z z (TL.w z (eqlU z z z) (TL.en (TC.cD z hh (fun h101 hh => ?_) (fun h101 hh => ?_)))))))))
 ·refine TC.a (TL.i z z (TL.en (TC.ret (S.r ?_))))
  obtain rfl := so hh
  exact rq [2] ⟨z, z, z⟩
 ·refine TC.skip (S.n (TC.a (TL.i z z (TL.i z z (TL.w z (negU z z) (TL.w z (andU z z z) (TL.w z (mulU (b := 285870213051353865) z z z) (TL.w z (shrU (b := 58) z z z) ?_))))))))
  have u11 := grd_c hh
  replace hh := grd_t hh
  refine TL.w z (indexArrN z underlying168 sz5 z z (by omega)) (TL.w z (loadG1 (0 : UInt8) z ag5 z hgl (by simp only [deB, List.length_cons, List.length_nil]; omega) encU8_len z) (TL.w z (convN z underlying5 underlying3 z (by have := UInt8.toNat_lt (nth deB (u64shr (u64mul (u64and x0 (u64of (-((x0 : Nat) : Int)))) 285870213051353865) 58) (0 : UInt8)); simp only [kmax]; omega)) (TL.i z z (TL.en (TC.ret ?_)))))
  obtain rfl := so hh
  exact rq [2] ⟨z, z, z⟩

noncomputable def set_First_b1 (x0 : BSet) (k105 : Nat) : Option ((Nat) ⊕ (UInt8 × Bool)) :=
 iteO (decide (((k105 : Nat) : Int) < 4)) (grd (k105 < 4) (iteO (decide ((BSet.word x0 k105) ≠ 0)) (bnd (math_bits_TrailingZeros64 (BSet.word x0 k105)) (fun v16 => fin (some ((toU8 (IntKind.i64.wrap ((IntKind.i64.wrap (64 * ((k105 : Nat) : Int))) + v16))), true)))) (nxt (k105 + 1)))) (fin (some ((0 : UInt8), false)))
noncomputable def set_First (x0 : BSet) : Option (UInt8 × Bool) :=
 iter (fun q : Nat => set_First_b1 x0 q) 0
theorem set_First_con {σ : Store} {x0 : BSet} (hgl : GT σ 1 encU8 deB) {r : UInt8 × Bool} (hh : set_First x0 = some r) :
  Con Tryz.prog 82 #[setV x0] σ [] (PureP (.tuple #[.int .u8 ((r.1.toNat : Nat) : Int), .bool r.2]) σ) := by
 dsimp only [set_First] at hh
 refine Con.mk (n := 20) Tryz.func82 z z z (fun w0 => ?_)
 refine TC.a (TL.op z (boxA z z z z (fun b101 => ?_)))
 refine TL.i z z (TL.j z z (TL.en (TC.seq (TC.a (TL.w z (loadAll z ag58 sz58 z (i := 0) z z) (TL.i z z (TL.en (TC.block (TC.loopG (α := (Nat) × (Unit)) (rgs [(2, 4), (7, 13)]) (fun g => [(7, .int .i64 ((g.1 : Nat) : Int))]) (fun g => []) (fun g => σ) (fun g => iter (fun q : Nat => set_First_b1 x0 q) g.1 = some r) (fun g => rounds (fun q : Nat => set_First_b1 x0 q) g.1) (0, ()) (Sub.pre 0 z) z (by repeat (first | exact trivial | refine ⟨z, ?_⟩)) hh (fun g1 j1 hg1 => ?_))))))))))
 obtain ⟨k105, _⟩ := g1
 have hh := hg1; clear hg1
 try dsimp only
 obtain ⟨z1, hh, hR1⟩ := iter_e hh
 dsimp only [set_First_b1] at hh
 refine TC.a (TL.w z (OpVal.lss z z z) (TL.en (TC.seq (TC.cD z hh (fun h106 hh => ?_) (fun h106 hh => ?_)))))
 ·refine TC.skip (S.n (TC.seq (TC.block (TC.a (TL.i z z ?_)))))
  have u8 := grd_c hh
  replace hh := grd_t hh
  refine TL.w z (indexSet z underlying58 sz56 ag56 z z (by omega)) (TL.i z z (TL.i z z (TL.en (TC.a (TL.i z z (TL.w z (neqU z z z) (TL.en (TC.cD z hh (fun h107 hh => ?_) (fun h107 hh => ?_)))))))))
  ·refine TC.a (TL.i z z (TL.w z (mulW z z z) (TL.i z z ?_)))
   obtain ⟨v16, u16, hh⟩ := bnd_e hh
   refine TL.op z (callP (math_bits_TrailingZeros64_con hgl u16) z z pf92 z z z ?_)
   refine TL.w z (addW z z z) (TL.w z (convU8 z underlying3 underlying5 z) (TL.i z z (TL.j z z (TL.en (TC.ret (B.r (S.r (S.r ?_))))))))
   replace hh := fin_x hR1 hh
   refine B.r (S.r ?_)
   obtain rfl := so hh
   exact rq [2, 3] ⟨z, z, z⟩
  ·refine TC.skip (B.n (S.n (TC.region (TL.w z (OpVal.succ z z z (by omega)) (TL.i z z (TL.en ?_))))))
   obtain ⟨hh, hlt108⟩ := nxt_x hR1 hh
   exact lf ((k105 + 1), ()) hlt108 hh (Sub.pre 0 z)
 ·refine TC.exit (S.x (S.x ?_))
  replace hh := fin_x hR1 hh
  refine TC.exitHere (S.n (TC.a (TL.i z z (TL.j z z (TL.en (TC.ret ?_))))))
  obtain rfl := so hh
  exact rq [2, 3] ⟨z, z, z⟩

noncomputable def set_Any_b1 (x1 : BSet) (z111 : BSet) (k112 : Nat) : Option ((BSet × Nat) ⊕ (BSet)) :=
 iteO (decide (((k112 : Nat) : Int) < 4)) (grd (k112 < 4) (grd (k112 < 4) (grd (k112 < 4) (grd ((u64or (BSet.word z111 k112) (BSet.word x1 k112)) < 18446744073709551616) (nxt ((BSet.setWord z111 k112 (u64or (BSet.word z111 k112) (BSet.word x1 k112))), (k112 + 1))))))) (fin (some z111))
noncomputable def set_Any (x0 : BSet) (x1 : BSet) : Option (BSet) :=
 iter (fun q : BSet × Nat => set_Any_b1 x1 q.1 q.2) (x0, 0)
theorem set_Any_con {σ : Store} {x0 : BSet} {x1 : BSet}  {r : BSet} (hh : set_Any x0 x1 = some r) :
  Con Tryz.prog 55 #[setV x0, setV x1] σ [] (PureP (setV r) σ) := by
 dsimp only [set_Any] at hh
 refine Con.mk (n := 19) Tryz.func55 z z z (fun w0 => ?_)
 refine TC.a (TL.op z (boxA z z z z (fun b101 => ?_)))
 refine TL.op z (boxA z z z z (fun b103 => ?_))
 refine TL.op z (OpOk.alloc z ze58 z z (fun b105 => ?_))
 refine TL.en (TC.seq (TC.a (TL.i z z (TL.en (TC.block (TC.loopG (α := (BSet × Nat) × (Unit)) (rgs [(5, 13)]) (fun g => [(6, .int .i64 ((g.1.2 : Nat) : Int))]) (fun g => [Res.cells b101 (setA g.1.1) 58, Res.cells b103 (setA x1) 58, Res.cells b105 (setA BSet.zero) 58]) (fun g => σ) (fun g => iter (fun q : BSet × Nat => set_Any_b1 x1 q.1 q.2) g.1 = some r) (fun g => rounds (fun q : BSet × Nat => set_Any_b1 x1 q.1 q.2) g.1) ((x0, 0), ()) (Sub.f [1, 2] 3) z (by repeat (first | exact trivial | refine ⟨z, ?_⟩)) hh (fun g1 j1 hg1 => ?_)))))))
 obtain ⟨⟨z111, k112⟩, _⟩ := g1
 have hh := hg1; clear hg1
 try dsimp only
 obtain ⟨z1, hh, hR1⟩ := iter_e hh
 dsimp only [set_Any_b1] at hh
 refine TC.a (TL.w z (OpVal.lss z z z) (TL.en (TC.seq (TC.cD z hh (fun h113 hh => ?_) (fun h113 hh => ?_)))))
 ·refine TC.skip (S.n (TC.seq (TC.block (TC.a (TL.i z z (TL.i z z (TL.en ?_)))))))
  have u9 := grd_c hh
  replace hh := grd_t hh
  have u12 := grd_c hh
  replace hh := grd_t hh
  have u15 := grd_c hh
  replace hh := grd_t hh
  have u16 := grd_c hh
  replace hh := grd_t hh
  refine TC.draw [8] (by kernel_rfl) (TA.a 0 z (moveI (.inl z) z) z (TA.b 1 z (indexArrN z underlying58 sz56 z z (by omega)) z (TA.b 2 z (loadWordAt z111 z ag56 z (j := 0) z (by omega) z) z (TA.a 3 z (moveI (.inl z) z) z (TA.b 4 z (indexArrN z underlying58 sz56 z z (by omega)) z (TA.b 5 z (loadWordAt x1 z ag56 z (j := 1) z (by omega) z) z (TA.a 6 z (orU z z z) z (TA.b 7 z (indexArrN z underlying58 sz56 z z (by omega)) z (TA.last 8 (by kernel_rfl) z z z (storeWord z sz56 z z z (by omega) u16 ?_))))))))))
  refine TZ.done (by kernel_rfl) (B.n (S.n (TC.region (TL.w z (OpVal.succ z z z (by omega)) (TL.i z z (TL.en ?_))))))
  obtain ⟨hh, hlt114⟩ := nxt_x hR1 hh
  exact lf (((BSet.setWord z111 k112 (u64or (BSet.word z111 k112) (BSet.word x1 k112))), (k112 + 1)), ()) hlt114 hh (Sub.f [2, 2, 2] 3)
 ·refine TC.exit (S.x (S.x ?_))
  replace hh := fin_x hR1 hh
  refine TC.exitHere (S.n (TC.a (TL.w z (loadAll z ag58 sz58 z (i := 0) z z) (TL.front 2 z z (TL.op z (storeAll z sz58 z z z z z z ?_))))))
  refine TL.en (TC.rt 1 ?_)
  obtain rfl := so hh
  exact ro [] z (RVs.agg ag58 sz58 z (i := 0) z z RVs.nil) ⟨z, z, z⟩

noncomputable def part_key_j1 (k112 : Nat) (l115 : List UInt8) : Option (((List UInt8) × Nat) ⊕ ((List UInt8))) :=
 nxt (l115, (k112 + 1))
noncomputable def part_key_b1 (x0 : List BSet) (x1 : UInt8) (l110 : List UInt8) (k112 : Nat) : Option (((List UInt8) × Nat) ⊕ ((List UInt8))) :=
 iteO (decide (((k112 : Nat) : Int) < ((x0.length : Nat) : Int))) (iteO ((nth x0 k112 BSet.zero).has x1.toNat) (grd (k112 < l110.length) (part_key_j1 k112 (l110.set k112 (1 : UInt8)))) (part_key_j1 k112 l110)) (fin (some l110))
noncomputable def part_key (x0 : List BSet) (x1 : UInt8) : Option ((List UInt8)) :=
 grd (1 * x0.length ≤ 281474976710656) (iter (fun q : (List UInt8) × Nat => part_key_b1 x0 x1 q.1 q.2) ((List.replicate x0.length (0 : UInt8)), 0))
theorem part_key_con {σ : Store} {x0 : List BSet} {a0_0 : Option Addr} {c0_0 : Nat} {x1 : UInt8} (f0_0 : RS σ 4 encSet (.slice a0_0 x0.length c0_0) x0) {r : (List UInt8)} (hh : part_key x0 x1 = some r) :
  Con Tryz.prog 81 #[.slice a0_0 x0.length c0_0, .int .u8 ((x1.toNat : Nat) : Int)] σ [] (PureP (.string (bs r)) σ) := by
 dsimp only [part_key] at hh
 have f0_0b := f0_0.rv.big
 refine Con.mk (n := 27) Tryz.func81 z z z (fun w0 => ?_)
 refine TC.a (TL.w z (moveStr (.inr z) z) (TL.en (TC.a (TL.s z z (TL.w z (lenC z underlying81 z) ?_)))))
 have u4 := grd_c hh
 replace hh := grd_t hh
 refine TL.op z (makeS2 (enc := encU8) (0 : UInt8) z underlying131 sz5 by5 ze5 z z z z (by omega) (by decide) encU8_len (by decide) z encU8_one (fun a101 c102 => ?_))
 refine TL.s z z (TL.en (TC.seq (TC.a (TL.s z z (TL.w z (lenC z underlying81 z) (TL.i z z (TL.en (TC.block (TC.loopG (α := ((List UInt8) × Nat) × (Unit)) (rgs [(6, 2), (13, 12)]) (fun g => [(13, .int .i64 ((g.1.2 : Nat) : Int))]) (fun g => [Res.rowS 5 1 encU8 (.slice a101 (List.replicate x0.length (0 : UInt8)).length c102) g.1.1]) (fun g => σ) (fun g => iter (fun q : (List UInt8) × Nat => part_key_b1 x0 x1 q.1 q.2) g.1 = some r ∧ g.1.1.length = (List.replicate x0.length (0 : UInt8)).length) (fun g => rounds (fun q : (List UInt8) × Nat => part_key_b1 x0 x1 q.1 q.2) g.1) (((List.replicate x0.length (0 : UInt8)), 0), ()) (Sub.pre 1 z) z (by repeat (first | exact trivial | refine ⟨z, ?_⟩)) ⟨hh, z⟩ (fun g1 j1 hg1 => ?_))))))))))
 obtain ⟨⟨l110, k112⟩, _⟩ := g1
 obtain ⟨hh, hn111⟩ := hg1
 try dsimp only at hn111 ⊢
 obtain ⟨z1, hh, hR1⟩ := iter_e hh
 dsimp only [part_key_b1] at hh
 have hn111b := hn111
 refine TC.isSl (i := 0) z (fun _ hb113 _ => ?_)
 refine TC.a (TL.w z (OpVal.lss z z z) (TL.en (TC.seq (TC.cD z hh (fun h114 hh => ?_) (fun h114 hh => ?_)))))
 ·refine TC.skip (S.n (TC.cutG (α := ((List UInt8)) × (Unit)) (rgs [(6, 2), (15, 9)]) (fun g => []) (fun g => [Res.rowS 5 1 encU8 (.slice a101 (List.replicate x0.length (0 : UInt8)).length c102) g.1]) (fun g => σ) (fun g => part_key_j1 k112 g.1 = some z1 ∧ g.1.length = (List.replicate x0.length (0 : UInt8)).length) ?_ (fun g j hg => ?_)))
  ·skip
   refine TC.block (TC.a (TL.i z z (TL.w z (indexN z underlying81 sz58 z z f0_0.rv.sl (by omega)) (TL.w z (loadSA BSet.zero z ag58 sz58 z f0_0 (by omega) (by omega)) (TL.op z (OpOk.alloc z ze58 z z (fun b117 => ?_)))))))
   refine TL.i z z (TL.op z (storeAll z sz58 z z z z z z ?_))
   refine TL.en (TC.a (TL.w z (loadAll z ag58 sz58 z (i := 0) z z) (TL.i z z (TL.op z (callP (has_con _ (nth x0 k112 BSet.zero) x1.toNat (BSet.isOk _) (UInt8.toNat_lt _)) z z pf70 z z z ?_)))))
   refine TL.en (TC.cB z hh (fun h119 hh => ?_) (fun h119 hh => ?_))
   ·refine TC.region (TL.s z z (TL.i z z ?_))
    have u21 := grd_c hh
    replace hh := grd_t hh
    refine TL.isSl (i := 1) z (fun hs120 _ _ => ?_)
    refine TL.w z (indexN z underlying131 sz5 z z hs120 (by omega)) (TL.front 1 z z ?_)
    have hn121 : (l110.set k112 (1 : UInt8)).length = (List.replicate x0.length (0 : UInt8)).length := by rw [List.length_set]; exact hn111
    refine TL.op z (storeS (1 : UInt8) z sz5 z z z z encU8_len encU8_one (by omega) (by omega) ?_)
    exact TL.nil (B.n (S.n (cf ((l110.set k112 (1 : UInt8)), ()) ⟨hh, hn121⟩ (Sub.pre 1 z))))
   ·exact TC.skip (B.n (S.n (cf (l110, ()) ⟨hh, hn111⟩ (Sub.f [1] 1))))
  ·skip
   obtain ⟨l115, _⟩ := g
   obtain ⟨hh, hn116⟩ := hg
   try dsimp only at hn116 ⊢
   dsimp only [part_key_j1] at hh
   have hn116b := hn116
   refine TC.isSl (i := 0) z (fun _ hb122 _ => ?_)
   refine TC.region (TL.w z (OpVal.succ z z z (by omega)) (TL.i z z (TL.en ?_)))
   obtain ⟨hh, hlt123⟩ := nxt_x hR1 hh
   exact lf ((l115, (k112 + 1)), ()) hlt123 ⟨hh, hn116⟩ (Sub.pre 1 z)
 ·refine TC.exit (S.x (S.x ?_))
  replace hh := fin_x hR1 hh
  refine TC.exitHere (S.n (TC.a (TL.s z z (TL.isSl (i := 0) z (fun hs124 _ _ => ?_)))))
  refine TL.w z (bytesStr (l := l110) z underlying131 underlying5 underlying9 z hs124 (fun w hw => rdb_row (q := 0) z hw)) (TL.w z (moveStr (.inr z) z) (TL.en (TC.rt 0 ?_)))
  obtain rfl := so hh
  exact rq [4] ⟨z, z, z⟩

noncomputable def part_Parts_j1 (k121 : Nat) (m125 : FM (List UInt8) Int) (l126 : List BSet) (i129 : Int) : Option (((FM (List UInt8) Int) × (List BSet) × Nat) ⊕ ((List BSet) × Int)) :=
 grd (0 ≤ i129 ∧ i129 < (l126.length : Int)) (grd ([(toU8 ((k121 : Nat) : Int))].length ≤ 1000000000000) (bnd (set_Any (nth l126 i129.toNat BSet.zero) (BSet.ofL [(toU8 ((k121 : Nat) : Int))])) (fun v52 => grd (0 ≤ i129 ∧ i129 < (l126.length : Int)) (nxt (m125, (l126.set i129.toNat v52), (k121 + 1))))))
noncomputable def part_Parts_b1 (x0 : List BSet) (m116 : FM (List UInt8) Int) (l118 : List BSet) (k121 : Nat) : Option (((FM (List UInt8) Int) × (List BSet) × Nat) ⊕ ((List BSet) × Int)) :=
 iteO (decide (((k121 : Nat) : Int) < 256)) (bnd (part_key x0 (toU8 ((k121 : Nat) : Int))) (fun v18 => iteO (!(m116.has v18)) (grd ((l118.length + [BSet.zero].length) * 32 ≤ 140737488355328) (part_Parts_j1 k121 (m116.put v18 ((l118.length : Nat) : Int)) (l118 ++ [BSet.zero]) ((l118.length : Nat) : Int))) (part_Parts_j1 k121 m116 l118 (m116.get v18 0)))) (fin (some (l118, 0)))
noncomputable def part_Parts (x0 : List BSet) : Option ((List BSet) × Int) :=
 iteO (decide (1024 < ((x0.length : Nat) : Int))) (some (([] : List BSet), 2)) (iter (fun q : (FM (List UInt8) Int) × (List BSet) × Nat => part_Parts_b1 x0 q.1 q.2.1 q.2.2) ((FM.emp : FM (List UInt8) Int), ([] : List BSet), 0))
def part_Parts_P (σ : Store) (r : (List BSet) × Int) : Value → Store → List Res → Prop := fun v σ' H' =>
 ∃ (a1 : Option Addr), ∃ (c1 : Nat),  v = .tuple #[.slice a1 r.1.length c1, .int .i64 r.2] ∧ RS σ' 4 encSet (.slice a1 r.1.length c1) r.1 ∧ H' = []
theorem part_Parts_con {σ : Store} {x0 : List BSet} {a0_0 : Option Addr} {c0_0 : Nat} (f0_0 : RS σ 4 encSet (.slice a0_0 x0.length c0_0) x0) {r : (List BSet) × Int} (hh : part_Parts x0 = some r) :
  Con Tryz.prog 61 #[.slice a0_0 x0.length c0_0] σ [] (part_Parts_P σ r) := by
 dsimp only [part_Parts] at hh
 have f0_0b := f0_0.rv.big
 refine Con.mk (n := 52) Tryz.func61 z z z (fun w0 => ?_)
 refine TC.a (TL.s z z (TL.i z z (TL.en (TC.seq (TC.a (TL.s z z (TL.w z (lenC z underlying81 z) (TL.w z (OpVal.gtr z z z) (TL.en (TC.cD z hh (fun h101 hh => ?_) (fun h101 hh => ?_)))))))))))
 ·refine TC.a (TL.s z z (TL.i z z (TL.en (TC.ret (S.r ?_)))))
  obtain rfl := so hh
  exact rq [2, 3] ⟨none, 0, z, (RS.nilF _ encSet encSet_len), z⟩
 ·refine TC.skip (S.n (TC.a (TL.op z (makeMapB (enc := keyS) (encV := keyI) z z z (fun b102 => ?_)))))
  refine TL.w z (moveMap (.inr z) z) (TL.en (TC.a (TL.s z z (TL.en (TC.seq (TC.a (TL.i z z (TL.en (TC.block (TC.nilS 58 4 encSet (TC.loopG (α := ((FM (List UInt8) Int) × (List BSet) × Nat) × ((Option Addr) × Nat)) (rgs [(5, 5), (14, 37)]) (fun g => [(5, .slice g.2.1 g.1.2.1.length g.2.2), (14, .int .i64 ((g.1.2.2 : Nat) : Int))]) (fun g => [Res.mapB keyS keyI (some b102) g.1.1, Res.rowS 58 4 encSet (.slice g.2.1 g.1.2.1.length g.2.2) g.1.2.1]) (fun g => σ) (fun g => iter (fun q : (FM (List UInt8) Int) × (List BSet) × Nat => part_Parts_b1 x0 q.1 q.2.1 q.2.2) g.1 = some r) (fun g => rounds (fun q : (FM (List UInt8) Int) × (List BSet) × Nat => part_Parts_b1 x0 q.1 q.2.1 q.2.2) g.1) (((FM.emp : FM (List UInt8) Int), ([] : List BSet), 0), (none, 0)) (Sub.f [1] 2) z (by repeat (first | exact trivial | refine ⟨z, ?_⟩)) hh (fun g1 j1 hg1 => ?_))))))))))))
  obtain ⟨⟨m116, l118, k121⟩, ⟨a119, c120⟩⟩ := g1
  have hh := hg1; clear hg1
  try dsimp only
  obtain ⟨z1, hh, hR1⟩ := iter_e hh
  dsimp only [part_Parts_b1] at hh
  refine TC.isSl (i := 1) z (fun _ hb123 _ => ?_)
  refine TC.a (TL.w z (OpVal.lss z z z) (TL.en (TC.seq (TC.cD z hh (fun h124 hh => ?_) (fun h124 hh => ?_)))))
  ·refine TC.skip (S.n (TC.seq (TC.block (TC.a (TL.i z z (TL.i z z (TL.en (TC.a (TL.s z z (TL.i z z (TL.w z (convU8 z underlying3 underlying5 z) ?_)))))))))))
   obtain ⟨v18, u18, hh⟩ := bnd_e hh
   refine TL.op z (callP (part_key_con f0_0 u18) z z pf81 z z z ?_)
   refine TL.w z (moveStr (.inr z) z) (TL.en (TC.a (TL.w z (moveMap (.inl z) z) (TL.w z (moveStr (.inl z) z) (TL.w z (OpVal.of (lookB 0 (q := v18) z underlying138 ze3 z (i := 0) z z (keyL_str underlying9)) (v' := .tuple #[.int .i64 (m116.get v18 0), .bool (m116.has v18)]) z) (TL.w z (moveT (.inl z) z) (TL.w z (OpVal.extract z z z) (TL.w z (OpVal.extract z z z) (TL.i z z (TL.j z z (TL.en (TC.cutG (α := ((FM (List UInt8) Int) × (List BSet) × Int) × ((Option Addr) × Nat)) (rgs [(5, 1), (8, 1), (27, 11)]) (fun g => [(5, .slice g.2.1 g.1.2.1.length g.2.2), (8, .int .i64 g.1.2.2)]) (fun g => [Res.mapB keyS keyI (some b102) g.1.1, Res.rowS 58 4 encSet (.slice g.2.1 g.1.2.1.length g.2.2) g.1.2.1]) (fun g => σ) (fun g => part_Parts_j1 k121 g.1.1 g.1.2.1 g.1.2.2 = some z1) ?_ (fun g j hg => ?_)))))))))))))
   ·skip
    refine TC.a (TL.j z z (TL.w z (OpVal.not z z) (TL.en (TC.cB z hh (fun h130 hh => ?_) (fun h130 hh => ?_)))))
    ·refine TC.a (TL.s z z (TL.w z (lenC z underlying81 z) (TL.i z z (TL.en (TC.a (TL.w z (moveMap (.inl z) z) (TL.w z (moveStr (.inl z) z) (TL.i z z (TL.op z (updB v18 ((l118.length : Nat) : Int) z underlying138 z z z z (keyL_str underlying9) ?_))))))))))
     refine TL.en (TC.region (TL.s z z (TL.w z (buildArrL z underlying58 sz56 ze58 z) (TL.op z (OpOk.lit (enc := encSet) [BSet.zero] z underlying81 sz58 ze58 z z z encSet_len (by decide) (by decide) BSet.zero z (by decide) z (by decide) encSet_one (fun a131 c132 => ?_))))))
     refine TL.front 2 z z ?_
     have u40 := grd_c hh
     replace hh := grd_t hh
     refine TL.op z (appendS z z underlying81 sz58 by58 ze58 z z (by decide) z z z (.inr ⟨_, 0, z⟩) (by simpa using u40) (by decide) (fun a134 c135 => ?_))
     exact TL.s z z (TL.en (cf (((m116.put v18 ((l118.length : Nat) : Int)), (l118 ++ [BSet.zero]), ((l118.length : Nat) : Int)), (a134, c135)) hh (Sub.f [2] 2)))
    ·exact TC.skip (S.n (cf ((m116, l118, (m116.get v18 0)), (a119, c120)) hh (Sub.f [1, 1] 2)))
   ·skip
    obtain ⟨⟨m125, l126, i129⟩, ⟨a127, c128⟩⟩ := g
    have hh := hg; clear hg
    try dsimp only
    dsimp only [part_Parts_j1] at hh
    refine TC.isSl (i := 1) z (fun _ hb136 _ => ?_)
    have u46 := grd_c hh
    replace hh := grd_t hh
    have u51 := grd_c hh
    replace hh := grd_t hh
    obtain ⟨v52, u52, hh⟩ := bnd_e hh
    have u53 := grd_c hh
    replace hh := grd_t hh
    refine TC.draw [12] (by kernel_rfl) (TA.a 0 z (moveSl (.inl z) z) z (TA.a 1 z (moveI (.inl z) z) z (TA.a 2 z (moveSl (.inl z) z) z (TA.a 3 z (moveI (.inl z) z) z (TA.isSl (i := 1) z (fun hs143 _ _ => ?_))))))
    refine TA.b 4 z (OpVal.index z underlying81 sz58 z z hs143 u46.1 u46.2) z (TA.b 5 z (loadOA BSet.zero z ag58 sz58 z (q := 1) z encSet_len (by omega) (by omega)) z (TA.a 6 z (moveI (.inl z) z) z (TA.a 7 z (convU8 z underlying3 underlying5 z) z (TA.ac 8 z (OpOk.lit (enc := encU8) [(toU8 ((k121 : Nat) : Int))] z underlying131 sz5 ze5 z z z encU8_len (by decide) (by decide) (0 : UInt8) z (by decide) z (by decide) encU8_one (fun a144 c145 => (k1 ?_)))))))
    refine TA.ac 9 z (callT (of_con _ _ _ [(toU8 ((k121 : Nat) : Int))] u51) z z pf48 z z z z (k0 ?_))
    refine TA.ac 10 z (callP (set_Any_con u52) z z pf55 z z z (k0 ?_))
    refine TA.isSl (i := 1) z (fun hs147 _ _ => ?_)
    refine TA.b 11 z (OpVal.index z underlying81 sz58 z z hs147 u53.1 u53.2) z (TA.front 1 z z ?_)
    have hn148 : (l126.set i129.toNat v52).length = l126.length := by rw [List.length_set]
    refine TA.last 12 (by kernel_rfl) z z z (storeS v52 z sz58 z z z z encSet_len encSet_one (by omega) (by omega) ?_)
    refine TZ.done (by kernel_rfl) (B.n (S.n (TC.region (TL.w z (OpVal.succ z z z (by omega)) (TL.i z z ?_)))))
    rw [← hn148]
    refine TL.en ?_
    obtain ⟨hh, hlt149⟩ := nxt_x hR1 hh
    exact lf ((m125, (l126.set i129.toNat v52), (k121 + 1)), (a127, c128)) hlt149 hh (Sub.f [1] 2)
  ·refine TC.exit (S.x (S.x ?_))
   replace hh := fin_x hR1 hh
   refine TC.exitHere (S.n (TC.a (TL.s z z (TL.s z z (TL.i z z (TL.en (TC.front 1 z z (TC.sealS encSet_len (fun τ152 hle151 hr150 => ?_)))))))))
   have hr150b := hr150.rv.big
   refine TC.rt 0 ?_
   obtain rfl := so hh
   exact rq [2, 3] ⟨a119, c120, z, hr150, z⟩

noncomputable def part_Class_j1 (k146 : Nat) (l149 : List Int) : Option (((List Int) × Nat) ⊕ (((List Int) × Int × Nat) ⊕ ((List Int) × Int))) :=
 nxt (l149, (k146 + 1))
noncomputable def part_Class_b3 (x0 : List BSet) (k130 : Nat) (v29 : UInt8 × Bool) (l144 : List Int) (k146 : Nat) : Option (((List Int) × Nat) ⊕ (((List Int) × Int × Nat) ⊕ ((List Int) × Int))) :=
 iteO (decide (((k146 : Nat) : Int) < 256)) (iteO (!((nth x0 k130 BSet.zero).has (toU8 ((k146 : Nat) : Int)).toNat)) (part_Class_j1 k146 l144) (grd (k146 < l144.length) (iteO (decide (0 ≤ (nth l144 k146 (0 : Int)))) (fin (fin (some (([] : List Int), 1)))) (grd (k146 < l144.length) (part_Class_j1 k146 (l144.set k146 ((k130 : Nat) : Int))))))) (fin (nxt (l144, ((v29.1.toNat : Nat) : Int), (k130 + 1))))
noncomputable def part_Class_b4 (l127 : List Int) (k165 : Nat) : Option ((Nat) ⊕ ((List Int) × Int)) :=
 iteO (decide (((k165 : Nat) : Int) < (((List.replicate 256 (0 : Int)).length : Nat) : Int))) (grd (k165 < l127.length) (iteO (decide ((nth l127 k165 (0 : Int)) < 0)) (fin (some (([] : List Int), 1))) (nxt (k165 + 1)))) (fin (some (l127, 0)))
noncomputable def part_Class_b2 (x0 : List BSet) (l127 : List Int) (i129 : Int) (k130 : Nat) : Option (((List Int) × Int × Nat) ⊕ ((List Int) × Int)) :=
 iteO (decide (((k130 : Nat) : Int) < ((x0.length : Nat) : Int))) (bnd (set_First (nth x0 k130 BSet.zero)) (fun v29 => iteO (!v29.2) (fin (some (([] : List Int), 1))) (iteO (decide (((v29.1.toNat : Nat) : Int) ≤ i129)) (fin (some (([] : List Int), 1))) (iter (fun q : (List Int) × Nat => part_Class_b3 x0 k130 v29 q.1 q.2) (l127, 0))))) (fin (iter (fun q : Nat => part_Class_b4 l127 q) 0))
noncomputable def part_Class_b1 (x0 : List BSet) (l110 : List Int) (k112 : Nat) : Option (((List Int) × Nat) ⊕ ((List Int) × Int)) :=
 iteO (decide (((k112 : Nat) : Int) < (((List.replicate 256 (0 : Int)).length : Nat) : Int))) (grd (k112 < l110.length) (nxt ((l110.set k112 (-1)), (k112 + 1)))) (fin (iter (fun q : (List Int) × Int × Nat => part_Class_b2 x0 q.1 q.2.1 q.2.2) (l110, (-1), 0)))
noncomputable def part_Class (x0 : List BSet) : Option ((List Int) × Int) :=
 iter (fun q : (List Int) × Nat => part_Class_b1 x0 q.1 q.2) ((List.replicate 256 (0 : Int)), 0)
def part_Class_P (σ : Store) (r : (List Int) × Int) : Value → Store → List Res → Prop := fun v σ' H' =>
 ∃ (a1 : Option Addr), ∃ (c1 : Nat),  v = .tuple #[.slice a1 r.1.length c1, .int .i64 r.2] ∧ RS σ' 1 Go.E.encI (.slice a1 r.1.length c1) r.1 ∧ H' = []
theorem part_Class_con {σ : Store} {x0 : List BSet} {a0_0 : Option Addr} {c0_0 : Nat} (hgl : GT σ 1 encU8 deB) (f0_0 : RS σ 4 encSet (.slice a0_0 x0.length c0_0) x0) {r : (List Int) × Int} (hh : part_Class x0 = some r) :
  Con Tryz.prog 63 #[.slice a0_0 x0.length c0_0] σ [] (part_Class_P σ r) := by
 dsimp only [part_Class] at hh
 have f0_0b := f0_0.rv.big
 refine Con.mk (n := 75) Tryz.func63 z z z (fun w0 => ?_)
 refine TC.a (TL.s z z (TL.i z z (TL.en (TC.a (TL.op z (makeS2 (m := 256) (enc := Go.E.encI) (0 : Int) z underlying22 sz3 by3 ze3 z z z z (by omega) (by decide) Go.E.encI_len (by decide) z Go.E.encI_one (fun a101 c102 => ?_)))))))
 refine TL.s z z (TL.en (TC.seq (TC.a (TL.s z z (TL.w z (lenC z underlying22 z) (TL.i z z (TL.en (TC.block (TC.loopG (α := ((List Int) × Nat) × (Unit)) (rgs [(5, 1), (17, 7)]) (fun g => [(17, .int .i64 ((g.1.2 : Nat) : Int))]) (fun g => [Res.rowS 3 1 Go.E.encI (.slice a101 (List.replicate 256 (0 : Int)).length c102) g.1.1]) (fun g => σ) (fun g => iter (fun q : (List Int) × Nat => part_Class_b1 x0 q.1 q.2) g.1 = some r ∧ g.1.1.length = (List.replicate 256 (0 : Int)).length) (fun g => rounds (fun q : (List Int) × Nat => part_Class_b1 x0 q.1 q.2) g.1) (((List.replicate 256 (0 : Int)), 0), ()) (Sub.pre 1 z) z (by repeat (first | exact trivial | refine ⟨z, ?_⟩)) ⟨hh, z⟩ (fun g1 j1 hg1 => ?_))))))))))
 obtain ⟨⟨l110, k112⟩, _⟩ := g1
 obtain ⟨hh, hn111⟩ := hg1
 try dsimp only at hn111 ⊢
 obtain ⟨z1, hh, hR1⟩ := iter_e hh
 dsimp only [part_Class_b1] at hh
 have hn111b := hn111
 refine TC.isSl (i := 0) z (fun _ hb113 _ => ?_)
 refine TC.a (TL.w z (OpVal.lss z z z) (TL.en (TC.seq (TC.cD z hh (fun h114 hh => ?_) (fun h114 hh => ?_)))))
 ·refine TC.skip (S.n (TC.seq (TC.block (TC.a (TL.i z z (TL.i z z (TL.en (TC.region (TL.s z z (TL.i z z ?_))))))))))
  have u13 := grd_c hh
  replace hh := grd_t hh
  refine TL.isSl (i := 0) z (fun hs115 _ _ => ?_)
  refine TL.w z (indexN z underlying22 sz3 z z hs115 (by omega)) ?_
  have hn116 : (l110.set k112 (-1)).length = (List.replicate 256 (0 : Int)).length := by rw [List.length_set]; exact hn111
  refine TL.op z (storeS (-1) z sz3 z z z z Go.E.encI_len Go.E.encI_one (by omega) (by omega) ?_)
  refine TL.nil (B.n (S.n (TC.region (TL.w z (OpVal.succ z z z (by omega)) (TL.i z z (TL.en ?_))))))
  obtain ⟨hh, hlt117⟩ := nxt_x hR1 hh
  exact lf (((l110.set k112 (-1)), (k112 + 1)), ()) hlt117 ⟨hh, hn116⟩ (Sub.pre 1 z)
 ·refine TC.exit (S.x (S.x ?_))
  replace hh := fin_x hR1 hh
  refine TC.exitHere (S.n (TC.a (TL.i z z (TL.en (TC.seq (TC.a (TL.s z z (TL.w z (lenC z underlying81 z) (TL.i z z (TL.en (TC.block (TC.loopG (α := ((List Int) × Int × Nat) × (Unit)) (rgs [(2, 2), (6, 6), (26, 39)]) (fun g => [(6, .int .i64 g.1.2.1), (26, .int .i64 ((g.1.2.2 : Nat) : Int))]) (fun g => [Res.rowS 3 1 Go.E.encI (.slice a101 (List.replicate 256 (0 : Int)).length c102) g.1.1]) (fun g => σ) (fun g => iter (fun q : (List Int) × Int × Nat => part_Class_b2 x0 q.1 q.2.1 q.2.2) g.1 = some r ∧ g.1.1.length = (List.replicate 256 (0 : Int)).length) (fun g => rounds (fun q : (List Int) × Int × Nat => part_Class_b2 x0 q.1 q.2.1 q.2.2) g.1) ((l110, (-1), 0), ()) (Sub.pre 1 z) z (by repeat (first | exact trivial | refine ⟨z, ?_⟩)) ⟨hh, hn111⟩ (fun g2 j2 hg2 => ?_)))))))))))))
  obtain ⟨⟨l127, i129, k130⟩, _⟩ := g2
  obtain ⟨hh, hn128⟩ := hg2
  try dsimp only at hn128 ⊢
  obtain ⟨z1, hh, hR1⟩ := iter_e hh
  dsimp only [part_Class_b2] at hh
  have hn128b := hn128
  refine TC.isSl (i := 0) z (fun _ hb131 _ => ?_)
  refine TC.a (TL.w z (OpVal.lss z z z) (TL.en (TC.seq (TC.cD z hh (fun h132 hh => ?_) (fun h132 hh => ?_)))))
  ·refine TC.skip (S.n (TC.seq (TC.block (TC.a (TL.i z z (TL.w z (indexN z underlying81 sz58 z z f0_0.rv.sl (by omega)) (TL.w z (loadSA BSet.zero z ag58 sz58 z f0_0 (by omega) (by omega)) (TL.op z (OpOk.alloc z ze58 z z (fun b133 => ?_))))))))))
   refine TL.i z z (TL.op z (storeAll z sz58 z z z z z z ?_))
   refine TL.en (TC.a (TL.w z (loadAll z ag58 sz58 z (i := 0) z z) ?_))
   obtain ⟨v29, u29, hh⟩ := bnd_e hh
   refine TL.op z (callP (set_First_con hgl u29) z z pf82 z z z ?_)
   refine TL.w z (moveT (.inl z) z) (TL.w z (OpVal.extract z z z) (TL.w z (OpVal.extract z z z) (TL.i z z (TL.j z z (TL.en (TC.seq (TC.a (TL.j z z (TL.w z (OpVal.not z z) (TL.j z z (TL.split 38 z (fun h135 => ?_) (fun h135 => ?_))))))))))))
   ·replace hh := iteO_t h135 hh
    refine TL.f z (TL.f z (TL.f z (TL.f z (TL.w z (pickTB z z z) (TL.en (TC.t z (TC.a (TL.s z z (TL.i z z (TL.en (TC.rt 0 (S.r (B.r (S.r (S.r ?_)))))))))))))))
    replace hh := fin_x hR1 hh
    refine B.r (S.r ?_)
    obtain rfl := so hh
    exact rq [2, 3] ⟨none, 0, z, (RS.nilF _ Go.E.encI Go.E.encI_len), z⟩
   ·replace hh := iteO_f h135 hh
    refine TL.g z (moveI (.inl z) z) (TL.g z (convN z underlying5 underlying3 z (by have := UInt8.toNat_lt v29.1; simp only [kmax]; omega)) (TL.g z (moveI (.inl z) z) (TL.g z (OpVal.leq z z z) (TL.w z (pickFB z z z) (TL.en (TC.cD z hh (fun h136 hh => ?_) (fun h136 hh => ?_)))))))
    ·refine TC.a (TL.s z z (TL.i z z (TL.en (TC.rt 0 (S.r (B.r (S.r (S.r ?_))))))))
     replace hh := fin_x hR1 hh
     refine B.r (S.r ?_)
     obtain rfl := so hh
     exact rq [2, 3] ⟨none, 0, z, (RS.nilF _ Go.E.encI Go.E.encI_len), z⟩
    ·refine TC.skip (S.n (TC.a (TL.i z z (TL.w z (convN z underlying5 underlying3 z (by have := UInt8.toNat_lt v29.1; simp only [kmax]; omega)) (TL.i z z (TL.en (TC.a (TL.i z z (TL.en (TC.block (TC.loopG (α := ((List Int) × Nat) × (Unit)) (rgs [(2, 2), (11, 1), (46, 18)]) (fun g => [(46, .int .i64 ((g.1.2 : Nat) : Int))]) (fun g => [Res.rowS 3 1 Go.E.encI (.slice a101 (List.replicate 256 (0 : Int)).length c102) g.1.1, Res.cells b133 (setA (nth x0 k130 BSet.zero)) 58]) (fun g => σ) (fun g => iter (fun q : (List Int) × Nat => part_Class_b3 x0 k130 v29 q.1 q.2) g.1 = some z1 ∧ g.1.1.length = (List.replicate 256 (0 : Int)).length) (fun g => rounds (fun q : (List Int) × Nat => part_Class_b3 x0 k130 v29 q.1 q.2) g.1) ((l127, 0), ()) (Sub.f [1] 2) z (by repeat (first | exact trivial | refine ⟨z, ?_⟩)) ⟨hh, hn128⟩ (fun g3 j3 hg3 => ?_))))))))))))
     obtain ⟨⟨l144, k146⟩, _⟩ := g3
     obtain ⟨hh, hn145⟩ := hg3
     try dsimp only at hn145 ⊢
     obtain ⟨z2, hh, hR2⟩ := iter_e hh
     dsimp only [part_Class_b3] at hh
     have hn145b := hn145
     refine TC.isSl (i := 0) z (fun _ hb147 _ => ?_)
     refine TC.a (TL.w z (OpVal.lss z z z) (TL.en (TC.seq (TC.cD z hh (fun h148 hh => ?_) (fun h148 hh => ?_)))))
     ·refine TC.skip (S.n (TC.cutG (α := ((List Int)) × (Unit)) (rgs [(2, 2), (11, 1), (48, 15)]) (fun g => []) (fun g => [Res.rowS 3 1 Go.E.encI (.slice a101 (List.replicate 256 (0 : Int)).length c102) g.1, Res.cells b133 (setA (nth x0 k130 BSet.zero)) 58]) (fun g => σ) (fun g => part_Class_j1 k146 g.1 = some z2 ∧ g.1.length = (List.replicate 256 (0 : Int)).length) ?_ (fun g j hg => ?_)))
      ·skip
       refine TC.block (TC.a (TL.i z z (TL.i z z (TL.en (TC.seq (TC.a (TL.w z (loadAll z ag58 sz58 z (i := 1) z z) (TL.i z z (TL.w z (convU8 z underlying3 underlying5 z) (TL.op z (callP (has_con _ (nth x0 k130 BSet.zero) (toU8 ((k146 : Nat) : Int)).toNat (BSet.isOk _) (UInt8.toNat_lt _)) z z pf70 z z z ?_)))))))))))
       refine TL.w z (OpVal.not z z) (TL.en (TC.cB z hh (fun h151 hh => ?_) (fun h151 hh => ?_)))
       ·exact TC.exit (S.x (TC.exitHere (S.n (cf (l144, ()) ⟨hh, hn145⟩ (Sub.f [1, 1] 2)))))
       ·refine TC.skip (S.n (TC.seq (TC.a (TL.s z z (TL.i z z ?_)))))
        have u59 := grd_c hh
        replace hh := grd_t hh
        refine TL.isSl (i := 0) z (fun hs152 _ _ => ?_)
        refine TL.w z (indexN z underlying22 sz3 z z hs152 (by omega)) (TL.w z (loadO1 (0 : Int) z ag3 z (q := 0) z Go.E.encI_len (by omega) z) (TL.w z (OpVal.geq z z z) (TL.en (TC.cD z hh (fun h153 hh => ?_) (fun h153 hh => ?_)))))
        ·refine TC.a (TL.s z z (TL.i z z (TL.en (TC.rt 0 (S.r (B.r (S.r (S.r ?_))))))))
         replace hh := fin_x hR2 hh
         refine B.r (B.r (S.r (S.r ?_)))
         replace hh := fin_x hR1 hh
         refine B.r (S.r ?_)
         obtain rfl := so hh
         exact rq [2, 3] ⟨none, 0, z, (RS.nilF _ Go.E.encI Go.E.encI_len), z⟩
        ·refine TC.skip (S.n (TC.region (TL.s z z (TL.i z z (TL.i z z ?_)))))
         have u67 := grd_c hh
         replace hh := grd_t hh
         refine TL.isSl (i := 0) z (fun hs154 _ _ => ?_)
         refine TL.w z (indexN z underlying22 sz3 z z hs154 (by omega)) ?_
         have hn155 : (l144.set k146 ((k130 : Nat) : Int)).length = (List.replicate 256 (0 : Int)).length := by rw [List.length_set]; exact hn145
         refine TL.op z (storeS ((k130 : Nat) : Int) z sz3 z z z z Go.E.encI_len Go.E.encI_one (by omega) (by omega) ?_)
         exact TL.nil (B.n (S.n (cf ((l144.set k146 ((k130 : Nat) : Int)), ()) ⟨hh, hn155⟩ (Sub.f [1, 1] 2))))
      ·skip
       obtain ⟨l149, _⟩ := g
       obtain ⟨hh, hn150⟩ := hg
       try dsimp only at hn150 ⊢
       dsimp only [part_Class_j1] at hh
       have hn150b := hn150
       refine TC.isSl (i := 0) z (fun _ hb156 _ => ?_)
       refine TC.region (TL.w z (OpVal.succ z z z (by omega)) (TL.i z z (TL.en ?_)))
       obtain ⟨hh, hlt157⟩ := nxt_x hR2 hh
       exact lf ((l149, (k146 + 1)), ()) hlt157 ⟨hh, hn150⟩ (Sub.f [1, 1] 2)
     ·refine TC.exit (S.x (S.x ?_))
      replace hh := fin_x hR2 hh
      refine TC.exitHere (B.n (S.n (TC.region (TL.w z (OpVal.succ z z z (by omega)) (TL.i z z (TL.en ?_))))))
      obtain ⟨hh, hlt158⟩ := nxt_x hR1 hh
      exact lf ((l144, ((v29.1.toNat : Nat) : Int), (k130 + 1)), ()) hlt158 ⟨hh, hn145⟩ (Sub.pre 1 z)
  ·refine TC.exit (S.x (S.x ?_))
   replace hh := fin_x hR1 hh
   refine TC.exitHere (S.n (TC.seq (TC.a (TL.s z z (TL.w z (lenC z underlying22 z) (TL.i z z (TL.en (TC.block (TC.loopG (α := (Nat) × (Unit)) (rgs [(2, 2), (13, 1), (67, 7)]) (fun g => [(67, .int .i64 ((g.1 : Nat) : Int))]) (fun g => [Res.rowS 3 1 Go.E.encI (.slice a101 (List.replicate 256 (0 : Int)).length c102) l127]) (fun g => σ) (fun g => iter (fun q : Nat => part_Class_b4 l127 q) g.1 = some r ∧ l127.length = (List.replicate 256 (0 : Int)).length) (fun g => rounds (fun q : Nat => part_Class_b4 l127 q) g.1) (0, ()) (Sub.pre 1 z) z (by repeat (first | exact trivial | refine ⟨z, ?_⟩)) ⟨hh, hn128⟩ (fun g4 j4 hg4 => ?_))))))))))
   obtain ⟨k165, _⟩ := g4
   obtain ⟨hh, hn164⟩ := hg4
   try dsimp only at hn164 ⊢
   obtain ⟨z1, hh, hR1⟩ := iter_e hh
   dsimp only [part_Class_b4] at hh
   have hn164b := hn164
   refine TC.isSl (i := 0) z (fun _ hb166 _ => ?_)
   refine TC.a (TL.w z (OpVal.lss z z z) (TL.en (TC.seq (TC.cD z hh (fun h167 hh => ?_) (fun h167 hh => ?_)))))
   ·refine TC.skip (S.n (TC.seq (TC.block (TC.a ?_))))
    have u77 := grd_c hh
    replace hh := grd_t hh
    refine TL.isSl (i := 0) z (fun hs168 _ _ => ?_)
    refine TL.w z (indexN z underlying22 sz3 z z hs168 (by omega)) (TL.w z (loadO1 (0 : Int) z ag3 z (q := 0) z Go.E.encI_len (by omega) z) (TL.i z z (TL.en (TC.a (TL.i z z (TL.w z (OpVal.lss z z z) (TL.en (TC.cD z hh (fun h169 hh => ?_) (fun h169 hh => ?_)))))))))
    ·refine TC.a (TL.s z z (TL.i z z (TL.en (TC.rt 0 (B.r (S.r (S.r ?_)))))))
     replace hh := fin_x hR1 hh
     refine B.r (S.r ?_)
     obtain rfl := so hh
     exact rq [2, 3] ⟨none, 0, z, (RS.nilF _ Go.E.encI Go.E.encI_len), z⟩
    ·refine TC.skip (B.n (S.n (TC.region (TL.w z (OpVal.succ z z z (by omega)) (TL.i z z (TL.en ?_))))))
     obtain ⟨hh, hlt170⟩ := nxt_x hR1 hh
     exact lf ((k165 + 1), ()) hlt170 ⟨hh, hn164⟩ (Sub.pre 1 z)
   ·refine TC.exit (S.x (S.x ?_))
    replace hh := fin_x hR1 hh
    refine TC.exitHere (S.n (TC.a (TL.s z z (TL.s z z (TL.i z z (TL.en ?_))))))
    rw [← hn164]
    refine TC.sealS Go.E.encI_len (fun τ173 hle172 hr171 => ?_)
    have hr171b := hr171.rv.big
    refine TC.ret ?_
    obtain rfl := so hh
    exact rq [2, 3] ⟨a101, c102, z, hr171, z⟩

noncomputable def part_Sets_j1 (x0 : List Int) (k116 : Nat) (l122 : List BSet) : Option (((List BSet) × Nat) ⊕ ((List BSet) × Int)) :=
 grd (0 ≤ (nth x0 k116 (0 : Int)) ∧ (nth x0 k116 (0 : Int)) < (l122.length : Int)) (grd ([(toU8 ((k116 : Nat) : Int))].length ≤ 1000000000000) (bnd (set_Any (nth l122 ((nth x0 k116 (0 : Int)).toNat) BSet.zero) (BSet.ofL [(toU8 ((k116 : Nat) : Int))])) (fun v47 => grd (0 ≤ (nth x0 k116 (0 : Int)) ∧ (nth x0 k116 (0 : Int)) < (l122.length : Int)) (nxt ((l122.set ((nth x0 k116 (0 : Int)).toNat) v47), (k116 + 1))))))
noncomputable def part_Sets_b1 (x0 : List Int) (l113 : List BSet) (k116 : Nat) : Option (((List BSet) × Nat) ⊕ ((List BSet) × Int)) :=
 iteO (decide (((k116 : Nat) : Int) < ((x0.length : Nat) : Int))) (iteO (decide ((nth x0 k116 (0 : Int)) < 0)) (fin (some (([] : List BSet), 1))) (iteO (decide (((l113.length : Nat) : Int) < (nth x0 k116 (0 : Int)))) (fin (some (([] : List BSet), 1))) (iteO (decide ((nth x0 k116 (0 : Int)) = ((l113.length : Nat) : Int))) (grd ((l113.length + [BSet.zero].length) * 32 ≤ 140737488355328) (part_Sets_j1 x0 k116 (l113 ++ [BSet.zero]))) (part_Sets_j1 x0 k116 l113)))) (fin (some (l113, 0)))
noncomputable def part_Sets (x0 : List Int) : Option ((List BSet) × Int) :=
 iteO (decide (((x0.length : Nat) : Int) ≠ 256)) (some (([] : List BSet), 1)) (iter (fun q : (List BSet) × Nat => part_Sets_b1 x0 q.1 q.2) (([] : List BSet), 0))
def part_Sets_P (σ : Store) (r : (List BSet) × Int) : Value → Store → List Res → Prop := fun v σ' H' =>
 ∃ (a1 : Option Addr), ∃ (c1 : Nat),  v = .tuple #[.slice a1 r.1.length c1, .int .i64 r.2] ∧ RS σ' 4 encSet (.slice a1 r.1.length c1) r.1 ∧ H' = []
theorem part_Sets_con {σ : Store} {x0 : List Int} {a0_0 : Option Addr} {c0_0 : Nat} (f0_0 : RS σ 1 Go.E.encI (.slice a0_0 x0.length c0_0) x0) {r : (List BSet) × Int} (hh : part_Sets x0 = some r) :
  Con Tryz.prog 40 #[.slice a0_0 x0.length c0_0] σ [] (part_Sets_P σ r) := by
 dsimp only [part_Sets] at hh
 have f0_0b := f0_0.rv.big
 refine Con.mk (n := 47) Tryz.func40 z z z (fun w0 => ?_)
 refine TC.a (TL.s z z (TL.i z z (TL.en (TC.seq (TC.a (TL.s z z (TL.w z (lenC z underlying22 z) (TL.w z (OpVal.neq z z z) (TL.en (TC.cD z hh (fun h101 hh => ?_) (fun h101 hh => ?_)))))))))))
 ·refine TC.a (TL.s z z (TL.i z z (TL.en (TC.ret (S.r ?_)))))
  obtain rfl := so hh
  exact rq [2, 3] ⟨none, 0, z, (RS.nilF _ encSet encSet_len), z⟩
 ·refine TC.skip (S.n (TC.a (TL.s z z (TL.en (TC.seq (TC.a (TL.s z z (TL.w z (lenC z underlying22 z) (TL.i z z (TL.en (TC.block (TC.nilS 58 4 encSet (TC.loopG (α := ((List BSet) × Nat) × ((Option Addr) × Nat)) (rgs [(2, 5), (12, 34)]) (fun g => [(4, .slice g.2.1 g.1.1.length g.2.2), (12, .int .i64 ((g.1.2 : Nat) : Int))]) (fun g => [Res.rowS 58 4 encSet (.slice g.2.1 g.1.1.length g.2.2) g.1.1]) (fun g => σ) (fun g => iter (fun q : (List BSet) × Nat => part_Sets_b1 x0 q.1 q.2) g.1 = some r) (fun g => rounds (fun q : (List BSet) × Nat => part_Sets_b1 x0 q.1 q.2) g.1) ((([] : List BSet), 0), (none, 0)) (Sub.pre 1 z) z (by repeat (first | exact trivial | refine ⟨z, ?_⟩)) hh (fun g1 j1 hg1 => ?_))))))))))))))
  obtain ⟨⟨l113, k116⟩, ⟨a114, c115⟩⟩ := g1
  have hh := hg1; clear hg1
  try dsimp only
  obtain ⟨z1, hh, hR1⟩ := iter_e hh
  dsimp only [part_Sets_b1] at hh
  refine TC.isSl (i := 0) z (fun _ hb118 _ => ?_)
  refine TC.a (TL.w z (OpVal.lss z z z) (TL.en (TC.seq (TC.cD z hh (fun h119 hh => ?_) (fun h119 hh => ?_)))))
  ·refine TC.skip (S.n (TC.seq (TC.block (TC.a (TL.i z z (TL.w z (indexN z underlying22 sz3 z z f0_0.rv.sl (by omega)) (TL.w z (loadS1 (0 : Int) z ag3 z f0_0 (by omega) z) (TL.i z z (TL.i z z (TL.en (TC.seq (TC.a (TL.i z z (TL.w z (OpVal.lss z z z) (TL.j z z ?_)))))))))))))))
   refine TL.split 19 z (fun h120 => ?_) (fun h120 => ?_)
   ·replace hh := iteO_t h120 hh
    replace h120 := of_decide_eq_true h120
    refine TL.f z (TL.f z (TL.f z (TL.f z (TL.w z (pickTB z z z) (TL.en (TC.t z (TC.a (TL.s z z (TL.i z z (TL.en (TC.rt 0 (S.r (B.r (S.r (S.r ?_)))))))))))))))
    replace hh := fin_x hR1 hh
    refine B.r (S.r ?_)
    obtain rfl := so hh
    exact rq [2, 3] ⟨none, 0, z, (RS.nilF _ encSet encSet_len), z⟩
   ·replace hh := iteO_f h120 hh
    replace h120 := of_decide_eq_false h120
    refine TL.g z (moveI (.inl z) z) (TL.g z (moveSl (.inl z) z) (TL.g z (lenC z underlying81 z) (TL.g z (OpVal.gtr z z z) (TL.w z (pickFB z z z) (TL.en (TC.cD z hh (fun h121 hh => ?_) (fun h121 hh => ?_)))))))
    ·refine TC.a (TL.s z z (TL.i z z (TL.en (TC.rt 0 (S.r (B.r (S.r (S.r ?_))))))))
     replace hh := fin_x hR1 hh
     refine B.r (S.r ?_)
     obtain rfl := so hh
     exact rq [2, 3] ⟨none, 0, z, (RS.nilF _ encSet encSet_len), z⟩
    ·refine TC.skip (S.n (TC.cutG (α := ((List BSet)) × ((Option Addr) × Nat)) (rgs [(4, 1), (25, 8)]) (fun g => [(4, .slice g.2.1 g.1.length g.2.2)]) (fun g => [Res.rowS 58 4 encSet (.slice g.2.1 g.1.length g.2.2) g.1]) (fun g => σ) (fun g => part_Sets_j1 x0 k116 g.1 = some z1) ?_ (fun g j hg => ?_)))
     ·skip
      refine TC.a (TL.i z z (TL.s z z (TL.w z (lenC z underlying81 z) (TL.w z (OpVal.eql z z z) (TL.en (TC.cD z hh (fun h125 hh => ?_) (fun h125 hh => ?_)))))))
      ·refine TC.region (TL.s z z (TL.w z (buildArrL z underlying58 sz56 ze58 z) (TL.op z (OpOk.lit (enc := encSet) [BSet.zero] z underlying81 sz58 ze58 z z z encSet_len (by decide) (by decide) BSet.zero z (by decide) z (by decide) encSet_one (fun a126 c127 => ?_)))))
       refine TL.front 1 z z ?_
       have u35 := grd_c hh
       replace hh := grd_t hh
       refine TL.op z (appendS z z underlying81 sz58 by58 ze58 z z (by decide) z z z (.inr ⟨_, 0, z⟩) (by simpa using u35) (by decide) (fun a129 c130 => ?_))
       exact TL.s z z (TL.en (cf ((l113 ++ [BSet.zero]), (a129, c130)) hh (Sub.pre 1 z)))
      ·exact TC.skip (S.n (cf (l113, (a114, c115)) hh (Sub.pre 1 z)))
     ·skip
      obtain ⟨l122, ⟨a123, c124⟩⟩ := g
      have hh := hg; clear hg
      try dsimp only
      dsimp only [part_Sets_j1] at hh
      refine TC.isSl (i := 0) z (fun _ hb131 _ => ?_)
      have u41 := grd_c hh
      replace hh := grd_t hh
      have u46 := grd_c hh
      replace hh := grd_t hh
      obtain ⟨v47, u47, hh⟩ := bnd_e hh
      have u48 := grd_c hh
      replace hh := grd_t hh
      refine TC.draw [12] (by kernel_rfl) (TA.a 0 z (moveSl (.inl z) z) z (TA.a 1 z (moveI (.inl z) z) z (TA.a 2 z (moveSl (.inl z) z) z (TA.a 3 z (moveI (.inl z) z) z (TA.isSl (i := 0) z (fun hs138 _ _ => ?_))))))
      refine TA.b 4 z (OpVal.index z underlying81 sz58 z z hs138 u41.1 u41.2) z (TA.b 5 z (loadOA BSet.zero z ag58 sz58 z (q := 0) z encSet_len (by omega) (by omega)) z (TA.a 6 z (moveI (.inl z) z) z (TA.a 7 z (convU8 z underlying3 underlying5 z) z (TA.ac 8 z (OpOk.lit (enc := encU8) [(toU8 ((k116 : Nat) : Int))] z underlying131 sz5 ze5 z z z encU8_len (by decide) (by decide) (0 : UInt8) z (by decide) z (by decide) encU8_one (fun a139 c140 => (k1 ?_)))))))
      refine TA.ac 9 z (callT (of_con _ _ _ [(toU8 ((k116 : Nat) : Int))] u46) z z pf48 z z z z (k0 ?_))
      refine TA.ac 10 z (callP (set_Any_con u47) z z pf55 z z z (k0 ?_))
      refine TA.isSl (i := 0) z (fun hs142 _ _ => ?_)
      refine TA.b 11 z (OpVal.index z underlying81 sz58 z z hs142 u48.1 u48.2) z ?_
      have hn143 : (l122.set ((nth x0 k116 (0 : Int)).toNat) v47).length = l122.length := by rw [List.length_set]
      refine TA.last 12 (by kernel_rfl) z z z (storeS v47 z sz58 z z z z encSet_len encSet_one (by omega) (by omega) ?_)
      refine TZ.done (by kernel_rfl) (B.n (S.n (TC.region (TL.w z (OpVal.succ z z z (by omega)) (TL.i z z ?_)))))
      rw [← hn143]
      refine TL.en ?_
      obtain ⟨hh, hlt144⟩ := nxt_x hR1 hh
      exact lf (((l122.set ((nth x0 k116 (0 : Int)).toNat) v47), (k116 + 1)), (a123, c124)) hlt144 hh (Sub.pre 1 z)
  ·refine TC.exit (S.x (S.x ?_))
   replace hh := fin_x hR1 hh
   refine TC.exitHere (S.n (TC.a (TL.s z z (TL.s z z (TL.i z z (TL.en (TC.sealS encSet_len (fun τ147 hle146 hr145 => ?_))))))))
   have hr145b := hr145.rv.big
   refine TC.ret ?_
   obtain rfl := so hh
   exact rq [2, 3] ⟨a114, c115, z, hr145, z⟩

noncomputable def dfa_Check_b2 (x0 : Dfa) (k110 : Nat) (k116 : Nat) : Option ((Nat) ⊕ ((Nat) ⊕ (Int))) :=
 iteO (decide (((k116 : Nat) : Int) < (((nth x0.next k110 ([] : List Int)).length : Nat) : Int))) (iteO (decide ((nth (nth x0.next k110 ([] : List Int)) k116 (0 : Int)) < 0)) (fin (fin (some 1))) (iteO (decide (((x0.next.length : Nat) : Int) ≤ (nth (nth x0.next k110 ([] : List Int)) k116 (0 : Int)))) (fin (fin (some 1))) (nxt (k116 + 1)))) (fin (nxt (k110 + 1)))
noncomputable def dfa_Check_b1 (x0 : Dfa) (v5 : (List BSet) × Int) (k110 : Nat) : Option ((Nat) ⊕ (Int)) :=
 iteO (decide (((k110 : Nat) : Int) < ((x0.next.length : Nat) : Int))) (iteO (decide ((((nth x0.next k110 ([] : List Int)).length : Nat) : Int) ≠ ((v5.1.length : Nat) : Int))) (fin (some 1)) (iter (fun q : Nat => dfa_Check_b2 x0 k110 q) 0)) (fin (some 0))
noncomputable def dfa_Check (x0 : Dfa) : Option (Int) :=
 bnd (part_Sets x0.cls) (fun v5 => iteO (decide (v5.2 ≠ 0)) (some 1) (iteO (decide (((x0.next.length : Nat) : Int) < 1)) (some 1) (iteO (decide (1024 < ((x0.next.length : Nat) : Int))) (some 1) (iteO (decide (((x0.fin.length : Nat) : Int) ≠ ((x0.next.length : Nat) : Int))) (some 1) (iter (fun q : Nat => dfa_Check_b1 x0 v5 q) 0)))))
theorem dfa_Check_con {σ : Store} {x0 : Dfa} {a0_0 : Option Addr} {c0_0 : Nat} {a0_1 : Option Addr} {c0_1 : Nat} {a0_2 : Option Addr} {c0_2 : Nat} (f0_0 : RS σ 1 Go.E.encI (.slice a0_0 x0.cls.length c0_0) x0.cls) (f0_1 : RZ σ (pkSl 1 Go.E.encI Go.E.encI_len) (.slice a0_1 x0.next.length c0_1) x0.next) (f0_2 : RS σ 1 encB (.slice a0_2 x0.fin.length c0_2) x0.fin) {r : Int} (hh : dfa_Check x0 = some r) :
  Con Tryz.prog 22 #[.agg #[.slice a0_0 x0.cls.length c0_0, .slice a0_1 x0.next.length c0_1, .slice a0_2 x0.fin.length c0_2]] σ [] (PureP (.int .i64 r) σ) := by
 dsimp only [dfa_Check] at hh
 have f0_0b := f0_0.rv.big
 have f0_1b := f0_1.big
 have f0_2b := f0_2.rv.big
 refine Con.mk (n := 63) Tryz.func22 z z z (fun w0 => ?_)
 refine TC.a (TL.op z (boxA z z z z (fun b101 => ?_)))
 refine TL.i z z (TL.en (TC.a (TL.w z (fieldLoc z fo26_0 z) (TL.w z (loadLoc z ag22 z (i := 0) z z) ?_))))
 obtain ⟨v5, u5, hh⟩ := bnd_e hh
 refine TL.op z (OpOk.call (part_Sets_con f0_0 u5) z z pf40 z z z z ?_)
 rintro _ τ103 _ hle103 ⟨a103_1, c103_1, rfl, hr103_0, rfl⟩
 replace f0_1 := f0_1.mono hle103
 have hr103_0b := hr103_0.rv.big
 refine TL.w z (moveT (.inl z) z) (TL.w z (OpVal.extract z z z) (TL.w z (OpVal.extract z z z) (TL.s z z (TL.i z z (TL.en (TC.a (TL.w z (fieldLoc z fo26_1 z) (TL.w z (loadLoc z ag23 z (i := 0) z z) (TL.w z (lenC z underlying23 z) (TL.i z z (TL.en (TC.seq (TC.a (TL.i z z (TL.w z (OpVal.neq z z z) ?_)))))))))))))))
 refine TL.j z z (TL.split 21 z (fun h104 => ?_) (fun h104 => ?_))
 ·replace hh := iteO_t h104 hh
  replace h104 := of_decide_eq_true h104
  refine TL.f z (TL.f z (TL.w z (pickTB z z z) (TL.j z z (TL.f z (TL.f z (TL.w z (pickTB z z z) (TL.j z z (TL.f z (TL.f z (TL.f z (TL.f z (TL.f z (TL.w z (pickTB z z z) (TL.en (TC.t z ?_)))))))))))))))
  refine TC.a (TL.i z z (TL.en (TC.ofSub (Sub.pre 0 z) (TC.back (TC.ret (S.r ?_))))))
  obtain rfl := so hh
  exact rq [2] ⟨z, z, z⟩
 ·replace hh := iteO_f h104 hh
  replace h104 := of_decide_eq_false h104
  refine TL.g z (moveI (.inl z) z) (TL.g z (OpVal.lss z z z) (TL.w z (pickFB z z z) (TL.j z z (TL.split 25 z (fun h105 => ?_) (fun h105 => ?_)))))
  ·replace hh := iteO_t h105 hh
   replace h105 := of_decide_eq_true h105
   refine TL.f z (TL.f z (TL.w z (pickTB z z z) (TL.j z z (TL.f z (TL.f z (TL.f z (TL.f z (TL.f z (TL.w z (pickTB z z z) (TL.en (TC.t z (TC.a (TL.i z z (TL.en (TC.ofSub (Sub.pre 0 z) ?_)))))))))))))))
   refine TC.back (TC.ret (S.r ?_))
   obtain rfl := so hh
   exact rq [2] ⟨z, z, z⟩
  ·replace hh := iteO_f h105 hh
   replace h105 := of_decide_eq_false h105
   refine TL.g z (moveI (.inl z) z) (TL.g z (OpVal.gtr z z z) (TL.w z (pickFB z z z) (TL.j z z (TL.split 29 z (fun h106 => ?_) (fun h106 => ?_)))))
   ·replace hh := iteO_t h106 hh
    replace h106 := of_decide_eq_true h106
    refine TL.f z (TL.f z (TL.f z (TL.f z (TL.f z (TL.w z (pickTB z z z) (TL.en (TC.t z (TC.a (TL.i z z (TL.en (TC.ofSub (Sub.pre 0 z) (TC.back (TC.ret (S.r ?_))))))))))))))
    obtain rfl := so hh
    exact rq [2] ⟨z, z, z⟩
   ·replace hh := iteO_f h106 hh
    replace h106 := of_decide_eq_false h106
    refine TL.g z (fieldLoc z fo26_2 z) (TL.g z (loadLoc z ag24 z (i := 0) z z) (TL.g z (lenC z underlying24 z) (TL.g z (moveI (.inl z) z) (TL.g z (OpVal.neq z z z) (TL.w z (pickFB z z z) (TL.en (TC.cD z hh (fun h107 hh => ?_) (fun h107 hh => ?_))))))))
    ·refine TC.a (TL.i z z (TL.en (TC.ofSub (Sub.pre 0 z) (TC.back (TC.ret (S.r ?_))))))
     obtain rfl := so hh
     exact rq [2] ⟨z, z, z⟩
    ·refine TC.skip (S.n (TC.seq (TC.a (TL.w z (fieldLoc z fo26_1 z) (TL.w z (loadLoc z ag23 z (i := 0) z z) (TL.w z (lenC z underlying23 z) (TL.i z z (TL.en (TC.block (TC.loopG (α := (Nat) × (Unit)) (rgs [(2, 1), (7, 1), (9, 1), (39, 24)]) (fun g => [(39, .int .i64 ((g.1 : Nat) : Int))]) (fun g => []) (fun g => τ103) (fun g => iter (fun q : Nat => dfa_Check_b1 x0 v5 q) g.1 = some r) (fun g => rounds (fun q : Nat => dfa_Check_b1 x0 v5 q) g.1) (0, ()) (Sub.pre 0 z) z (by repeat (first | exact trivial | refine ⟨z, ?_⟩)) hh (fun g1 j1 hg1 => ?_)))))))))))
     obtain ⟨k110, _⟩ := g1
     have hh := hg1; clear hg1
     try dsimp only
     obtain ⟨z1, hh, hR1⟩ := iter_e hh
     dsimp only [dfa_Check_b1] at hh
     refine TC.a (TL.w z (OpVal.lss z z z) (TL.en (TC.seq (TC.cD z hh (fun h111 hh => ?_) (fun h111 hh => ?_)))))
     ·refine TC.skip (S.n (TC.seq (TC.block (TC.a (TL.w z (indexN z underlying23 sz22 z z f0_1.isSl (by omega)) ?_)))))
      obtain ⟨p112, hk112, hg112⟩ := RZ.seg f0_1 k110 (by omega)
      replace hk112 : RS _ 1 Go.E.encI (.slice p112.1 (nth x0.next k110 ([] : List Int)).length p112.2) (nth x0.next k110 ([] : List Int)) := hk112
      have hk112b := hk112.rv.big
      refine TL.w z (OpVal.of (loadSeg0 z ag22 z hg112 z) (v' := .slice p112.1 ((nth x0.next k110 ([] : List Int)).length) p112.2) z) (TL.s z z (TL.en (TC.seq (TC.a (TL.s z z (TL.w z (lenC z underlying22 z) (TL.s z z (TL.w z (lenC z underlying81 z) (TL.w z (OpVal.neq z z z) (TL.en (TC.cD z hh (fun h113 hh => ?_) (fun h113 hh => ?_))))))))))))
      ·refine TC.a (TL.i z z (TL.en (TC.back (TC.ret (S.r (B.r (S.r (S.r ?_))))))))
       replace hh := fin_x hR1 hh
       refine B.r (S.r ?_)
       obtain rfl := so hh
       exact rq [2] ⟨z, z, z⟩
      ·refine TC.skip (S.n (TC.a (TL.s z z (TL.w z (lenC z underlying22 z) (TL.i z z (TL.en (TC.block (TC.loopG (α := (Nat) × (Unit)) (rgs [(2, 1), (9, 1), (50, 12)]) (fun g => [(50, .int .i64 ((g.1 : Nat) : Int))]) (fun g => []) (fun g => τ103) (fun g => iter (fun q : Nat => dfa_Check_b2 x0 k110 q) g.1 = some z1) (fun g => rounds (fun q : Nat => dfa_Check_b2 x0 k110 q) g.1) (0, ()) (Sub.pre 0 z) z (by repeat (first | exact trivial | refine ⟨z, ?_⟩)) hh (fun g2 j2 hg2 => ?_)))))))))
       obtain ⟨k116, _⟩ := g2
       have hh := hg2; clear hg2
       try dsimp only
       obtain ⟨z2, hh, hR2⟩ := iter_e hh
       dsimp only [dfa_Check_b2] at hh
       refine TC.a (TL.w z (OpVal.lss z z z) (TL.en (TC.seq (TC.cD z hh (fun h117 hh => ?_) (fun h117 hh => ?_)))))
       ·refine TC.skip (S.n (TC.seq (TC.block (TC.a (TL.w z (indexN z underlying22 sz3 z z hk112.rv.sl (by omega)) (TL.w z (loadS1 (0 : Int) z ag3 z hk112 (by omega) z) (TL.i z z (TL.en (TC.a (TL.i z z (TL.w z (OpVal.lss z z z) (TL.j z z (TL.split 56 z (fun h118 => ?_) (fun h118 => ?_))))))))))))))
        ·replace hh := iteO_t h118 hh
         replace h118 := of_decide_eq_true h118
         refine TL.f z (TL.f z (TL.f z (TL.w z (pickTB z z z) (TL.en (TC.t z (TC.a (TL.i z z (TL.en (TC.back (TC.ret (B.r (S.r (S.r ?_)))))))))))))
         replace hh := fin_x hR2 hh
         refine B.r (B.r (S.r (S.r ?_)))
         replace hh := fin_x hR1 hh
         refine B.r (S.r ?_)
         obtain rfl := so hh
         exact rq [2] ⟨z, z, z⟩
        ·replace hh := iteO_f h118 hh
         replace h118 := of_decide_eq_false h118
         refine TL.g z (moveI (.inl z) z) (TL.g z (moveI (.inl z) z) (TL.g z (OpVal.geq z z z) (TL.w z (pickFB z z z) (TL.en (TC.cD z hh (fun h119 hh => ?_) (fun h119 hh => ?_))))))
         ·refine TC.a (TL.i z z (TL.en (TC.back (TC.ret (B.r (S.r (S.r ?_)))))))
          replace hh := fin_x hR2 hh
          refine B.r (B.r (S.r (S.r ?_)))
          replace hh := fin_x hR1 hh
          refine B.r (S.r ?_)
          obtain rfl := so hh
          exact rq [2] ⟨z, z, z⟩
         ·refine TC.skip (B.n (S.n (TC.region (TL.w z (OpVal.succ z z z (by omega)) (TL.i z z (TL.en ?_))))))
          obtain ⟨hh, hlt120⟩ := nxt_x hR2 hh
          exact lf ((k116 + 1), ()) hlt120 hh (Sub.pre 0 z)
       ·refine TC.exit (S.x (S.x ?_))
        replace hh := fin_x hR2 hh
        refine TC.exitHere (B.n (S.n (TC.region (TL.w z (OpVal.succ z z z (by omega)) (TL.i z z (TL.en ?_))))))
        obtain ⟨hh, hlt121⟩ := nxt_x hR1 hh
        exact lf ((k110 + 1), ()) hlt121 hh (Sub.pre 0 z)
     ·refine TC.exit (S.x (S.x ?_))
      replace hh := fin_x hR1 hh
      refine TC.exitHere (S.n (TC.a (TL.i z z (TL.en (TC.back (TC.ret ?_))))))
      obtain rfl := so hh
      exact rq [2] ⟨z, z, z⟩

noncomputable def dfa_unlike_j1 (k120 : Nat) (m124 : FM BSet Int) (l125 : List BSet) : Option (((FM BSet Int) × (List BSet) × Nat) ⊕ ((List BSet))) :=
 nxt (m124, l125, (k120 + 1))
noncomputable def dfa_unlike_b1 (x0 : List Arrow) (m115 : FM BSet Int) (l117 : List BSet) (k120 : Nat) : Option (((FM BSet Int) × (List BSet) × Nat) ⊕ ((List BSet))) :=
 iteO (decide (((k120 : Nat) : Int) < ((x0.length : Nat) : Int))) (iteO (!(m115.has ((nth x0 k120 Arrow.zero).set))) (grd ((l117.length + [(nth x0 k120 Arrow.zero).set].length) * 32 ≤ 140737488355328) (dfa_unlike_j1 k120 (m115.put ((nth x0 k120 Arrow.zero).set) ((l117.length : Nat) : Int)) (l117 ++ [(nth x0 k120 Arrow.zero).set]))) (dfa_unlike_j1 k120 m115 l117)) (fin (some l117))
noncomputable def dfa_unlike (x0 : List Arrow) : Option ((List BSet)) :=
 iter (fun q : (FM BSet Int) × (List BSet) × Nat => dfa_unlike_b1 x0 q.1 q.2.1 q.2.2) ((FM.emp : FM BSet Int), ([] : List BSet), 0)
def dfa_unlike_P (σ : Store) (r : (List BSet)) : Value → Store → List Res → Prop := fun v σ' H' =>
 ∃ (a1 : Option Addr), ∃ (c1 : Nat),  v = .slice a1 r.length c1 ∧ RS σ' 4 encSet (.slice a1 r.length c1) r ∧ H' = []
theorem dfa_unlike_con {σ : Store} {x0 : List Arrow} {a0_0 : Option Addr} {c0_0 : Nat} (f0_0 : RS σ 6 encE (.slice a0_0 x0.length c0_0) x0) {r : (List BSet)} (hh : dfa_unlike x0 = some r) :
  Con Tryz.prog 62 #[.slice a0_0 x0.length c0_0] σ [] (dfa_unlike_P σ r) := by
 dsimp only [dfa_unlike] at hh
 have f0_0b := f0_0.rv.big
 refine Con.mk (n := 37) Tryz.func62 z z z (fun w0 => ?_)
 refine TC.a (TL.s z z (TL.en (TC.a (TL.op z (makeMapB (enc := setV) (encV := keyI) z z z (fun b101 => ?_))))))
 refine TL.w z (moveMap (.inr z) z) (TL.en (TC.a (TL.s z z (TL.en (TC.seq (TC.a (TL.s z z (TL.w z (lenC z underlying84 z) (TL.i z z (TL.en (TC.block (TC.nilS 58 4 encSet (TC.loopG (α := ((FM BSet Int) × (List BSet) × Nat) × ((Option Addr) × Nat)) (rgs [(4, 1), (6, 3), (12, 24)]) (fun g => [(4, .slice g.2.1 g.1.2.1.length g.2.2), (12, .int .i64 ((g.1.2.2 : Nat) : Int))]) (fun g => [Res.mapB setV keyI (some b101) g.1.1, Res.rowS 58 4 encSet (.slice g.2.1 g.1.2.1.length g.2.2) g.1.2.1]) (fun g => σ) (fun g => iter (fun q : (FM BSet Int) × (List BSet) × Nat => dfa_unlike_b1 x0 q.1 q.2.1 q.2.2) g.1 = some r) (fun g => rounds (fun q : (FM BSet Int) × (List BSet) × Nat => dfa_unlike_b1 x0 q.1 q.2.1 q.2.2) g.1) (((FM.emp : FM BSet Int), ([] : List BSet), 0), (none, 0)) (Sub.f [1] 2) z (by repeat (first | exact trivial | refine ⟨z, ?_⟩)) hh (fun g1 j1 hg1 => ?_))))))))))))))
 obtain ⟨⟨m115, l117, k120⟩, ⟨a118, c119⟩⟩ := g1
 have hh := hg1; clear hg1
 try dsimp only
 obtain ⟨z1, hh, hR1⟩ := iter_e hh
 dsimp only [dfa_unlike_b1] at hh
 refine TC.isSl (i := 1) z (fun _ hb122 _ => ?_)
 refine TC.a (TL.w z (OpVal.lss z z z) (TL.en (TC.seq (TC.cD z hh (fun h123 hh => ?_) (fun h123 hh => ?_)))))
 ·refine TC.skip (S.n (TC.cutG (α := ((FM BSet Int) × (List BSet)) × ((Option Addr) × Nat)) (rgs [(4, 1), (6, 3), (14, 21)]) (fun g => [(4, .slice g.2.1 g.1.2.length g.2.2)]) (fun g => [Res.mapB setV keyI (some b101) g.1.1, Res.rowS 58 4 encSet (.slice g.2.1 g.1.2.length g.2.2) g.1.2]) (fun g => σ) (fun g => dfa_unlike_j1 k120 g.1.1 g.1.2 = some z1) ?_ (fun g j hg => ?_)))
  ·skip
   refine TC.block (TC.a (TL.w z (indexN z underlying84 sz90 z z f0_0.rv.sl (by omega)) (TL.w z (loadSA Arrow.zero z ag90 sz90 z f0_0 (by omega) (by omega)) (TL.op z (OpOk.alloc z ze90 z z (fun b128 => ?_))))))
   refine TL.op z (storeAll z sz90 z z z z z z ?_)
   refine TL.en (TC.a (TL.w z (moveMap (.inl z) z) (TL.w z (fieldLoc z fo90_2 z) (TL.w z (loadLocA z ag58 sz58 z (i := 0) z z z) (TL.w z (OpVal.of (lookB 0 (q := (nth x0 k120 Arrow.zero).set) z underlying141 ze3 z (i := 1) z z (keyL_set underlying58 underlying56 ag56 sz56)) (v' := .tuple #[.int .i64 (m115.get ((nth x0 k120 Arrow.zero).set) 0), .bool (m115.has ((nth x0 k120 Arrow.zero).set))]) z) (TL.w z (moveT (.inl z) z) (TL.w z (OpVal.extract z z z) (TL.w z (OpVal.extract z z z) (TL.i z z (TL.j z z (TL.en (TC.a (TL.j z z (TL.w z (OpVal.not z z) (TL.en ?_)))))))))))))))
   refine TC.cB z hh (fun h130 hh => ?_) (fun h130 hh => ?_)
   ·refine TC.a (TL.w z (moveMap (.inl z) z) (TL.w z (fieldLoc z fo90_2 z) (TL.w z (loadLocA z ag58 sz58 z (i := 0) z z z) (TL.s z z (TL.w z (lenC z underlying81 z) (TL.front 1 z z (TL.op z (updB ((nth x0 k120 Arrow.zero).set) ((l117.length : Nat) : Int) z underlying141 z z z z (keyL_set underlying58 underlying56 ag56 sz56) ?_))))))))
    refine TL.en (TC.region (TL.s z z (TL.w z (fieldLoc z fo90_2 z) (TL.w z (loadLocA z ag58 sz58 z (i := 1) z z z) (TL.op z (OpOk.lit (enc := encSet) [(nth x0 k120 Arrow.zero).set] z underlying81 sz58 ze58 z z z encSet_len (by decide) (by decide) BSet.zero z (by decide) z (by decide) encSet_one (fun a131 c132 => ?_)))))))
    refine TL.front 3 z z ?_
    have u34 := grd_c hh
    replace hh := grd_t hh
    refine TL.op z (appendS z z underlying81 sz58 by58 ze58 z z (by decide) z z z (.inr ⟨_, 0, z⟩) (by simpa using u34) (by decide) (fun a134 c135 => ?_))
    exact TL.s z z (TL.nil (B.n (S.n (cf (((m115.put ((nth x0 k120 Arrow.zero).set) ((l117.length : Nat) : Int)), (l117 ++ [(nth x0 k120 Arrow.zero).set])), (a134, c135)) hh (Sub.f [2] 2)))))
   ·exact TC.skip (B.n (S.n (cf ((m115, l117), (a118, c119)) hh (Sub.f [2, 2] 2))))
  ·skip
   obtain ⟨⟨m124, l125⟩, ⟨a126, c127⟩⟩ := g
   have hh := hg; clear hg
   try dsimp only
   dsimp only [dfa_unlike_j1] at hh
   refine TC.isSl (i := 1) z (fun _ hb136 _ => ?_)
   refine TC.region (TL.w z (OpVal.succ z z z (by omega)) (TL.i z z (TL.en ?_)))
   obtain ⟨hh, hlt137⟩ := nxt_x hR1 hh
   exact lf ((m124, l125, (k120 + 1)), (a126, c127)) hlt137 hh (Sub.f [1, 1] 2)
 ·refine TC.exit (S.x (S.x ?_))
  replace hh := fin_x hR1 hh
  refine TC.exitHere (S.n (TC.a (TL.s z z (TL.s z z (TL.en (TC.front 1 z z (TC.sealS encSet_len (fun τ140 hle139 hr138 => ?_))))))))
  have hr138b := hr138.rv.big
  refine TC.rt 0 ?_
  obtain rfl := so hh
  exact rq [2] ⟨a118, c119, z, hr138, z⟩

noncomputable def dfa_behind_j1 (k133 : Nat) (l136 : List Int) : Option (((List Int) × Nat) ⊕ (((List Int) × Nat) ⊕ ((List Int)))) :=
 nxt (l136, (k133 + 1))
noncomputable def dfa_behind_b2 (x0 : List (List Arrow)) (x1 : List Int) (k117 : Nat) (v4 : UInt8 × Bool) (l130 : List Int) (k133 : Nat) : Option (((List Int) × Nat) ⊕ (((List Int) × Nat) ⊕ ((List Int)))) :=
 iteO (decide (((k133 : Nat) : Int) < (((nth x0 ((nth x1 k117 (0 : Int)).toNat) ([] : List Arrow)).length : Nat) : Int))) (iteO (((nth (nth x0 ((nth x1 k117 (0 : Int)).toNat) ([] : List Arrow)) k133 Arrow.zero).set).has v4.1.toNat) (grd ((l130.length + [(nth (nth x0 ((nth x1 k117 (0 : Int)).toNat) ([] : List Arrow)) k133 Arrow.zero).to].length) * 8 ≤ 140737488355328) (dfa_behind_j1 k133 (l130 ++ [(nth (nth x0 ((nth x1 k117 (0 : Int)).toNat) ([] : List Arrow)) k133 Arrow.zero).to]))) (dfa_behind_j1 k133 l130)) (fin (nxt (l130, (k117 + 1))))
noncomputable def dfa_behind_b1 (x1 : List Int) (x0 : List (List Arrow)) (v4 : UInt8 × Bool) (l114 : List Int) (k117 : Nat) : Option (((List Int) × Nat) ⊕ ((List Int))) :=
 iteO (decide (((k117 : Nat) : Int) < ((x1.length : Nat) : Int))) (grd (0 ≤ (nth x1 k117 (0 : Int)) ∧ (nth x1 k117 (0 : Int)) < (x0.length : Int)) (iter (fun q : (List Int) × Nat => dfa_behind_b2 x0 x1 k117 v4 q.1 q.2) (l114, 0))) (fin (some l114))
noncomputable def dfa_behind (x0 : List (List Arrow)) (x1 : List Int) (x2 : BSet) : Option ((List Int)) :=
 bnd (set_First x2) (fun v4 => iter (fun q : (List Int) × Nat => dfa_behind_b1 x1 x0 v4 q.1 q.2) (([] : List Int), 0))
def dfa_behind_P (σ : Store) (r : (List Int)) : Value → Store → List Res → Prop := fun v σ' H' =>
 ∃ (a1 : Option Addr), ∃ (c1 : Nat),  v = .slice a1 r.length c1 ∧ σ = σ' ∧ H' = [Res.rowS 3 1 Go.E.encI (.slice a1 r.length c1) r]
theorem dfa_behind_con {σ : Store} {x0 : List (List Arrow)} {a0_0 : Option Addr} {c0_0 : Nat} {x1 : List Int} {a1_0 : Option Addr} {c1_0 : Nat} {x2 : BSet} (hgl : GT σ 1 encU8 deB) (f0_0 : RZ σ (pkSl 6 encE encE_len) (.slice a0_0 x0.length c0_0) x0) (f1_0 : RS σ 1 Go.E.encI (.slice a1_0 x1.length c1_0) x1) {r : (List Int)} (hh : dfa_behind x0 x1 x2 = some r) :
  Con Tryz.prog 68 #[.slice a0_0 x0.length c0_0, .slice a1_0 x1.length c1_0, setV x2] σ [] (dfa_behind_P σ r) := by
 dsimp only [dfa_behind] at hh
 have f0_0b := f0_0.big
 have f1_0b := f1_0.rv.big
 refine Con.mk (n := 46) Tryz.func68 z z z (fun w0 => ?_)
 refine TC.a (TL.op z (boxA z z z z (fun b101 => ?_)))
 refine TL.s z z (TL.en (TC.a (TL.w z (loadAll z ag58 sz58 z (i := 0) z z) ?_)))
 obtain ⟨v4, u4, hh⟩ := bnd_e hh
 refine TL.op z (callP (set_First_con hgl u4) z z pf82 z z z ?_)
 refine TL.w z (moveT (.inl z) z) (TL.w z (OpVal.extract z z z) (TL.w z (OpVal.extract z z z) (TL.i z z (TL.j z z (TL.en (TC.a (TL.s z z (TL.en (TC.seq (TC.a (TL.s z z (TL.w z (lenC z underlying22 z) (TL.i z z (TL.en (TC.block ?_)))))))))))))))
 refine TC.nilS 3 1 Go.E.encI (TC.loopG (α := ((List Int) × Nat) × ((Option Addr) × Nat)) (rgs [(9, 1), (11, 1), (13, 1), (21, 24)]) (fun g => [(9, .slice g.2.1 g.1.1.length g.2.2), (21, .int .i64 ((g.1.2 : Nat) : Int))]) (fun g => [Res.rowS 3 1 Go.E.encI (.slice g.2.1 g.1.1.length g.2.2) g.1.1]) (fun g => σ) (fun g => iter (fun q : (List Int) × Nat => dfa_behind_b1 x1 x0 v4 q.1 q.2) g.1 = some r) (fun g => rounds (fun q : (List Int) × Nat => dfa_behind_b1 x1 x0 v4 q.1 q.2) g.1) ((([] : List Int), 0), (none, 0)) (Sub.pre 1 z) z (by repeat (first | exact trivial | refine ⟨z, ?_⟩)) hh (fun g1 j1 hg1 => ?_))
 obtain ⟨⟨l114, k117⟩, ⟨a115, c116⟩⟩ := g1
 have hh := hg1; clear hg1
 try dsimp only
 obtain ⟨z1, hh, hR1⟩ := iter_e hh
 dsimp only [dfa_behind_b1] at hh
 refine TC.isSl (i := 0) z (fun _ hb119 _ => ?_)
 refine TC.a (TL.w z (OpVal.lss z z z) (TL.en (TC.seq (TC.cD z hh (fun h120 hh => ?_) (fun h120 hh => ?_)))))
 ·refine TC.skip (S.n (TC.seq (TC.block (TC.a (TL.w z (indexN z underlying22 sz3 z z f1_0.rv.sl (by omega)) (TL.w z (loadS1 (0 : Int) z ag3 z f1_0 (by omega) z) (TL.i z z (TL.en (TC.a (TL.s z z (TL.i z z ?_)))))))))))
  have u20 := grd_c hh
  replace hh := grd_t hh
  refine TL.w z (OpVal.index z underlying119 sz84 z z f0_0.isSl u20.1 u20.2) ?_
  obtain ⟨p121, hk121, hg121⟩ := RZ.seg f0_0 ((nth x1 k117 (0 : Int)).toNat) (by omega)
  replace hk121 : RS _ 6 encE (.slice p121.1 (nth x0 ((nth x1 k117 (0 : Int)).toNat) ([] : List Arrow)).length p121.2) (nth x0 ((nth x1 k117 (0 : Int)).toNat) ([] : List Arrow)) := hk121
  have hk121b := hk121.rv.big
  refine TL.w z (OpVal.of (loadSeg0 z ag84 z hg121 z) (v' := .slice p121.1 ((nth x0 ((nth x1 k117 (0 : Int)).toNat) ([] : List Arrow)).length) p121.2) z) (TL.w z (lenC z underlying84 z) (TL.i z z (TL.en (TC.block (TC.loopG (α := ((List Int) × Nat) × ((Option Addr) × Nat)) (rgs [(9, 1), (13, 1), (30, 14)]) (fun g => [(9, .slice g.2.1 g.1.1.length g.2.2), (30, .int .i64 ((g.1.2 : Nat) : Int))]) (fun g => [Res.rowS 3 1 Go.E.encI (.slice g.2.1 g.1.1.length g.2.2) g.1.1]) (fun g => σ) (fun g => iter (fun q : (List Int) × Nat => dfa_behind_b2 x0 x1 k117 v4 q.1 q.2) g.1 = some z1) (fun g => rounds (fun q : (List Int) × Nat => dfa_behind_b2 x0 x1 k117 v4 q.1 q.2) g.1) ((l114, 0), (a115, c116)) (Sub.pre 1 z) z (by repeat (first | exact trivial | refine ⟨z, ?_⟩)) hh (fun g2 j2 hg2 => ?_))))))
  obtain ⟨⟨l130, k133⟩, ⟨a131, c132⟩⟩ := g2
  have hh := hg2; clear hg2
  try dsimp only
  obtain ⟨z2, hh, hR2⟩ := iter_e hh
  dsimp only [dfa_behind_b2] at hh
  refine TC.isSl (i := 0) z (fun _ hb134 _ => ?_)
  refine TC.a (TL.w z (OpVal.lss z z z) (TL.en (TC.seq (TC.cD z hh (fun h135 hh => ?_) (fun h135 hh => ?_)))))
  ·refine TC.skip (S.n (TC.cutG (α := ((List Int)) × ((Option Addr) × Nat)) (rgs [(9, 1), (13, 1), (32, 11)]) (fun g => [(9, .slice g.2.1 g.1.length g.2.2)]) (fun g => [Res.rowS 3 1 Go.E.encI (.slice g.2.1 g.1.length g.2.2) g.1]) (fun g => σ) (fun g => dfa_behind_j1 k133 g.1 = some z2) ?_ (fun g j hg => ?_)))
   ·skip
    refine TC.block (TC.a (TL.w z (indexN z underlying84 sz90 z z hk121.rv.sl (by omega)) (TL.w z (loadSA Arrow.zero z ag90 sz90 z hk121 (by omega) (by omega)) (TL.op z (OpOk.alloc z ze90 z z (fun b139 => ?_))))))
    refine TL.op z (storeAll z sz90 z z z z z z ?_)
    refine TL.en (TC.a (TL.w z (fieldLoc z fo90_2 z) (TL.w z (loadLocA z ag58 sz58 z (i := 0) z z z) (TL.i z z (TL.op z (callP (has_con _ ((nth (nth x0 ((nth x1 k117 (0 : Int)).toNat) ([] : List Arrow)) k133 Arrow.zero).set) v4.1.toNat (BSet.isOk _) (UInt8.toNat_lt _)) z z pf70 z z z ?_))))))
    refine TL.en (TC.cB z hh (fun h141 hh => ?_) (fun h141 hh => ?_))
    ·refine TC.region (TL.s z z (TL.w z (fieldLoc z fo90_1 z) (TL.w z (loadLoc z ag3 z (i := 0) z z) (TL.op z (OpOk.lit (enc := Go.E.encI) [(nth (nth x0 ((nth x1 k117 (0 : Int)).toNat) ([] : List Arrow)) k133 Arrow.zero).to] z underlying22 sz3 ze3 z z z Go.E.encI_len (by decide) (by decide) (0 : Int) z (by decide) z (by decide) Go.E.encI_one (fun a142 c143 => ?_))))))
     refine TL.front 2 z z ?_
     have u37 := grd_c hh
     replace hh := grd_t hh
     refine TL.op z (appendS z z underlying22 sz3 by3 ze3 z z (by decide) z z z (.inr ⟨_, 0, z⟩) (by simpa using u37) (by decide) (fun a145 c146 => ?_))
     exact TL.s z z (TL.nil (B.n (S.n (cf ((l130 ++ [(nth (nth x0 ((nth x1 k117 (0 : Int)).toNat) ([] : List Arrow)) k133 Arrow.zero).to]), (a145, c146)) hh (Sub.pre 1 z)))))
    ·exact TC.skip (B.n (S.n (cf (l130, (a131, c132)) hh (Sub.f [1] 1))))
   ·skip
    obtain ⟨l136, ⟨a137, c138⟩⟩ := g
    have hh := hg; clear hg
    try dsimp only
    dsimp only [dfa_behind_j1] at hh
    refine TC.isSl (i := 0) z (fun _ hb147 _ => ?_)
    refine TC.region (TL.w z (OpVal.succ z z z (by omega)) (TL.i z z (TL.en ?_)))
    obtain ⟨hh, hlt148⟩ := nxt_x hR2 hh
    exact lf ((l136, (k133 + 1)), (a137, c138)) hlt148 hh (Sub.pre 1 z)
  ·refine TC.exit (S.x (S.x ?_))
   replace hh := fin_x hR2 hh
   refine TC.exitHere (B.n (S.n (TC.region (TL.w z (OpVal.succ z z z (by omega)) (TL.i z z (TL.en ?_))))))
   obtain ⟨hh, hlt149⟩ := nxt_x hR1 hh
   exact lf ((l130, (k117 + 1)), (a131, c132)) hlt149 hh (Sub.pre 1 z)
 ·refine TC.exit (S.x (S.x ?_))
  replace hh := fin_x hR1 hh
  refine TC.exitHere (S.n (TC.a (TL.s z z (TL.s z z (TL.en (TC.ret ?_))))))
  obtain rfl := so hh
  exact ro [Res.rowS 3 1 Go.E.encI (.slice a115 l114.length c116) l114] z (RVs.tmp z RVs.nil) ⟨a115, c116, z, z, z⟩

noncomputable def dfa_classes_1_b1 {Sy : Type} (x1 : List BSet) (Y : Sy → Int × BSet → Option (Sy × Bool)) (k111 : Nat) (s112 : Sy) : Option ((Nat × Sy) ⊕ (Sy)) :=
 iteO (decide (((k111 : Nat) : Int) < ((x1.length : Nat) : Int))) (bnd (Y s112 (((k111 : Nat) : Int), (nth x1 k111 BSet.zero))) (fun v14 => iteO (!v14.2) (fin (some v14.1)) (nxt ((k111 + 1), v14.1)))) (fin (some s112))
noncomputable def dfa_classes_1 {Sy : Type} (Y : Sy → Int × BSet → Option (Sy × Bool)) (s0 : Sy) (x1 : List BSet) : Option (Sy) :=
 iter (fun q : Nat × Sy => dfa_classes_1_b1 x1 Y q.1 q.2) (0, s0)
theorem dfa_classes_1_con {Sy : Type} {σ : Store} {Y : Sy → Int × BSet → Option (Sy × Bool)} {s0 : Sy} {x1 : List BSet} {b1_0 : Nat} {Eb1 : Nat} {a1_1 : Option Addr} {c1_2 : Nat} (f1_3 : RS σ 4 encSet (.slice a1_1 x1.length c1_2) x1) {r : Sy} (hh : dfa_classes_1 Y s0 x1 = some r) :
  IterOk Tryz.prog 76 [loc b1_0 0] (fun (x : Int × BSet) _ vs => vs = [.int .i64 x.1, setV x.2]) Y σ [Res.cells b1_0 #[.slice a1_1 x1.length c1_2] Eb1] s0 r (fun σ' H' => H' = [Res.cells b1_0 #[.slice a1_1 x1.length c1_2] Eb1]) := by
 intro l Z ry0 hY hys
 dsimp only [dfa_classes_1] at hh
 have f1_3b := f1_3.rv.big
 refine Con.mk (n := 18) Tryz.func76 z z z (fun w0 => ?_)
 refine TC.weakR (TC.a (TL.w z (loadLoc z ag81 z (i := 1) z z) (TL.w z (lenC z underlying81 z) (TL.i z z (TL.en (TC.block (TC.loopG (α := (Nat × Sy) × (Res × Store)) (rgs [(3, 2), (7, 11)]) (fun g => [(7, .int .i64 ((g.1.1 : Nat) : Int))]) (fun g => [Res.cells b1_0 #[.slice a1_1 x1.length c1_2] Eb1, g.2.1]) (fun g => g.2.2) (fun g => iter (fun q : Nat × Sy => dfa_classes_1_b1 x1 Y q.1 q.2) g.1 = some r ∧ YR Z g.1.2 g.2.2 g.2.1 ∧ Store.le σ g.2.2) (fun g => rounds (fun q : Nat × Sy => dfa_classes_1_b1 x1 Y q.1 q.2) g.1) ((0, s0), (ry0, σ)) (Sub.f [1] 2) z (by repeat (first | exact trivial | refine ⟨z, ?_⟩)) ⟨hh, hys, (Store.le.refl _)⟩ (fun g1 j1 hg1 => ?_))))))))
 obtain ⟨⟨k111, s112⟩, ⟨ry113, τ115⟩⟩ := g1
 obtain ⟨hh, hy114, hle116⟩ := hg1
 try dsimp only at hy114
 dsimp only at hle116
 replace f1_3 := f1_3.mono hle116
 try dsimp only
 obtain ⟨z1, hh, hR1⟩ := iter_e hh
 dsimp only [dfa_classes_1_b1] at hh
 skip
 refine TC.a (TL.w z (OpVal.lss z z z) (TL.en (TC.seq (TC.cD z hh (fun h117 hh => ?_) (fun h117 hh => ?_)))))
 ·refine TC.skip (S.n (TC.seq (TC.block (TC.a (TL.i z z (TL.w z (indexN z underlying81 sz58 z z f1_3.rv.sl (by omega)) (TL.w z (loadSA BSet.zero z ag58 sz58 z f1_3 (by omega) (by omega)) (TL.op z (OpOk.alloc z ze58 z z (fun b118 => ?_))))))))))
  refine TL.i z z (TL.op z (storeAll z sz58 z z z z z z ?_))
  refine TL.en (TC.a (TL.w z (OpVal.mv (.inl z)) (TL.i z z (TL.w z (loadAll z ag58 sz58 z (i := 0) z z) ?_))))
  obtain ⟨v14, u14, hh⟩ := bnd_e hh
  refine TL.front 2 z z (TL.op z (callY hY hy114 u14 z z z z z z ?_))
  rintro τ120 ry120 hle120 hy120
  refine TL.w z (OpVal.not z z) (TL.en (TC.cB z hh (fun h121 hh => ?_) (fun h121 hh => ?_)))
  ·refine TC.ofSub (Sub.f [2, 1] 2) (TC.ret (B.r (S.r (S.r ?_))))
   replace hh := fin_x hR1 hh
   refine B.r ?_
   obtain rfl := so hh
   refine ⟨_, Sub.f [1, 1] 2, ?_⟩
   exact ro [ry120, Res.cells b1_0 #[.slice a1_1 x1.length c1_2] Eb1] z RVs.nil ⟨_, _, z, hy120, z⟩
  ·refine TC.skip (B.n (S.n (TC.region (TL.w z (OpVal.succ z z z (by omega)) (TL.i z z (TL.en ?_))))))
   obtain ⟨hh, hlt122⟩ := nxt_x hR1 hh
   exact lf (((k111 + 1), v14.1), (ry120, τ120)) hlt122 ⟨hh, hy120, (hle116.trans hle120)⟩ (Sub.f [2] 2)
 ·refine TC.exit (S.x (S.x ?_))
  replace hh := fin_x hR1 hh
  refine TC.exitHere ?_
  obtain rfl := so hh
  refine ⟨_, Sub.f [1] 2, ?_⟩
  exact RetOk.mk' (rs := []) [ry113, Res.cells b1_0 #[.slice a1_1 x1.length c1_2] Eb1] z (.inr z) RVs.nil (List.sublist_append_left _ _) ⟨_, _, z, hy114, z⟩

noncomputable def dfa_classes (x0 : List BSet) : Option ((List BSet)) :=
 some x0
theorem dfa_classes_con {σ : Store} {x0 : List BSet} {a0_0 : Option Addr} {c0_0 : Nat} (f0_0 : RS σ 4 encSet (.slice a0_0 x0.length c0_0) x0) {r : (List BSet)} (hh : dfa_classes x0 = some r) :
  Con Tryz.prog 56 #[.slice a0_0 x0.length c0_0] σ [] (fun v σ' H' => ∃ (br4 : Nat), ∃ (ar1 : Option Addr), ∃ (cr2 : Nat), v = .func (.func 76) #[] #[loc br4 0] ∧ RS σ' 4 encSet (.slice ar1 r.length cr2) r ∧ H' = [Res.cells br4 #[.slice ar1 r.length cr2] 81]) := by
 dsimp only [dfa_classes] at hh
 have f0_0b := f0_0.rv.big
 refine Con.mk (n := 4) Tryz.func56 z z z (fun w0 => ?_)
 refine TC.a (TL.op z (OpOk.box z z z z (fun b103 => ?_)))
 refine TL.w z (OpVal.mv (.inr z)) (TL.en (TC.a (TL.w z (makeFn z) (TL.w z (moveFn (.inr z) z) (TL.en (TC.ret ?_))))))
 obtain rfl := so hh
 exact ro [Res.cells b103 #[.slice a0_0 x0.length c0_0] 81] z (RVs.tmp z RVs.nil) ⟨b103, a0_0, c0_0, z, f0_0, z⟩

end Go.Proofs.YtcfjjckencjjeaaGreatDoor
end

/- Data2 -/
section
/- More plain data, and how they lie in cells. No program, no condition. -/
set_option linter.unusedVariables false
set_option linter.unusedSimpArgs false
namespace Go.E
open Go

structure Tip where
  state : Int
  out : List UInt8
  deriving DecidableEq
def Tip.zero : Tip := ⟨0, []⟩
def encTip (x : Tip) : List Value := [.int .i64 x.state, .string (bs x.out)]
theorem encTip_len (x : Tip) : (encTip x).length = 2 := rfl
theorem encTip_one : ∀ x, ∀ u ∈ encTip x, u.oneCell' = true := fun x u hu => by
  simp [encTip] at hu
  rcases hu with rfl | rfl <;> rfl
structure Arc where
  frm : Int
  to : Int
  set : BSet
  out : List UInt8
  copy : Bool
  deriving DecidableEq
def Arc.zero : Arc := ⟨0, 0, BSet.zero, [], false⟩
def encArc (x : Arc) : List Value := [.int .i64 x.frm, .int .i64 x.to, .int .u64 ((x.set.a : Nat) : Int), .int .u64 ((x.set.b : Nat) : Int), .int .u64 ((x.set.c : Nat) : Int), .int .u64 ((x.set.d : Nat) : Int), .string (bs x.out), .bool x.copy]
theorem encArc_len (x : Arc) : (encArc x).length = 8 := rfl
theorem encArc_one : ∀ x, ∀ u ∈ encArc x, u.oneCell' = true := fun x u hu => by
  simp [encArc] at hu
  rcases hu with rfl | rfl | rfl | rfl | rfl | rfl | rfl | rfl <;> rfl
structure FPair where
  state : Int
  out : List UInt8
  deriving DecidableEq
def FPair.zero : FPair := ⟨0, []⟩
def encFPair (x : FPair) : List Value := [.int .i64 x.state, .string (bs x.out)]
theorem encFPair_bits : ∀ x, ∀ u ∈ encFPair x, Bits u := fun x u hu => by
  simp [encFPair] at hu
  rcases hu with rfl | rfl <;> first | exact Bits.int _ _ | exact Bits.str _ | exact Bits.bool _
structure Span where
  frm : Int
  to : Int
  deriving DecidableEq
def Span.zero : Span := ⟨0, 0⟩
/-- A transducer. -/
structure Fst where
  states : Int
  starts : List Tip
  ends : List Tip
  arcs : List Arc
  deriving DecidableEq
def Fst.zero : Fst := ⟨0, [], [], []⟩
end Go.E
end

/- F1 -/
section
/- Decompiled: what a transducer relates. -/
set_option linter.unusedVariables false
set_option linter.unusedSimpArgs false
namespace Go.Proofs.YtcfjjckencjjeaaGreatDoor
open Go Go.E Go.E.OpVal Go.E.OpOk Go.Proofs.Tryz
set_option maxRecDepth 100000
private theorem ag28 : Go.E.aggOf Tryz.prog 28 = some false := by kernel_rfl
private theorem ag29 : Go.E.aggOf Tryz.prog 29 = some false := by kernel_rfl
private theorem ag60 : Go.E.aggOf Tryz.prog 60 = some true := by kernel_rfl
private theorem ag62 : Go.E.aggOf Tryz.prog 62 = some true := by kernel_rfl
private theorem ag9 : Go.E.aggOf Tryz.prog 9 = some false := by kernel_rfl
private theorem fo31_0 : Go.E.foOf Tryz.prog 31 0 = some 0 := by kernel_rfl
private theorem fo31_1 : Go.E.foOf Tryz.prog 31 1 = some 1 := by kernel_rfl
private theorem fo31_2 : Go.E.foOf Tryz.prog 31 2 = some 2 := by kernel_rfl
private theorem fo31_3 : Go.E.foOf Tryz.prog 31 3 = some 3 := by kernel_rfl
private theorem fo60_0 : Go.E.foOf Tryz.prog 60 0 = some 0 := by kernel_rfl
private theorem fo60_1 : Go.E.foOf Tryz.prog 60 1 = some 1 := by kernel_rfl
private theorem fo60_2 : Go.E.foOf Tryz.prog 60 2 = some 2 := by kernel_rfl
private theorem fo60_3 : Go.E.foOf Tryz.prog 60 3 = some 6 := by kernel_rfl
private theorem fo60_4 : Go.E.foOf Tryz.prog 60 4 = some 7 := by kernel_rfl
private theorem fo62_0 : Go.E.foOf Tryz.prog 62 0 = some 0 := by kernel_rfl
private theorem fo62_1 : Go.E.foOf Tryz.prog 62 1 = some 1 := by kernel_rfl
private theorem fo99_0 : Go.E.foOf Tryz.prog 99 0 = some 0 := by kernel_rfl
private theorem fo99_1 : Go.E.foOf Tryz.prog 99 1 = some 1 := by kernel_rfl
private theorem es99 (x y : FPair) : Go.E.EqAt Tryz.prog 2 99 (.agg (Go.E.encFPair x).toArray) (.agg (Go.E.encFPair y).toArray) (decide (x = y)) :=
 (EqAt.struct (ts := [(false, 3, 0), (false, 9, 1)]) (by kernel_rfl) (by kernel_rfl) (by kernel_rfl) (EqC.one (by kernel_rfl) rfl rfl (EqAt.int underlying3 x.state y.state) (EqC.one (by kernel_rfl) rfl rfl (EqAt.str underlying9 x.out y.out) EqC.nil))).of (by rw [Bool.eq_iff_iff]; cases x; cases y; simp)
private theorem kl99 : Go.E.KeyL Tryz.prog 99 (fun x => Value.agg (Go.E.encFPair x).toArray) :=
 KeyL.struct underlying99 es99 rfl (fun x => CkAt.struct (n := 1) (ts := [(false, 3, 0), (false, 9, 1)]) (by kernel_rfl) (by kernel_rfl) (CkC.one (by kernel_rfl) rfl (CkAt.int underlying3 _) (CkC.one (by kernel_rfl) rfl (CkAt.str underlying9 _) CkC.nil))) rfl encFPair_bits
private theorem pf52 : Go.E.plainF Tryz.prog 52 = true := by kernel_rfl
private theorem pf53 : Go.E.plainF Tryz.prog 53 = true := by kernel_rfl
private theorem pf78 : Go.E.plainF Tryz.prog 78 = true := by kernel_rfl
private theorem pl97 : Go.E.plOf Tryz.prog 97 = some #[] := by kernel_rfl
private theorem pl99 : Go.E.plOf Tryz.prog 99 = some #[(0, 1), (1, 1)] := by kernel_rfl
private theorem sz29 : Go.E.szOf Tryz.prog 29 = some 1 := by kernel_rfl
private theorem sz60 : Go.E.szOf Tryz.prog 60 = some 8 := by kernel_rfl
private theorem sz62 : Go.E.szOf Tryz.prog 62 = some 2 := by kernel_rfl
private theorem sz99 : Go.E.szOf Tryz.prog 99 = some 2 := by kernel_rfl
private theorem ze60 : Go.E.zeroOf Tryz.prog 60 = some (.agg #[.int .i64 0, .int .i64 0, .int .u64 0, .int .u64 0, .int .u64 0, .int .u64 0, .string ByteArray.empty, .bool false]) := by kernel_rfl
private theorem ze62 : Go.E.zeroOf Tryz.prog 62 = some (.agg #[.int .i64 0, .string ByteArray.empty]) := by kernel_rfl
private theorem ze97 : Go.E.zeroOf Tryz.prog 97 = some (.agg #[]) := by kernel_rfl
private theorem ze99 : Go.E.zeroOf Tryz.prog 99 = some (.agg #[.int .i64 0, .string ByteArray.empty]) := by kernel_rfl

noncomputable def fst_state (x0 : Int) (x1 : Int) : Option (Bool) :=
 iteO (decide (0 ≤ x0)) (some (decide (x0 < x1))) (some false)
theorem fst_state_con {σ : Store} {x0 : Int} {x1 : Int}  {r : Bool} (hh : fst_state x0 x1 = some r) :
  Con Tryz.prog 53 #[.int .i64 x0, .int .i64 x1] σ [] (PureP (.bool r) σ) := by
 dsimp only [fst_state] at hh
 refine Con.mk (n := 12) Tryz.func53 z z z (fun w0 => ?_)
 refine TC.a (TL.j z z (TL.en (TC.a (TL.i z z (TL.w z (OpVal.leq z z z) (TL.j z z (TL.split 7 z (fun h101 => ?_) (fun h101 => ?_))))))))
 ·replace hh := iteO_t h101 hh
  replace h101 := of_decide_eq_true h101
  refine TL.g z (moveI (.inl z) z) (TL.g z (moveI (.inl z) z) (TL.g z (OpVal.lss z z z) (TL.w z (pickTB z z z) (TL.j z z (TL.en (TC.ret ?_))))))
  obtain rfl := so hh
  exact rq [4] ⟨z, z, z⟩
 ·replace hh := iteO_f h101 hh
  replace h101 := of_decide_eq_false h101
  refine TL.f z (TL.f z (TL.f z (TL.w z (pickFB z z z) (TL.j z z (TL.en (TC.ret ?_))))))
  obtain rfl := so hh
  exact rq [4] ⟨z, z, z⟩

noncomputable def fst_rightTips_b1 (x0 : List Tip) (x1 : Int) (k104 : Nat) : Option ((Nat) ⊕ (Bool)) :=
 iteO (decide (((k104 : Nat) : Int) < ((x0.length : Nat) : Int))) (bnd (fst_state ((nth x0 k104 Tip.zero).state) x1) (fun v17 => iteO (!v17) (fin (some false)) (iteO (decide (1024 < ((((nth x0 k104 Tip.zero).out).length : Nat) : Int))) (fin (some false)) (nxt (k104 + 1))))) (fin (some true))
noncomputable def fst_rightTips (x0 : List Tip) (x1 : Int) : Option (Bool) :=
 iteO (decide (1024 < ((x0.length : Nat) : Int))) (some false) (iter (fun q : Nat => fst_rightTips_b1 x0 x1 q) 0)
theorem fst_rightTips_con {σ : Store} {x0 : List Tip} {a0_0 : Option Addr} {c0_0 : Nat} {x1 : Int} (f0_0 : RS σ 2 encTip (.slice a0_0 x0.length c0_0) x0) {r : Bool} (hh : fst_rightTips x0 x1 = some r) :
  Con Tryz.prog 52 #[.slice a0_0 x0.length c0_0, .int .i64 x1] σ [] (PureP (.bool r) σ) := by
 dsimp only [fst_rightTips] at hh
 have f0_0b := f0_0.rv.big
 refine Con.mk (n := 28) Tryz.func52 z z z (fun w0 => ?_)
 refine TC.a (TL.j z z (TL.en (TC.seq (TC.a (TL.s z z (TL.w z (lenC z underlying28 z) (TL.w z (OpVal.gtr z z z) (TL.en (TC.cD z hh (fun h101 hh => ?_) (fun h101 hh => ?_))))))))))
 ·refine TC.a (TL.j z z (TL.en (TC.ret (S.r ?_))))
  obtain rfl := so hh
  exact rq [4] ⟨z, z, z⟩
 ·refine TC.skip (S.n (TC.seq (TC.a (TL.s z z (TL.w z (lenC z underlying28 z) (TL.i z z (TL.en (TC.block (TC.loopG (α := (Nat) × (Unit)) (rgs [(4, 1), (6, 1), (12, 16)]) (fun g => [(12, .int .i64 ((g.1 : Nat) : Int))]) (fun g => []) (fun g => σ) (fun g => iter (fun q : Nat => fst_rightTips_b1 x0 x1 q) g.1 = some r) (fun g => rounds (fun q : Nat => fst_rightTips_b1 x0 x1 q) g.1) (0, ()) (Sub.pre 0 z) z (by repeat (first | exact trivial | refine ⟨z, ?_⟩)) hh (fun g1 j1 hg1 => ?_))))))))))
  obtain ⟨k104, _⟩ := g1
  have hh := hg1; clear hg1
  try dsimp only
  obtain ⟨z1, hh, hR1⟩ := iter_e hh
  dsimp only [fst_rightTips_b1] at hh
  refine TC.a (TL.w z (OpVal.lss z z z) (TL.en (TC.seq (TC.cD z hh (fun h105 hh => ?_) (fun h105 hh => ?_)))))
  ·refine TC.skip (S.n (TC.seq (TC.block (TC.a (TL.w z (indexN z underlying28 sz62 z z f0_0.rv.sl (by omega)) (TL.w z (loadSA Tip.zero z ag62 sz62 z f0_0 (by omega) (by omega)) (TL.op z (OpOk.alloc z ze62 z z (fun b106 => ?_)))))))))
   refine TL.op z (storeAll z sz62 z z z z z z ?_)
   refine TL.en (TC.a (TL.w z (fieldLoc z fo62_0 z) (TL.w z (loadLoc z ag3 z (i := 0) z z) (TL.i z z ?_))))
   obtain ⟨v17, u17, hh⟩ := bnd_e hh
   refine TL.op z (callP (fst_state_con u17) z z pf53 z z z ?_)
   refine TL.w z (OpVal.not z z) (TL.j z z (TL.split 21 z (fun h108 => ?_) (fun h108 => ?_)))
   ·replace hh := iteO_t h108 hh
    refine TL.f z (TL.f z (TL.f z (TL.f z (TL.w z (pickTB z z z) (TL.en (TC.t z (TC.a (TL.j z z (TL.en (TC.rt 0 (B.r (S.r (S.r ?_)))))))))))))
    replace hh := fin_x hR1 hh
    refine B.r (S.r ?_)
    obtain rfl := so hh
    exact rq [4] ⟨z, z, z⟩
   ·replace hh := iteO_f h108 hh
    refine TL.g z (fieldLoc z fo62_1 z) (TL.g z (loadLoc z ag9 z (i := 0) z z) (TL.g z (lenBs z underlying9 z) (TL.g z (OpVal.gtr z z z) (TL.w z (pickFB z z z) (TL.en (TC.cD z hh (fun h109 hh => ?_) (fun h109 hh => ?_)))))))
    ·refine TC.a (TL.j z z (TL.en (TC.rt 0 (B.r (S.r (S.r ?_))))))
     replace hh := fin_x hR1 hh
     refine B.r (S.r ?_)
     obtain rfl := so hh
     exact rq [4] ⟨z, z, z⟩
    ·refine TC.skip (B.n (S.n (TC.region (TL.w z (OpVal.succ z z z (by omega)) (TL.i z z (TL.en ?_))))))
     obtain ⟨hh, hlt110⟩ := nxt_x hR1 hh
     exact lf ((k104 + 1), ()) hlt110 hh (Sub.pre 0 z)
  ·refine TC.exit (S.x (S.x ?_))
   replace hh := fin_x hR1 hh
   refine TC.exitHere (S.n (TC.a (TL.j z z (TL.en (TC.ret ?_)))))
   obtain rfl := so hh
   exact rq [4] ⟨z, z, z⟩

noncomputable def fst_Check_b1 (x0 : Fst) (k110 : Nat) : Option ((Nat) ⊕ (Int)) :=
 iteO (decide (((k110 : Nat) : Int) < ((x0.arcs.length : Nat) : Int))) (bnd (fst_state ((nth x0.arcs k110 Arc.zero).frm) x0.states) (fun v46 => iteO (!v46) (fin (some 1)) (bnd (fst_state ((nth x0.arcs k110 Arc.zero).to) x0.states) (fun v53 => iteO (!v53) (fin (some 1)) (iteO (decide ((nth x0.arcs k110 Arc.zero).set = BSet.zero)) (fin (some 1)) (iteO (decide (1024 < ((((nth x0.arcs k110 Arc.zero).out).length : Nat) : Int))) (fin (some 1)) (nxt (k110 + 1)))))))) (fin (some 0))
noncomputable def fst_Check (x0 : Fst) : Option (Int) :=
 iteO (decide (x0.states < 0)) (some 1) (iteO (decide (1024 < x0.states)) (some 1) (iteO (decide (16384 < ((x0.arcs.length : Nat) : Int))) (some 1) (bnd (fst_rightTips x0.starts x0.states) (fun v22 => iteO (!v22) (some 1) (bnd (fst_rightTips x0.ends x0.states) (fun v29 => iteO (!v29) (some 1) (iter (fun q : Nat => fst_Check_b1 x0 q) 0)))))))
theorem fst_Check_con {σ : Store} {x0 : Fst} {a0_0 : Option Addr} {c0_0 : Nat} {a0_1 : Option Addr} {c0_1 : Nat} {a0_2 : Option Addr} {c0_2 : Nat} (f0_0 : RS σ 2 encTip (.slice a0_0 x0.starts.length c0_0) x0.starts) (f0_1 : RS σ 2 encTip (.slice a0_1 x0.ends.length c0_1) x0.ends) (f0_2 : RS σ 8 encArc (.slice a0_2 x0.arcs.length c0_2) x0.arcs) {r : Int} (hh : fst_Check x0 = some r) :
  Con Tryz.prog 28 #[.agg #[.int .i64 x0.states, .slice a0_0 x0.starts.length c0_0, .slice a0_1 x0.ends.length c0_1, .slice a0_2 x0.arcs.length c0_2]] σ [] (PureP (.int .i64 r) σ) := by
 dsimp only [fst_Check] at hh
 have f0_0b := f0_0.rv.big
 have f0_1b := f0_1.rv.big
 have f0_2b := f0_2.rv.big
 refine Con.mk (n := 67) Tryz.func28 z z z (fun w0 => ?_)
 refine TC.a (TL.op z (boxA z z z z (fun b101 => ?_)))
 refine TL.i z z (TL.en (TC.seq (TC.a (TL.w z (fieldLoc z fo31_0 z) (TL.w z (loadLoc z ag3 z (i := 0) z z) (TL.w z (OpVal.lss z z z) (TL.j z z (TL.split 8 z (fun h103 => ?_) (fun h103 => ?_)))))))))
 ·replace hh := iteO_t h103 hh
  replace h103 := of_decide_eq_true h103
  refine TL.f z (TL.f z (TL.f z (TL.w z (pickTB z z z) (TL.j z z (TL.f z (TL.f z (TL.f z (TL.f z (TL.w z (pickTB z z z) (TL.en (TC.t z (TC.a (TL.i z z (TL.en (TC.rt 0 ?_)))))))))))))))
  refine S.r ?_
  obtain rfl := so hh
  exact rq [2] ⟨z, z, z⟩
 ·replace hh := iteO_f h103 hh
  replace h103 := of_decide_eq_false h103
  refine TL.g z (fieldLoc z fo31_0 z) (TL.g z (loadLoc z ag3 z (i := 0) z z) (TL.g z (OpVal.gtr z z z) (TL.w z (pickFB z z z) (TL.j z z (TL.split 13 z (fun h104 => ?_) (fun h104 => ?_))))))
  ·replace hh := iteO_t h104 hh
   replace h104 := of_decide_eq_true h104
   refine TL.f z (TL.f z (TL.f z (TL.f z (TL.w z (pickTB z z z) (TL.en (TC.t z (TC.a (TL.i z z (TL.en (TC.rt 0 (S.r ?_)))))))))))
   obtain rfl := so hh
   exact rq [2] ⟨z, z, z⟩
  ·replace hh := iteO_f h104 hh
   replace h104 := of_decide_eq_false h104
   refine TL.g z (fieldLoc z fo31_3 z) (TL.g z (loadLoc z ag29 z (i := 0) z z) (TL.g z (lenC z underlying29 z) (TL.g z (OpVal.gtr z z z) (TL.w z (pickFB z z z) (TL.en (TC.cD z hh (fun h105 hh => ?_) (fun h105 hh => ?_)))))))
   ·refine TC.a (TL.i z z (TL.en (TC.rt 0 (S.r ?_))))
    obtain rfl := so hh
    exact rq [2] ⟨z, z, z⟩
   ·refine TC.skip (S.n (TC.seq (TC.a (TL.w z (fieldLoc z fo31_1 z) (TL.w z (loadLoc z ag28 z (i := 0) z z) (TL.w z (fieldLoc z fo31_0 z) (TL.w z (loadLoc z ag3 z (i := 0) z z) ?_)))))))
    obtain ⟨v22, u22, hh⟩ := bnd_e hh
    refine TL.op z (callP (fst_rightTips_con f0_0 u22) z z pf52 z z z ?_)
    refine TL.w z (OpVal.not z z) (TL.j z z (TL.split 25 z (fun h106 => ?_) (fun h106 => ?_)))
    ·replace hh := iteO_t h106 hh
     refine TL.f z (TL.f z (TL.f z (TL.f z (TL.f z (TL.f z (TL.w z (pickTB z z z) (TL.en (TC.t z (TC.a (TL.i z z (TL.en (TC.rt 0 (S.r ?_)))))))))))))
     obtain rfl := so hh
     exact rq [2] ⟨z, z, z⟩
    ·replace hh := iteO_f h106 hh
     refine TL.g z (fieldLoc z fo31_2 z) (TL.g z (loadLoc z ag28 z (i := 0) z z) (TL.g z (fieldLoc z fo31_0 z) (TL.g z (loadLoc z ag3 z (i := 0) z z) ?_)))
     obtain ⟨v29, u29, hh⟩ := bnd_e hh
     refine TL.gon z z z z z (callP (fst_rightTips_con f0_1 u29) z z pf52 z z z ?_)
     refine TL.g z (OpVal.not z z) (TL.w z (pickFB z z z) (TL.en (TC.cB z hh (fun h107 hh => ?_) (fun h107 hh => ?_))))
     ·refine TC.a (TL.i z z (TL.en (TC.rt 0 (S.r ?_))))
      obtain rfl := so hh
      exact rq [2] ⟨z, z, z⟩
     ·refine TC.skip (S.n (TC.seq (TC.a (TL.w z (fieldLoc z fo31_3 z) (TL.w z (loadLoc z ag29 z (i := 0) z z) (TL.w z (lenC z underlying29 z) (TL.i z z (TL.en (TC.block (TC.loopG (α := (Nat) × (Unit)) (rgs [(2, 1), (4, 1), (36, 31)]) (fun g => [(36, .int .i64 ((g.1 : Nat) : Int))]) (fun g => [Res.cells b101 #[.int .i64 x0.states, .slice a0_0 x0.starts.length c0_0, .slice a0_1 x0.ends.length c0_1, .slice a0_2 x0.arcs.length c0_2] 31]) (fun g => σ) (fun g => iter (fun q : Nat => fst_Check_b1 x0 q) g.1 = some r) (fun g => rounds (fun q : Nat => fst_Check_b1 x0 q) g.1) (0, ()) (Sub.pre 1 z) z (by repeat (first | exact trivial | refine ⟨z, ?_⟩)) hh (fun g1 j1 hg1 => ?_)))))))))))
      obtain ⟨k110, _⟩ := g1
      have hh := hg1; clear hg1
      try dsimp only
      obtain ⟨z1, hh, hR1⟩ := iter_e hh
      dsimp only [fst_Check_b1] at hh
      refine TC.a (TL.w z (OpVal.lss z z z) (TL.en (TC.seq (TC.cD z hh (fun h111 hh => ?_) (fun h111 hh => ?_)))))
      ·refine TC.skip (S.n (TC.seq (TC.block (TC.a (TL.w z (indexN z underlying29 sz60 z z f0_2.rv.sl (by omega)) (TL.w z (loadSA Arc.zero z ag60 sz60 z f0_2 (by omega) (by omega)) (TL.op z (OpOk.alloc z ze60 z z (fun b112 => ?_)))))))))
       refine TL.op z (storeAll z sz60 z z z z z z ?_)
       refine TL.en (TC.a (TL.w z (fieldLoc z fo60_0 z) (TL.w z (loadLoc z ag3 z (i := 0) z z) (TL.w z (fieldLoc z fo31_0 z) (TL.w z (loadLoc z ag3 z (i := 1) z z) ?_)))))
       obtain ⟨v46, u46, hh⟩ := bnd_e hh
       refine TL.op z (callP (fst_state_con u46) z z pf53 z z z ?_)
       refine TL.w z (OpVal.not z z) (TL.j z z (TL.split 46 z (fun h114 => ?_) (fun h114 => ?_)))
       ·replace hh := iteO_t h114 hh
        refine TL.f z (TL.f z (TL.f z (TL.f z (TL.f z (TL.f z (TL.w z (pickTB z z z) (TL.j z z (TL.f z (TL.f z (TL.f z (TL.f z (TL.w z (pickTB z z z) (TL.j z z (TL.f z (TL.f z ?_)))))))))))))))
        refine TL.f z (TL.f z (TL.w z (pickTB z z z) (TL.en (TC.t z (TC.a (TL.i z z (TL.en (TC.rt 0 (B.r (S.r (S.r ?_)))))))))))
        replace hh := fin_x hR1 hh
        refine B.r (S.r ?_)
        obtain rfl := so hh
        exact rq [2] ⟨z, z, z⟩
       ·replace hh := iteO_f h114 hh
        refine TL.g z (fieldLoc z fo60_1 z) (TL.g z (loadLoc z ag3 z (i := 0) z z) (TL.g z (fieldLoc z fo31_0 z) (TL.g z (loadLoc z ag3 z (i := 1) z z) ?_)))
        obtain ⟨v53, u53, hh⟩ := bnd_e hh
        refine TL.gon z z z z z (callP (fst_state_con u53) z z pf53 z z z ?_)
        refine TL.g z (OpVal.not z z) (TL.w z (pickFB z z z) (TL.j z z (TL.split 54 z (fun h115 => ?_) (fun h115 => ?_))))
        ·replace hh := iteO_t h115 hh
         refine TL.f z (TL.f z (TL.f z (TL.f z (TL.w z (pickTB z z z) (TL.j z z (TL.f z (TL.f z (TL.f z (TL.f z (TL.w z (pickTB z z z) (TL.en (TC.t z (TC.a (TL.i z z (TL.en ?_)))))))))))))))
         refine TC.rt 0 (B.r (S.r (S.r ?_)))
         replace hh := fin_x hR1 hh
         refine B.r (S.r ?_)
         obtain rfl := so hh
         exact rq [2] ⟨z, z, z⟩
        ·replace hh := iteO_f h115 hh
         refine TL.g z (fieldLoc z fo60_2 z) (TL.g z (loadLocA z ag58 sz58 z (i := 0) z z z) (TL.g z (buildArrL z underlying58 sz56 ze58 z) (TL.g z (eqlSet (s := (nth x0.arcs k110 Arc.zero).set) (t := BSet.zero) z underlying58 underlying56 ag56 sz56 eg58 z z) (TL.w z (pickFB z z z) (TL.j z z (TL.split 60 z (fun h116 => ?_) (fun h116 => ?_)))))))
         ·replace hh := iteO_t h116 hh
          replace h116 := of_decide_eq_true h116
          refine TL.f z (TL.f z (TL.f z (TL.f z (TL.w z (pickTB z z z) (TL.en (TC.t z (TC.a (TL.i z z (TL.en (TC.rt 0 (B.r (S.r (S.r ?_)))))))))))))
          replace hh := fin_x hR1 hh
          refine B.r (S.r ?_)
          obtain rfl := so hh
          exact rq [2] ⟨z, z, z⟩
         ·replace hh := iteO_f h116 hh
          replace h116 := of_decide_eq_false h116
          refine TL.g z (fieldLoc z fo60_3 z) (TL.g z (loadLoc z ag9 z (i := 0) z z) (TL.g z (lenBs z underlying9 z) (TL.g z (OpVal.gtr z z z) (TL.w z (pickFB z z z) (TL.en (TC.cD z hh (fun h117 hh => ?_) (fun h117 hh => ?_)))))))
          ·refine TC.a (TL.i z z (TL.en (TC.rt 0 (B.r (S.r (S.r ?_))))))
           replace hh := fin_x hR1 hh
           refine B.r (S.r ?_)
           obtain rfl := so hh
           exact rq [2] ⟨z, z, z⟩
          ·refine TC.skip (B.n (S.n (TC.region (TL.w z (OpVal.succ z z z (by omega)) (TL.i z z (TL.en ?_))))))
           obtain ⟨hh, hlt118⟩ := nxt_x hR1 hh
           exact lf ((k110 + 1), ()) hlt118 hh (Sub.f [1] 1)
      ·refine TC.exit (S.x (S.x ?_))
       replace hh := fin_x hR1 hh
       refine TC.exitHere (S.n (TC.a (TL.i z z (TL.en (TC.rt 0 ?_)))))
       obtain rfl := so hh
       exact rq [2] ⟨z, z, z⟩

noncomputable def whittleref15_tips_b1 (x0 : List Tip) (x1 : Int) (k103 : Nat) : Option ((Nat) ⊕ (Bool)) :=
 iteO (decide (((k103 : Nat) : Int) < ((x0.length : Nat) : Int))) (iteO (decide (((nth x0 k103 Tip.zero).state) < 0)) (fin (some false)) (iteO (decide (x1 ≤ ((nth x0 k103 Tip.zero).state))) (fin (some false)) (iteO (decide (1024 < ((((nth x0 k103 Tip.zero).out).length : Nat) : Int))) (fin (some false)) (nxt (k103 + 1))))) (fin (some (decide (((x0.length : Nat) : Int) ≤ 1024))))
noncomputable def whittleref15_tips (x0 : List Tip) (x1 : Int) : Option (Bool) :=
 iter (fun q : Nat => whittleref15_tips_b1 x0 x1 q) 0
theorem whittleref15_tips_con {σ : Store} {x0 : List Tip} {a0_0 : Option Addr} {c0_0 : Nat} {x1 : Int} (f0_0 : RS σ 2 encTip (.slice a0_0 x0.length c0_0) x0) {r : Bool} (hh : whittleref15_tips x0 x1 = some r) :
  Con Tryz.prog 78 #[.slice a0_0 x0.length c0_0, .int .i64 x1] σ [] (PureP (.bool r) σ) := by
 dsimp only [whittleref15_tips] at hh
 have f0_0b := f0_0.rv.big
 refine Con.mk (n := 39) Tryz.func78 z z z (fun w0 => ?_)
 refine TC.a (TL.j z z (TL.en (TC.seq (TC.a (TL.i z z (TL.en (TC.block (TC.loopG (α := (Nat) × (Unit)) (rgs [(4, 32)]) (fun g => [(5, .int .i64 ((g.1 : Nat) : Int))]) (fun g => []) (fun g => σ) (fun g => iter (fun q : Nat => whittleref15_tips_b1 x0 x1 q) g.1 = some r) (fun g => rounds (fun q : Nat => whittleref15_tips_b1 x0 x1 q) g.1) (0, ()) (Sub.pre 0 z) z (by repeat (first | exact trivial | refine ⟨z, ?_⟩)) hh (fun g1 j1 hg1 => ?_)))))))))
 obtain ⟨k103, _⟩ := g1
 have hh := hg1; clear hg1
 try dsimp only
 obtain ⟨z1, hh, hR1⟩ := iter_e hh
 dsimp only [whittleref15_tips_b1] at hh
 refine TC.seq (TC.a (TL.i z z (TL.s z z (TL.w z (lenC z underlying28 z) (TL.w z (OpVal.lss z z z) (TL.en (TC.cD z hh (fun h104 hh => ?_) (fun h104 hh => ?_))))))))
 ·refine TC.skip (S.n (TC.seq (TC.block (TC.a (TL.s z z (TL.i z z (TL.w z (indexN z underlying28 sz62 z z f0_0.rv.sl (by omega)) (TL.w z (fieldElem z fo62_0 z f0_0.rv.sl (by omega)) (TL.w z (loadS Tip.zero z ag3 z f0_0 (by omega) (by omega) z) (TL.w z (OpVal.lss z z z) (TL.j z z (TL.split 18 z (fun h105 => ?_) (fun h105 => ?_)))))))))))))
  ·replace hh := iteO_t h105 hh
   replace h105 := of_decide_eq_true h105
   refine TL.f z (TL.f z (TL.f z (TL.f z (TL.f z (TL.f z (TL.f z (TL.w z (pickTB z z z) (TL.j z z (TL.f z (TL.f z (TL.f z (TL.f z (TL.f z (TL.f z (TL.f z ?_)))))))))))))))
   refine TL.w z (pickTB z z z) (TL.en (TC.t z (TC.a (TL.j z z (TL.en (TC.ret (B.r (S.r (S.r ?_)))))))))
   replace hh := fin_x hR1 hh
   refine B.r (S.r ?_)
   obtain rfl := so hh
   exact rq [4] ⟨z, z, z⟩
  ·replace hh := iteO_f h105 hh
   replace h105 := of_decide_eq_false h105
   refine TL.g z (moveSl (.inl z) z) (TL.g z (moveI (.inl z) z) (TL.g z (indexN z underlying28 sz62 z z f0_0.rv.sl (by omega)) (TL.g z (fieldElem z fo62_0 z f0_0.rv.sl (by omega)) (TL.g z (loadS Tip.zero z ag3 z f0_0 (by omega) (by omega) z) (TL.g z (moveI (.inl z) z) (TL.g z (OpVal.geq z z z) (TL.w z (pickFB z z z) (TL.j z z (TL.split 27 z (fun h106 => ?_) (fun h106 => ?_))))))))))
   ·replace hh := iteO_t h106 hh
    replace h106 := of_decide_eq_true h106
    refine TL.f z (TL.f z (TL.f z (TL.f z (TL.f z (TL.f z (TL.f z (TL.w z (pickTB z z z) (TL.en (TC.t z (TC.a (TL.j z z (TL.en (TC.ret (B.r (S.r ?_)))))))))))))))
    refine S.r ?_
    replace hh := fin_x hR1 hh
    refine B.r (S.r ?_)
    obtain rfl := so hh
    exact rq [4] ⟨z, z, z⟩
   ·replace hh := iteO_f h106 hh
    replace h106 := of_decide_eq_false h106
    refine TL.g z (moveSl (.inl z) z) (TL.g z (moveI (.inl z) z) (TL.g z (indexN z underlying28 sz62 z z f0_0.rv.sl (by omega)) (TL.g z (fieldElem z fo62_1 z f0_0.rv.sl (by omega)) (TL.g z (loadS Tip.zero z ag9 z f0_0 (by omega) (by omega) z) (TL.g z (lenBs z underlying9 z) (TL.g z (OpVal.gtr z z z) (TL.w z (pickFB z z z) (TL.en (TC.cD z hh (fun h107 hh => ?_) (fun h107 hh => ?_))))))))))
    ·refine TC.a (TL.j z z (TL.en (TC.ret (B.r (S.r (S.r ?_))))))
     replace hh := fin_x hR1 hh
     refine B.r (S.r ?_)
     obtain rfl := so hh
     exact rq [4] ⟨z, z, z⟩
    ·refine TC.skip (B.n (S.n (TC.region (TL.i z z (TL.w z (OpVal.succ z z z (by omega)) (TL.i z z (TL.en ?_)))))))
     obtain ⟨hh, hlt108⟩ := nxt_x hR1 hh
     exact lf ((k103 + 1), ()) hlt108 hh (Sub.pre 0 z)
 ·refine TC.exit (S.x (S.x ?_))
  replace hh := fin_x hR1 hh
  refine TC.exitHere (S.n (TC.a (TL.s z z (TL.w z (lenC z underlying28 z) (TL.w z (OpVal.leq z z z) (TL.j z z (TL.en (TC.ret ?_))))))))
  obtain rfl := so hh
  exact rq [4] ⟨z, z, z⟩

noncomputable def whittleref15_Right_b1 (x0 : Fst) (k110 : Nat) : Option ((Nat) ⊕ (Bool)) :=
 iteO (decide (((k110 : Nat) : Int) < ((x0.arcs.length : Nat) : Int))) (iteO (decide (((nth x0.arcs k110 Arc.zero).frm) < 0)) (fin (some false)) (iteO (decide (x0.states ≤ ((nth x0.arcs k110 Arc.zero).frm))) (fin (some false)) (iteO (decide (((nth x0.arcs k110 Arc.zero).to) < 0)) (fin (some false)) (iteO (decide (x0.states ≤ ((nth x0.arcs k110 Arc.zero).to))) (fin (some false)) (iteO (decide ((nth x0.arcs k110 Arc.zero).set = BSet.zero)) (fin (some false)) (iteO (decide (1024 < ((((nth x0.arcs k110 Arc.zero).out).length : Nat) : Int))) (fin (some false)) (nxt (k110 + 1)))))))) (fin (some true))
noncomputable def whittleref15_Right (x0 : Fst) : Option (Bool) :=
 iteO (decide (x0.states < 0)) (some false) (iteO (decide (1024 < x0.states)) (some false) (bnd (whittleref15_tips x0.starts x0.states) (fun v16 => iteO (!v16) (some false) (bnd (whittleref15_tips x0.ends x0.states) (fun v24 => iteO (!v24) (some false) (iteO (decide (16384 < ((x0.arcs.length : Nat) : Int))) (some false) (iter (fun q : Nat => whittleref15_Right_b1 x0 q) 0)))))))
theorem whittleref15_Right_con {σ : Store} {x0 : Fst} {a0_0 : Option Addr} {c0_0 : Nat} {a0_1 : Option Addr} {c0_1 : Nat} {a0_2 : Option Addr} {c0_2 : Nat} (f0_0 : RS σ 2 encTip (.slice a0_0 x0.starts.length c0_0) x0.starts) (f0_1 : RS σ 2 encTip (.slice a0_1 x0.ends.length c0_1) x0.ends) (f0_2 : RS σ 8 encArc (.slice a0_2 x0.arcs.length c0_2) x0.arcs) {r : Bool} (hh : whittleref15_Right x0 = some r) :
  Con Tryz.prog 59 #[.agg #[.int .i64 x0.states, .slice a0_0 x0.starts.length c0_0, .slice a0_1 x0.ends.length c0_1, .slice a0_2 x0.arcs.length c0_2]] σ [] (PureP (.bool r) σ) := by
 dsimp only [whittleref15_Right] at hh
 have f0_0b := f0_0.rv.big
 have f0_1b := f0_1.rv.big
 have f0_2b := f0_2.rv.big
 refine Con.mk (n := 81) Tryz.func59 z z z (fun w0 => ?_)
 refine TC.a (TL.op z (boxA z z z z (fun b101 => ?_)))
 refine TL.j z z (TL.en (TC.seq (TC.a (TL.w z (fieldLoc z fo31_0 z) (TL.w z (loadLoc z ag3 z (i := 0) z z) (TL.w z (OpVal.lss z z z) (TL.j z z (TL.split 8 z (fun h103 => ?_) (fun h103 => ?_)))))))))
 ·replace hh := iteO_t h103 hh
  replace h103 := of_decide_eq_true h103
  refine TL.f z (TL.f z (TL.f z (TL.w z (pickTB z z z) (TL.j z z (TL.f z (TL.f z (TL.f z (TL.f z (TL.f z (TL.f z (TL.w z (pickTB z z z) (TL.j z z (TL.f z (TL.f z (TL.f z ?_)))))))))))))))
  refine TL.f z (TL.f z (TL.f z (TL.w z (pickTB z z z) (TL.j z z (TL.f z (TL.f z (TL.f z (TL.f z (TL.w z (pickTB z z z) (TL.en (TC.t z (TC.a (TL.j z z (TL.en (TC.rt 0 ?_)))))))))))))))
  refine S.r ?_
  obtain rfl := so hh
  exact rq [2] ⟨z, z, z⟩
 ·replace hh := iteO_f h103 hh
  replace h103 := of_decide_eq_false h103
  refine TL.g z (fieldLoc z fo31_0 z) (TL.g z (loadLoc z ag3 z (i := 0) z z) (TL.g z (OpVal.gtr z z z) (TL.w z (pickFB z z z) (TL.j z z (TL.split 13 z (fun h104 => ?_) (fun h104 => ?_))))))
  ·replace hh := iteO_t h104 hh
   replace h104 := of_decide_eq_true h104
   refine TL.f z (TL.f z (TL.f z (TL.f z (TL.f z (TL.f z (TL.w z (pickTB z z z) (TL.j z z (TL.f z (TL.f z (TL.f z (TL.f z (TL.f z (TL.f z (TL.w z (pickTB z z z) (TL.j z z ?_)))))))))))))))
   refine TL.f z (TL.f z (TL.f z (TL.f z (TL.w z (pickTB z z z) (TL.en (TC.t z (TC.a (TL.j z z (TL.en (TC.rt 0 (S.r ?_)))))))))))
   obtain rfl := so hh
   exact rq [2] ⟨z, z, z⟩
  ·replace hh := iteO_f h104 hh
   replace h104 := of_decide_eq_false h104
   refine TL.g z (fieldLoc z fo31_1 z) (TL.g z (loadLoc z ag28 z (i := 0) z z) (TL.g z (fieldLoc z fo31_0 z) (TL.g z (loadLoc z ag3 z (i := 0) z z) ?_)))
   obtain ⟨v16, u16, hh⟩ := bnd_e hh
   refine TL.gon z z z z z (callP (whittleref15_tips_con f0_0 u16) z z pf78 z z z ?_)
   refine TL.g z (OpVal.not z z) (TL.w z (pickFB z z z) (TL.j z z (TL.split 21 z (fun h105 => ?_) (fun h105 => ?_))))
   ·replace hh := iteO_t h105 hh
    refine TL.f z (TL.f z (TL.f z (TL.f z (TL.f z (TL.f z (TL.w z (pickTB z z z) (TL.j z z (TL.f z (TL.f z (TL.f z (TL.f z (TL.w z (pickTB z z z) (TL.en (TC.t z (TC.a ?_)))))))))))))))
    refine TL.j z z (TL.en (TC.rt 0 (S.r ?_)))
    obtain rfl := so hh
    exact rq [2] ⟨z, z, z⟩
   ·replace hh := iteO_f h105 hh
    refine TL.g z (fieldLoc z fo31_2 z) (TL.g z (loadLoc z ag28 z (i := 0) z z) (TL.g z (fieldLoc z fo31_0 z) (TL.g z (loadLoc z ag3 z (i := 0) z z) ?_)))
    obtain ⟨v24, u24, hh⟩ := bnd_e hh
    refine TL.gon z z z z z (callP (whittleref15_tips_con f0_1 u24) z z pf78 z z z ?_)
    refine TL.g z (OpVal.not z z) (TL.w z (pickFB z z z) (TL.j z z (TL.split 29 z (fun h106 => ?_) (fun h106 => ?_))))
    ·replace hh := iteO_t h106 hh
     refine TL.f z (TL.f z (TL.f z (TL.f z (TL.w z (pickTB z z z) (TL.en (TC.t z (TC.a (TL.j z z (TL.en (TC.rt 0 (S.r ?_)))))))))))
     obtain rfl := so hh
     exact rq [2] ⟨z, z, z⟩
    ·replace hh := iteO_f h106 hh
     refine TL.g z (fieldLoc z fo31_3 z) (TL.g z (loadLoc z ag29 z (i := 0) z z) (TL.g z (lenC z underlying29 z) (TL.g z (OpVal.gtr z z z) (TL.w z (pickFB z z z) (TL.en (TC.cD z hh (fun h107 hh => ?_) (fun h107 hh => ?_)))))))
     ·refine TC.a (TL.j z z (TL.en (TC.rt 0 (S.r ?_))))
      obtain rfl := so hh
      exact rq [2] ⟨z, z, z⟩
     ·refine TC.skip (S.n (TC.seq (TC.a (TL.i z z (TL.en (TC.block (TC.loopG (α := (Nat) × (Unit)) (rgs [(2, 3), (35, 46)]) (fun g => [(3, .int .i64 ((g.1 : Nat) : Int))]) (fun g => [Res.cells b101 #[.int .i64 x0.states, .slice a0_0 x0.starts.length c0_0, .slice a0_1 x0.ends.length c0_1, .slice a0_2 x0.arcs.length c0_2] 31]) (fun g => σ) (fun g => iter (fun q : Nat => whittleref15_Right_b1 x0 q) g.1 = some r) (fun g => rounds (fun q : Nat => whittleref15_Right_b1 x0 q) g.1) (0, ()) (Sub.pre 1 z) z (by repeat (first | exact trivial | refine ⟨z, ?_⟩)) hh (fun g1 j1 hg1 => ?_))))))))
      obtain ⟨k110, _⟩ := g1
      have hh := hg1; clear hg1
      try dsimp only
      obtain ⟨z1, hh, hR1⟩ := iter_e hh
      dsimp only [whittleref15_Right_b1] at hh
      refine TC.seq (TC.a (TL.i z z (TL.w z (fieldLoc z fo31_3 z) (TL.w z (loadLoc z ag29 z (i := 0) z z) (TL.w z (lenC z underlying29 z) (TL.w z (OpVal.lss z z z) (TL.en (TC.cD z hh (fun h111 hh => ?_) (fun h111 hh => ?_)))))))))
      ·refine TC.skip (S.n (TC.seq (TC.block (TC.a (TL.w z (fieldLoc z fo31_3 z) (TL.w z (loadLoc z ag29 z (i := 0) z z) (TL.i z z (TL.w z (indexN z underlying29 sz60 z z f0_2.rv.sl (by omega)) (TL.w z (loadSA Arc.zero z ag60 sz60 z f0_2 (by omega) (by omega)) (TL.op z (OpOk.alloc z ze60 z z (fun b112 => ?_))))))))))))
       refine TL.op z (storeAll z sz60 z z z z z z ?_)
       refine TL.en (TC.a (TL.w z (fieldLoc z fo60_0 z) (TL.w z (loadLoc z ag3 z (i := 0) z z) (TL.w z (OpVal.lss z z z) (TL.j z z (TL.split 50 z (fun h114 => ?_) (fun h114 => ?_)))))))
       ·replace hh := iteO_t h114 hh
        replace h114 := of_decide_eq_true h114
        refine TL.f z (TL.f z (TL.f z (TL.f z (TL.f z (TL.w z (pickTB z z z) (TL.j z z (TL.f z (TL.f z (TL.f z (TL.w z (pickTB z z z) (TL.j z z (TL.f z (TL.f z (TL.f z (TL.f z ?_)))))))))))))))
        refine TL.f z (TL.w z (pickTB z z z) (TL.j z z (TL.f z (TL.f z (TL.f z (TL.f z (TL.w z (pickTB z z z) (TL.j z z (TL.f z (TL.f z (TL.f z (TL.f z (TL.w z (pickTB z z z) (TL.en (TC.t z ?_)))))))))))))))
        refine TC.a (TL.j z z (TL.en (TC.rt 0 (B.r (S.r (S.r ?_))))))
        replace hh := fin_x hR1 hh
        refine B.r (S.r ?_)
        obtain rfl := so hh
        exact rq [2] ⟨z, z, z⟩
       ·replace hh := iteO_f h114 hh
        replace h114 := of_decide_eq_false h114
        refine TL.g z (fieldLoc z fo60_0 z) (TL.g z (loadLoc z ag3 z (i := 0) z z) (TL.g z (fieldLoc z fo31_0 z) (TL.g z (loadLoc z ag3 z (i := 1) z z) (TL.g z (OpVal.geq z z z) (TL.w z (pickFB z z z) (TL.j z z (TL.split 57 z (fun h115 => ?_) (fun h115 => ?_))))))))
        ·replace hh := iteO_t h115 hh
         replace h115 := of_decide_eq_true h115
         refine TL.f z (TL.f z (TL.f z (TL.w z (pickTB z z z) (TL.j z z (TL.f z (TL.f z (TL.f z (TL.f z (TL.f z (TL.w z (pickTB z z z) (TL.j z z (TL.f z (TL.f z (TL.f z (TL.f z ?_)))))))))))))))
         refine TL.w z (pickTB z z z) (TL.j z z (TL.f z (TL.f z (TL.f z (TL.f z (TL.w z (pickTB z z z) (TL.en (TC.t z (TC.a (TL.j z z (TL.en (TC.rt 0 (B.r (S.r (S.r ?_)))))))))))))))
         replace hh := fin_x hR1 hh
         refine B.r (S.r ?_)
         obtain rfl := so hh
         exact rq [2] ⟨z, z, z⟩
        ·replace hh := iteO_f h115 hh
         replace h115 := of_decide_eq_false h115
         refine TL.g z (fieldLoc z fo60_1 z) (TL.g z (loadLoc z ag3 z (i := 0) z z) (TL.g z (OpVal.lss z z z) (TL.w z (pickFB z z z) (TL.j z z (TL.split 62 z (fun h116 => ?_) (fun h116 => ?_))))))
         ·replace hh := iteO_t h116 hh
          replace h116 := of_decide_eq_true h116
          refine TL.f z (TL.f z (TL.f z (TL.f z (TL.f z (TL.w z (pickTB z z z) (TL.j z z (TL.f z (TL.f z (TL.f z (TL.f z (TL.w z (pickTB z z z) (TL.j z z (TL.f z (TL.f z (TL.f z ?_)))))))))))))))
          refine TL.f z (TL.w z (pickTB z z z) (TL.en (TC.t z (TC.a (TL.j z z (TL.en (TC.rt 0 (B.r (S.r (S.r ?_))))))))))
          replace hh := fin_x hR1 hh
          refine B.r (S.r ?_)
          obtain rfl := so hh
          exact rq [2] ⟨z, z, z⟩
         ·replace hh := iteO_f h116 hh
          replace h116 := of_decide_eq_false h116
          refine TL.g z (fieldLoc z fo60_1 z) (TL.g z (loadLoc z ag3 z (i := 0) z z) (TL.g z (fieldLoc z fo31_0 z) (TL.g z (loadLoc z ag3 z (i := 1) z z) (TL.g z (OpVal.geq z z z) (TL.w z (pickFB z z z) (TL.j z z (TL.split 69 z (fun h117 => ?_) (fun h117 => ?_))))))))
          ·replace hh := iteO_t h117 hh
           replace h117 := of_decide_eq_true h117
           refine TL.f z (TL.f z (TL.f z (TL.f z (TL.w z (pickTB z z z) (TL.j z z (TL.f z (TL.f z (TL.f z (TL.f z (TL.w z (pickTB z z z) (TL.en (TC.t z (TC.a (TL.j z z (TL.en ?_)))))))))))))))
           refine TC.rt 0 (B.r (S.r (S.r ?_)))
           replace hh := fin_x hR1 hh
           refine B.r (S.r ?_)
           obtain rfl := so hh
           exact rq [2] ⟨z, z, z⟩
          ·replace hh := iteO_f h117 hh
           replace h117 := of_decide_eq_false h117
           refine TL.g z (fieldLoc z fo60_2 z) (TL.g z (loadLocA z ag58 sz58 z (i := 0) z z z) (TL.g z (buildArrL z underlying58 sz56 ze58 z) (TL.g z (eqlSet (s := (nth x0.arcs k110 Arc.zero).set) (t := BSet.zero) z underlying58 underlying56 ag56 sz56 eg58 z z) (TL.w z (pickFB z z z) (TL.j z z (TL.split 75 z (fun h118 => ?_) (fun h118 => ?_)))))))
           ·replace hh := iteO_t h118 hh
            replace h118 := of_decide_eq_true h118
            refine TL.f z (TL.f z (TL.f z (TL.f z (TL.w z (pickTB z z z) (TL.en (TC.t z (TC.a (TL.j z z (TL.en (TC.rt 0 (B.r (S.r (S.r ?_)))))))))))))
            replace hh := fin_x hR1 hh
            refine B.r (S.r ?_)
            obtain rfl := so hh
            exact rq [2] ⟨z, z, z⟩
           ·replace hh := iteO_f h118 hh
            replace h118 := of_decide_eq_false h118
            refine TL.g z (fieldLoc z fo60_3 z) (TL.g z (loadLoc z ag9 z (i := 0) z z) (TL.g z (lenBs z underlying9 z) (TL.g z (OpVal.gtr z z z) (TL.w z (pickFB z z z) (TL.en (TC.cD z hh (fun h119 hh => ?_) (fun h119 hh => ?_)))))))
            ·refine TC.a (TL.j z z (TL.en (TC.rt 0 (B.r (S.r (S.r ?_))))))
             replace hh := fin_x hR1 hh
             refine B.r (S.r ?_)
             obtain rfl := so hh
             exact rq [2] ⟨z, z, z⟩
            ·refine TC.skip (B.n (S.n (TC.region (TL.i z z (TL.w z (OpVal.succ z z z (by omega)) (TL.i z z (TL.en ?_)))))))
             obtain ⟨hh, hlt120⟩ := nxt_x hR1 hh
             exact lf ((k110 + 1), ()) hlt120 hh (Sub.f [1] 1)
      ·refine TC.exit (S.x (S.x ?_))
       replace hh := fin_x hR1 hh
       refine TC.exitHere (S.n (TC.a (TL.j z z (TL.en (TC.rt 0 ?_)))))
       obtain rfl := so hh
       exact rq [2] ⟨z, z, z⟩

noncomputable def fst_step_j1 (k128 : Nat) (m130 : FM FPair Unit) : Option (((FM FPair Unit) × Nat) ⊕ (((FM FPair Unit)) ⊕ ((FM FPair Unit) × Bool))) :=
 nxt (m130, (k128 + 1))
noncomputable def fst_step_j2 (m127 : FM FPair Unit) (x0 : List (List Arc)) (v7c : FPair × Unit) (k128 : Nat) (s134 : List UInt8) : Option (((FM FPair Unit) × Nat) ⊕ (((FM FPair Unit)) ⊕ ((FM FPair Unit) × Bool))) :=
 iteO (decide (4096 < (((m127.put (⟨(nth (nth x0 v7c.1.state.toNat ([] : List Arc)) k128 Arc.zero).to, s134⟩ : FPair) ()).n : Nat) : Int))) (fin (fin (some ((FM.emp : FM FPair Unit), false)))) (fst_step_j1 k128 (m127.put (⟨(nth (nth x0 v7c.1.state.toNat ([] : List Arc)) k128 Arc.zero).to, s134⟩ : FPair) ()))
noncomputable def fst_step_b2 (x0 : List (List Arc)) (v7c : FPair × Unit) (x2 : UInt8) (m127 : FM FPair Unit) (k128 : Nat) : Option (((FM FPair Unit) × Nat) ⊕ (((FM FPair Unit)) ⊕ ((FM FPair Unit) × Bool))) :=
 iteO (decide (((k128 : Nat) : Int) < (((nth x0 v7c.1.state.toNat ([] : List Arc)).length : Nat) : Int))) (iteO (!(((nth (nth x0 v7c.1.state.toNat ([] : List Arc)) k128 Arc.zero).set).has x2.toNat)) (fst_step_j1 k128 m127) (grd (v7c.1.out.length + ((nth (nth x0 v7c.1.state.toNat ([] : List Arc)) k128 Arc.zero).out).length ≤ 9223372036854775807) (iteO ((nth (nth x0 v7c.1.state.toNat ([] : List Arc)) k128 Arc.zero).copy) (grd ((v7c.1.out ++ (nth (nth x0 v7c.1.state.toNat ([] : List Arc)) k128 Arc.zero).out).length + [x2].length ≤ 9223372036854775807) (fst_step_j2 m127 x0 v7c k128 ((v7c.1.out ++ (nth (nth x0 v7c.1.state.toNat ([] : List Arc)) k128 Arc.zero).out) ++ [x2]))) (fst_step_j2 m127 x0 v7c k128 (v7c.1.out ++ (nth (nth x0 v7c.1.state.toNat ([] : List Arc)) k128 Arc.zero).out))))) (fin (nxt m127))
noncomputable def fst_step_b1 (x0 : List (List Arc)) (x2 : UInt8) (m114 : FM FPair Unit) (oE : Option (FPair × Unit)) : Option (((FM FPair Unit)) ⊕ ((FM FPair Unit) × Bool)) :=
 optE oE (fin (some (m114, true))) (fun v7c => grd (0 ≤ v7c.1.state ∧ v7c.1.state < (x0.length : Int)) (iter (fun q : (FM FPair Unit) × Nat => fst_step_b2 x0 v7c x2 q.1 q.2) (m114, 0)))
noncomputable def fst_step (x0 : List (List Arc)) (x1 : FM FPair Unit) (x2 : UInt8) : Option ((FM FPair Unit) × Bool) :=
 allP (fun q => Rep q x1) (fun q => runL (fun (q : (FM FPair Unit)) (oE : Option (FPair × Unit)) => fst_step_b1 x0 x2 q oE) q (FM.emp : FM FPair Unit))
theorem fst_step_con {σ : Store} {x0 : List (List Arc)} {a0_0 : Option Addr} {c0_0 : Nat} {x1 : FM FPair Unit} {b1_0 : Option Nat} {x2 : UInt8} (f0_0 : RZ σ (pkSl 8 encArc encArc_len) (.slice a0_0 x0.length c0_0) x0) {r : (FM FPair Unit) × Bool} (hh : fst_step x0 x1 x2 = some r) :
  Con Tryz.prog 49 #[.slice a0_0 x0.length c0_0, .map b1_0, .int .u8 ((x2.toNat : Nat) : Int)] σ [Res.mapB (fun x => Value.agg (encFPair x).toArray) unitV b1_0 x1] (fun v σ' H' => ∃ (br1 : Option Nat), v = .tuple #[.map br1, .bool r.2] ∧ σ = σ' ∧ H' = [Res.mapB (fun x => Value.agg (encFPair x).toArray) unitV br1 r.1]) := by
 dsimp only [fst_step] at hh
 have f0_0b := f0_0.big
 refine Con.mk (n := 58) Tryz.func49 z z z (fun w0 => ?_)
 refine TC.a (TL.w z (moveMap (.inr z) z) (TL.j z z (TL.en (TC.a (TL.op z (makeMapB (enc := (fun x => Value.agg (encFPair x).toArray)) (encV := unitV) z z z (fun b103 => ?_)))))))
 refine TL.w z (moveMap (.inr z) z) (TL.en (TC.seq (TC.a (TL.w z (moveMap (.inl z) z) (TL.front 1 z z (TL.op z (rangeB z underlying96 z z z (fun it105 l106 hl107 => ?_))))))))
 refine TL.en (TC.block (TC.loopG (α := ((FM FPair Unit)) × ((List (FPair × Unit)) × (Option (FPair × Unit)))) (rgs [(6, 2), (9, 1), (11, 2), (16, 41)]) (fun g => []) (fun g => [Res.mapB (fun x => Value.agg (encFPair x).toArray) unitV (some b103) g.1, Res.rng (fun x => Value.agg (encFPair x).toArray) unitV b1_0 it105 x1 g.2.1 g.2.2]) (fun g => σ) (fun g => runA (fun (q : (FM FPair Unit)) (oE : Option (FPair × Unit)) => fst_step_b1 x0 x2 q oE) g.2.1 g.1 = some r) (fun g => List.length g.2.1) ((FM.emp : FM FPair Unit), (l106, none)) (Sub.f [1] 2) z (by repeat (first | exact trivial | refine ⟨z, ?_⟩)) (runA_of hh hl107) (fun g1 j1 hg1 => ?_)))
 obtain ⟨m114, ⟨l115, o116⟩⟩ := g1
 have hh := hg1; clear hg1
 try dsimp only
 refine TC.a (TL.front 1 z z (TL.op z (nextB (T := 0) z z z z z (fun hl117 => ?_) (fun l118 v7c l119 hl117 => ?_))))
 ·subst hl117
  obtain ⟨z1, hh, hR1⟩ := runA_end hh
  dsimp only [fst_step_b1, optE_none] at hh
  refine TL.by (fun w h => Reach.unrng h) (TL.w z (OpVal.extract z z z) (TL.en (TC.seq (TC.f z (TC.exit (S.x (S.x ?_)))))))
  replace hh := finE_x hR1 hh
  refine TC.exitHere (S.n (TC.a (TL.w z (moveMap (.inl z) z) (TL.w z (moveMap (.inr z) z) (TL.j z z (TL.en (TC.ofSub (Sub.f [1] 1) (TC.ret ?_))))))))
  obtain rfl := so hh
  exact ro [Res.mapB (fun x => Value.agg (encFPair x).toArray) unitV (some b103) m114] z (RVs.tmp z (RVs.tmp z RVs.nil)) ⟨(some b103), z, z, z⟩
 ·subst hl117
  obtain ⟨z1, hh, hR1⟩ := runA_step hh
  dsimp only [fst_step_b1, optE_some] at hh
  refine TL.w z (OpVal.extract z z z) (TL.en (TC.seq (TC.t z (TC.skip (S.n (TC.block (TC.a (TL.w z (OpVal.of (entryB z z (i := 0) z) (v' := .tuple #[.agg #[.int .i64 v7c.1.state, .string (bs v7c.1.out)], .agg #[]]) z) (TL.w z (OpVal.extract z z z) (TL.op z (OpOk.alloc z ze99 z z (fun b120 => ?_))))))))))))
  refine TL.op z (storeAll z sz99 z z z z z z ?_)
  refine TL.en (TC.a (TL.s z z (TL.w z (fieldLoc z fo99_0 z) (TL.w z (loadLoc z ag3 z (i := 0) z z) ?_))))
  have u16 := grd_c hh
  replace hh := grd_t hh
  refine TL.w z (OpVal.index z underlying73 sz29 z z f0_0.isSl u16.1 u16.2) ?_
  obtain ⟨p122, hk122, hg122⟩ := RZ.seg f0_0 v7c.1.state.toNat (by omega)
  replace hk122 : RS _ 8 encArc (.slice p122.1 (nth x0 v7c.1.state.toNat ([] : List Arc)).length p122.2) (nth x0 v7c.1.state.toNat ([] : List Arc)) := hk122
  have hk122b := hk122.rv.big
  refine TL.w z (OpVal.of (loadSeg0 z ag29 z hg122 z) (v' := .slice p122.1 ((nth x0 v7c.1.state.toNat ([] : List Arc)).length) p122.2) z) (TL.w z (lenC z underlying29 z) (TL.i z z (TL.en (TC.block (TC.loopG (α := ((FM FPair Unit) × Nat) × (Unit)) (rgs [(6, 2), (11, 2), (26, 31)]) (fun g => [(26, .int .i64 ((g.1.2 : Nat) : Int))]) (fun g => [Res.mapB (fun x => Value.agg (encFPair x).toArray) unitV (some b103) g.1.1, Res.cells b120 #[.int .i64 v7c.1.state, .string (bs v7c.1.out)] 99, Res.rng (fun x => Value.agg (encFPair x).toArray) unitV b1_0 it105 x1 (l118 ++ l119) (some v7c)]) (fun g => σ) (fun g => iter (fun q : (FM FPair Unit) × Nat => fst_step_b2 x0 v7c x2 q.1 q.2) g.1 = some z1) (fun g => rounds (fun q : (FM FPair Unit) × Nat => fst_step_b2 x0 v7c x2 q.1 q.2) g.1) ((m114, 0), ()) (Sub.f [1, 1, 2] 3) z (by repeat (first | exact trivial | refine ⟨z, ?_⟩)) hh (fun g2 j2 hg2 => ?_))))))
  obtain ⟨⟨m127, k128⟩, _⟩ := g2
  have hh := hg2; clear hg2
  try dsimp only
  obtain ⟨z2, hh, hR2⟩ := iter_e hh
  dsimp only [fst_step_b2] at hh
  refine TC.a (TL.w z (OpVal.lss z z z) (TL.en (TC.seq (TC.cD z hh (fun h129 hh => ?_) (fun h129 hh => ?_)))))
  ·refine TC.skip (S.n (TC.cutG (α := ((FM FPair Unit)) × (Unit)) (rgs [(6, 2), (11, 2), (28, 28)]) (fun g => []) (fun g => [Res.mapB (fun x => Value.agg (encFPair x).toArray) unitV (some b103) g.1, Res.cells b120 #[.int .i64 v7c.1.state, .string (bs v7c.1.out)] 99, Res.rng (fun x => Value.agg (encFPair x).toArray) unitV b1_0 it105 x1 (l118 ++ l119) (some v7c)]) (fun g => σ) (fun g => fst_step_j1 k128 g.1 = some z2) ?_ (fun g j hg => ?_)))
   ·skip
    refine TC.block (TC.a (TL.w z (indexN z underlying29 sz60 z z hk122.rv.sl (by omega)) (TL.w z (loadSA Arc.zero z ag60 sz60 z hk122 (by omega) (by omega)) (TL.op z (OpOk.alloc z ze60 z z (fun b131 => ?_))))))
    refine TL.op z (storeAll z sz60 z z z z z z ?_)
    refine TL.en (TC.seq (TC.a (TL.w z (fieldLoc z fo60_2 z) (TL.w z (loadLocA z ag58 sz58 z (i := 0) z z z) (TL.i z z (TL.op z (callP (has_con _ ((nth (nth x0 v7c.1.state.toNat ([] : List Arc)) k128 Arc.zero).set) x2.toNat (BSet.isOk _) (UInt8.toNat_lt _)) z z pf70 z z z ?_)))))))
    refine TL.w z (OpVal.not z z) (TL.en (TC.cB z hh (fun h133 hh => ?_) (fun h133 hh => ?_)))
    ·exact TC.exit (S.x (TC.exitHere (S.n (cf (m127, ()) hh (Sub.f [3, 3, 3] 3)))))
    ·refine TC.skip (S.n (TC.a (TL.w z (fieldLoc z fo99_1 z) (TL.w z (loadLoc z ag9 z (i := 2) z z) (TL.w z (fieldLoc z fo60_3 z) (TL.w z (loadLoc z ag9 z (i := 0) z z) ?_))))))
     have u34 := grd_c hh
     replace hh := grd_t hh
     refine TL.w z (catBs z z z u34) (TL.w z (moveStr (.inr z) z) (TL.en (TC.cutG (α := ((List UInt8)) × (Unit)) (rgs [(12, 1), (40, 7)]) (fun g => [(12, .string (bs g.1))]) (fun g => [Res.mapB (fun x => Value.agg (encFPair x).toArray) unitV (some b103) m127, Res.cells b120 #[.int .i64 v7c.1.state, .string (bs v7c.1.out)] 99, Res.cells b131 #[.int .i64 ((nth (nth x0 v7c.1.state.toNat ([] : List Arc)) k128 Arc.zero).frm), .int .i64 ((nth (nth x0 v7c.1.state.toNat ([] : List Arc)) k128 Arc.zero).to), .int .u64 ((((nth (nth x0 v7c.1.state.toNat ([] : List Arc)) k128 Arc.zero).set).a : Nat) : Int), .int .u64 ((((nth (nth x0 v7c.1.state.toNat ([] : List Arc)) k128 Arc.zero).set).b : Nat) : Int), .int .u64 ((((nth (nth x0 v7c.1.state.toNat ([] : List Arc)) k128 Arc.zero).set).c : Nat) : Int), .int .u64 ((((nth (nth x0 v7c.1.state.toNat ([] : List Arc)) k128 Arc.zero).set).d : Nat) : Int), .string (bs ((nth (nth x0 v7c.1.state.toNat ([] : List Arc)) k128 Arc.zero).out)), .bool ((nth (nth x0 v7c.1.state.toNat ([] : List Arc)) k128 Arc.zero).copy)] 60, Res.rng (fun x => Value.agg (encFPair x).toArray) unitV b1_0 it105 x1 (l118 ++ l119) (some v7c)]) (fun g => σ) (fun g => fst_step_j2 m127 x0 v7c k128 g.1 = some z2) ?_ (fun g j hg => ?_))))
     ·skip
      refine TC.a (TL.w z (fieldLoc z fo60_4 z) (TL.w z (loadLoc z ag4 z (i := 0) z z) (TL.en (TC.cB z hh (fun h135 hh => ?_) (fun h135 hh => ?_)))))
      ·refine TC.region (TL.w z (moveStr (.inl z) z) (TL.i z z (TL.op z (OpOk.lit (enc := encU8) [x2] z underlying131 sz5 ze5 z z z encU8_len (by decide) (by decide) (0 : UInt8) z (by decide) z (by decide) encU8_one (fun a136 c137 => ?_)))))
       refine TL.isSl (i := 0) z (fun hs139 _ _ => ?_)
       refine TL.w z (bytesStr (l := [x2]) z underlying131 underlying5 underlying9 z hs139 (fun w hw => rdb_row (q := 0) z hw)) ?_
       have u42 := grd_c hh
       replace hh := grd_t hh
       exact TL.w z (catBs z z z u42) (TL.w z (moveStr (.inr z) z) (TL.en (cf (((v7c.1.out ++ (nth (nth x0 v7c.1.state.toNat ([] : List Arc)) k128 Arc.zero).out) ++ [x2]), ()) hh (Sub.f [4, 2, 4, 4] 4))))
      ·exact TC.skip (S.n (cf ((v7c.1.out ++ (nth (nth x0 v7c.1.state.toNat ([] : List Arc)) k128 Arc.zero).out), ()) hh (Sub.f [3, 1, 3, 3] 4)))
     ·skip
      obtain ⟨s134, _⟩ := g
      have hh := hg; clear hg
      try dsimp only
      dsimp only [fst_step_j2] at hh
      refine TC.a (TL.w z (moveMap (.inl z) z) (TL.w z (fieldLoc z fo60_1 z) (TL.w z (loadLoc z ag3 z (i := 2) z z) (TL.w z (moveStr (.inl z) z) (TL.w z (buildL z pl99 ze99 z) (TL.w z (buildL z pl97 ze97 z) (TL.op z (updB (⟨(nth (nth x0 v7c.1.state.toNat ([] : List Arc)) k128 Arc.zero).to, s134⟩ : FPair) () z underlying96 z z z z kl99 ?_))))))))
      refine TL.en (TC.a (TL.w z (moveMap (.inl z) z) (TL.w z (lenB z underlying96 z (i := 0) z) (TL.w z (OpVal.gtr z z z) (TL.en (TC.cD z hh (fun h140 hh => ?_) (fun h140 hh => ?_)))))))
      ·refine TC.a (TL.w z (moveMap (.inr z) z) (TL.j z z (TL.en (TC.by (fun w h => Reach.nilMap (enc := (fun x => Value.agg (encFPair x).toArray)) (encV := unitV) h) (TC.rt 1 (B.r (S.r (S.r ?_))))))))
       replace hh := fin_x hR2 hh
       refine B.r (B.r (S.r ?_))
       replace hh := finA_x hR1 hh
       refine B.r (S.r ?_)
       obtain rfl := so hh
       exact ro [Res.mapB (fun x => Value.agg (encFPair x).toArray) unitV none (FM.emp : FM FPair Unit)] z (RVs.tmp z (RVs.tmp z RVs.nil)) ⟨none, z, z, z⟩
      ·exact TC.skip (B.n (S.n (cf ((m127.put (⟨(nth (nth x0 v7c.1.state.toNat ([] : List Arc)) k128 Arc.zero).to, s134⟩ : FPair) ()), ()) hh (Sub.f [3, 2, 2] 3))))
   ·skip
    obtain ⟨m130, _⟩ := g
    have hh := hg; clear hg
    try dsimp only
    dsimp only [fst_step_j1] at hh
    refine TC.region (TL.w z (OpVal.succ z z z (by omega)) (TL.i z z (TL.en ?_)))
    obtain ⟨hh, hlt142⟩ := nxt_x hR2 hh
    exact lf ((m130, (k128 + 1)), ()) hlt142 hh (Sub.f [2, 2, 2] 3)
  ·refine TC.exit (S.x (S.x ?_))
   replace hh := fin_x hR2 hh
   refine TC.exitHere (B.n (S.n ?_))
   replace hh := nxtA_x hR1 hh
   exact lf (m127, ((l118 ++ l119), (some v7c))) (by simp) hh (Sub.f [2, 1] 2)

end Go.Proofs.YtcfjjckencjjeaaGreatDoor
end

/- Data8 -/
section
/- More of the program's data: a transducer that is put together. No program, no condition. -/
set_option linter.unusedVariables false
set_option linter.unusedSimpArgs false
namespace Go.E
open Go
structure Grow where
  f : Fst
  over : Bool
end Go.E
end

/- Dfr -/
section
/- Functions that defer a call: the walk up to the defer statement, behind it, and the deferred call. Plain lemmas over any program; no condition. -/
set_option linter.unusedVariables false
set_option linter.unusedSimpArgs false
namespace Go.E
open Go

/-- Code, whatever must hold behind it. -/
def TB (X : Ctx) (R : Exit → Act → World → Prop) (c : Code) (e : Env) (σ : Store) (H : List Res) : Prop :=
  ∀ w a, RM X a σ w H → St X.n e a → c.wpIn (fence X.rnd) 0 X.P R a w
def TLB (X : Ctx) (ops : Array Oper) (R : Exit → Act → World → Prop) (l : List Oper) (e : Env) (σ : Store) (H : List Res) : Prop :=
  ∀ w a, RM X a σ w H → St X.n e a → wpListIn (fence X.rnd) 0 X.P ops R l a w
/-- What a function hands back. -/
def endE (w0 : World) (C : List Nat) (σ0 : Store) (Post : Value → Store → List Res → Prop) : Ending → World → Prop :=
  fun e w' => ∃ r σ' H', e = .returned r ∧ Post r σ' H' ∧ Reach w0 C σ0 σ' w' H'
def endR (P : Program) (fn : Func) (w0 : World) (C : List Nat) (σ0 : Store) (Post : Value → Store → List Res → Prop) : Exit → Act → World → Prop :=
  bodyPostM (fence none) 0 P fn (endE w0 C σ0 Post)

theorem startSt {args : List Value} {n : Nat} {fn : Func} (hn : fn.ntmps = n) (ha : Nat.ble args.length n = true) : St n (argEnv args) { tmps := args.toArray ++ Array.replicate (fn.ntmps - args.toArray.size) undef, defers := [] } := by
  have := Nat.le_of_ble_eq_true ha
  refine ⟨?_, fun t => ?_⟩
  · simp [hn]; omega
  · simp only [Array.getD_eq_getD_getElem?, Array.getElem?_append, argEnv, List.getElem?_toArray, List.size_toArray, Array.getElem?_replicate]
    split
    · rfl
    · rename_i hlt
      rw [List.getElem?_eq_none (by omega)]
      split <;> rfl
theorem MarksOk.start {w0 : World} {σ : Store} {H : List Res} {w : World} : MarksOk w0 none (some []) [] σ H w := ⟨(fun h => by cases h), (fun _ h => by cases h; rfl), fun _ h => by cases h⟩

theorem Con.mkD {P : Program} {f : FuncId} {fn : Func} {c : Code} {args : List Value} {n : Nat} {σ : Store} {H : List Res} {Post : Value → Store → List Res → Prop}
    (hf : P.funcs[f]? = some fn) (hb : fn.body = some c) (hn : fn.ntmps = n) (ha : Nat.ble args.length n = true)
    (h : ∀ w0, TB ⟨P, w0, blks H, σ, n, none, some []⟩ (endR P fn w0 (blks H) σ Post) c (argEnv args) σ H) : Con P f args.toArray σ H Post := by
  intro w hw
  exact calls_fence.1 (callsIn_of_wp_marks (F := fence none) (n := 0) hf hb trivial (h w w _ ⟨hw, MarksOk.start⟩ (startSt hn ha)))

/-- A contract of a function that is entered opds a deferred call. -/
def ConD (P : Program) (f : FuncId) (args : Array Value) (σ : Store) (H : List Res) (Post : Value → Store → List Res → Prop) : Prop :=
  ∀ w, Reach w (blks H) σ σ w H → CallsDIn (fence none) 0 P f args .returning w fun e u w' => u = .returning ∧ ∃ r σ' H', e = .returned r ∧ Post r σ' H' ∧ Reach w (blks H) σ σ' w' H'
theorem ConD.mono {P : Program} {f : FuncId} {args : Array Value} {σ : Store} {H : List Res} {Post Post' : Value → Store → List Res → Prop}
    (h : ConD P f args σ H Post) (hp : ∀ r σ' H', σ.le σ' → Post r σ' H' → Post' r σ' H') : ConD P f args σ H Post' := fun w hw =>
  (h w hw).mono fun _ _ _ ⟨h0, r, σ', H', h1, h2, h3⟩ => ⟨h0, r, σ', H', h1, hp _ _ _ h3.le h2, h3⟩
theorem ConD.mk {P : Program} {f : FuncId} {fn : Func} {c : Code} {args : List Value} {n : Nat} {σ : Store} {H : List Res} {Post : Value → Store → List Res → Prop}
    (hf : P.funcs[f]? = some fn) (hb : fn.body = some c) (hn : fn.ntmps = n) (ha : Nat.ble args.length n = true)
    (h : ∀ w0, TC ⟨P, w0, blks H, σ, n, none, some []⟩ (retQ P fn n Post) c (argEnv args) σ H) : ConD P f args.toArray σ H Post := by
  intro w hw
  refine callsDIn_of_wp hf hb trivial (Go.wpIn_mono (h w w _ ⟨hw, MarksOk.start⟩ (startSt hn ha)) ?_)
  rintro ex a w' ⟨e', σ', H', h1, h2, ⟨hex, r, H'', h3, h4, h5⟩⟩
  have hd : a.defers = [] := h2.marks.is _ rfl
  have hfin : a.defers = [] ∧ ∃ v, (results fn a.tmps).run P w' = .ok v w' ∧ (∃ r σ' H', Ending.returned v = .returned r ∧ Post r σ' H' ∧ Reach w (blks H) σ σ' w' H') :=
    ⟨hd, r, h3 w' a h1 h2.holds, r, σ', H'', rfl, h5, h2.toReach.sub h4⟩
  rcases hex with rfl | rfl
  · exact hfin
  · exact hfin

section rules
variable {X : Ctx} {ops : Array Oper} {R : Exit → Act → World → Prop} {Q : QP} {e : Env} {σ : Store} {H F : List Res} {o : Oper} {rest : List Oper} {c c1 c2 : Code} {fn : Func} {Post : Value → Store → List Res → Prop}

theorem endR_ret {P : Program} {w0 : World} {C : List Nat} {σ0 : Store} {n : Nat} : ∀ ex a w, low ⟨P, w0, C, σ0, n, none, some []⟩ (retQ P fn n Post) ex a w → endR P fn w0 C σ0 Post ex a w := by
  rintro ex a w ⟨e, σ, H, h1, h2, ⟨hex, r, H', h3, h4, h5⟩⟩
  have hd : a.defers = [] := h2.marks.is _ rfl
  have hfin : LeavesInM (fence none) 0 P fn a.tmps (endE w0 C σ0 Post) a.defers .returning w := by
    rw [hd]; exact ⟨r, h3 w a h1 h2.holds, r, σ, H', rfl, h5, h2.toReach.sub h4⟩
  rcases hex with rfl | rfl
  · exact hfin
  · exact hfin
/-- Behind the defer statement: how a function ends. -/
def dfrQ (P : Program) (fn : Func) (n : Nat) (Post : Value → Store → List Res → Prop) (f : FuncId) (args : List Value) : QP := fun ex e σ H =>
  (ex = .ret ∨ ex = .normal) ∧ ∃ F, Sub F H ∧ ConD P f args.toArray σ F fun _ σ' H' => RetOk P fn n Post .ret e σ' H'
theorem endR_dfr {P : Program} {w0 : World} {C : List Nat} {σ0 : Store} {n : Nat} {f : FuncId} {cap dargs : List Value} (hp : plainF P f = true) :
    ∀ ex a w, low ⟨P, w0, C, σ0, n, none, some [⟨.fn (.func f) cap.toArray, dargs.toArray⟩]⟩ (dfrQ P fn n Post f (dargs ++ cap)) ex a w → endR P fn w0 C σ0 Post ex a w := by
  rintro ex a w ⟨e, σ, H, h1, h2, hex, F, hs, hcon⟩
  have hd : a.defers = [⟨.fn (.func f) cap.toArray, dargs.toArray⟩] := h2.marks.is _ rfl
  have h3 : Reach w0 C σ0 σ w F := h2.toReach.ofSub hs
  have hfin : LeavesInM (fence none) 0 P fn a.tmps (endE w0 C σ0 Post) a.defers .returning w := by
    rw [hd]
    refine ⟨by simp, .inr ⟨(fun h => by cases h), .func f, cap.toArray, f, (dargs ++ cap).toArray, rfl, ?_, (fun _ _ => trivial), (hcon w h3.self).mono ?_⟩⟩
    · simp [invoke, run_callFunc hp]
    · rintro _ _ w' ⟨rfl, r, σ', H', rfl, ⟨-, v, H'', h4, h5, h6⟩, h7⟩
      have h8 : Reach w0 C σ0 σ' w' H' := by
        have := (show Reach w0 C σ0 σ w (F ++ []) by rwa [List.append_nil]).call h7
        rwa [List.append_nil] at this
      exact ⟨v, h4 w' a h1 h8.holds, v, σ', H'', rfl, h6, h8.sub h5⟩
  rcases hex with rfl | rfl
  · exact hfin
  · exact hfin

theorem TB.seq (hR : ∀ ex a w, low X Q ex a w → R ex a w) (h : TC X (seqQ (TB X R c2) Q) c1 e σ H) : TB X R (.seq c1 c2) e σ H := fun w a hw ha =>
  Go.wpIn_seq (Go.wpIn_mono (h w a hw ha) fun ex a' w' ⟨e', σ', H', h1, h2, h3⟩ => by
    cases ex
    case normal => exact h3 w' a' h2 h1
    all_goals exact hR _ _ _ ⟨e', σ', H', h1, h2, h3⟩)
theorem TB.fin (hR : ∀ ex a w, low X Q ex a w → R ex a w) (h : TC X Q c e σ H) : TB X R c e σ H := fun w a hw ha => Go.wpIn_mono (h w a hw ha) (hR)
theorem TLB.v {v : Value} {d : Nat} (hg : o.guard = none) (h : OpVal X.P X.n o e σ H v) (hd : o.dst = some d) (hn : Nat.blt d X.n = true) (k : TLB X ops R rest (upd e d v) σ H) : TLB X ops R (o :: rest) e σ H := fun w a hw ha =>
  wpListIn_plain hg fun K hK => (OpVal.ok h hd hn (K := fun e' σ' H' => TLB X ops R rest e' σ' H') k).at hw ha fun e' σ' H' a' w' hk hw' ha' => hK a' w' (hk w' a' hw' ha')
/-- The defer statement, the last operation of its region. -/
theorem TLB.dfr {P : Program} {w0 : World} {C : List Nat} {σ0 : Store} {n : Nat} {f : FuncId} {cap first : Array Value} {x : Operand} {opds : Array Operand} {ts : Array TypeId} {dargs : List Value}
    (hg : o.guard = none) (hop : o.op = .defer { callee := .value x, args := opds, argTypes := ts }) (hx : ev e x = .func (.func f) first cap) (hd : o.dst = none) (ha : first.toList ++ opds.toList.map (ev e) = dargs)
    (hK : ∀ a w, RM ⟨P, w0, C, σ0, n, none, some [⟨.fn (.func f) cap, dargs.toArray⟩]⟩ a σ w H → St n e a → R .normal a w) :
    TLB ⟨P, w0, C, σ0, n, none, some []⟩ ops R [o] e σ H := fun w a hw hst => by
  have ha' : first ++ opds.map (ev e) = dargs.toArray := by apply Array.ext'; rw [← ha]; simp
  refine wpListIn_plain hg fun K hK' => ⟨(fun _ _ => trivial), ?_⟩
  have hs : (o.semAt (fence none).round a.eval).run P w = .ok (.defer ⟨.fn (.func f) cap, dargs.toArray⟩) w := by
    rw [hst.eval', ← ha']
    simp [Oper.semAt, execOp, hop, resolve, hx, Deferred.ofValue]
  show Oper.uponIn _ _ _ _ _ _ _ ((o.semAt (fence none).round a.eval).run P w)
  rw [hs, Oper.uponIn_defer, hd]
  have h0 : a.defers = [] := hw.marks.is _ rfl
  refine hK' _ _ (hK _ _ ⟨?_, ⟨(fun h => by cases h), (fun l h => ?_), fun _ h => by cases h⟩⟩ ⟨hst.size, hst.get⟩)
  · exact hw.toReach
  · cases h; show _ :: a.defers = _; rw [h0]
/-- A region that ends in the defer statement, and what stands behind. -/
theorem TB.seqD {id : Nat} {l : List Oper} (h : TLB X l.toArray (fun ex a w => match ex with | .normal => c2.wpIn (fence X.rnd) 0 X.P R a w | ex => R ex a w) l e σ H) : TB X R (.seq (.region id l.toArray false) c2) e σ H := fun w a hw ha =>
  Go.wpIn_seq (Go.wpIn_mono (wpIn_region_lit (h w a hw ha)) fun ex a' w' hq => by cases ex <;> exact hq)
end rules
end Go.E
end

/- M0 -/
section
/- Decompiled: a transducer that is put together. -/
set_option linter.unusedVariables false
set_option linter.unusedSimpArgs false
namespace Go.Proofs.YtcfjjckencjjeaaGreatDoor
open Go Go.E Go.E.OpVal Go.E.OpOk Go.Proofs.Tryz
set_option maxRecDepth 100000
private theorem ag31 : Go.E.aggOf Tryz.prog 31 = some true := by kernel_rfl
private theorem by60 : Go.E.byOf Tryz.prog 60 = some 72 := by kernel_rfl
private theorem by62 : Go.E.byOf Tryz.prog 62 = some 24 := by kernel_rfl
private theorem fo66_0 : Go.E.foOf Tryz.prog 66 0 = some 0 := by kernel_rfl
private theorem fo66_1 : Go.E.foOf Tryz.prog 66 1 = some 4 := by kernel_rfl
private theorem pl31 : Go.E.plOf Tryz.prog 31 = some #[(0, 1), (1, 1), (2, 1), (3, 1)] := by kernel_rfl
private theorem sz28 : Go.E.szOf Tryz.prog 28 = some 1 := by kernel_rfl
private theorem sz31 : Go.E.szOf Tryz.prog 31 = some 4 := by kernel_rfl
private theorem sz32 : Go.E.szOf Tryz.prog 32 = some 1 := by kernel_rfl
private theorem ze31 : Go.E.zeroOf Tryz.prog 31 = some (.agg #[.int .i64 0, .slice none 0 0, .slice none 0 0, .slice none 0 0]) := by kernel_rfl

noncomputable def rat_grow_start (x0 : Grow) (x1 : Tip) : Option (Grow) :=
 iteO x0.over (some (⟨(⟨x0.f.states, x0.f.starts, x0.f.ends, x0.f.arcs⟩ : Fst), true⟩ : Grow)) (iteO (decide (1024 ≤ ((x0.f.starts.length : Nat) : Int))) (some (⟨(⟨x0.f.states, x0.f.starts, x0.f.ends, x0.f.arcs⟩ : Fst), true⟩ : Grow)) (iteO (decide (1024 < ((x1.out.length : Nat) : Int))) (some (⟨(⟨x0.f.states, x0.f.starts, x0.f.ends, x0.f.arcs⟩ : Fst), true⟩ : Grow)) (grd ((x0.f.starts.length + [x1].length) * 24 ≤ 140737488355328) (some (⟨(⟨x0.f.states, (x0.f.starts ++ [x1]), x0.f.ends, x0.f.arcs⟩ : Fst), x0.over⟩ : Grow)))))
theorem rat_grow_start_con {σ : Store} {x0 : Grow} {b0_0 : Nat} {Eb0 : Nat} {a0_1 : Option Addr} {c0_2 : Nat} {a0_3 : Option Addr} {c0_4 : Nat} {a0_5 : Option Addr} {c0_6 : Nat} {x1 : Tip}  {r : Grow} (hh : rat_grow_start x0 x1 = some r) :
  Con Tryz.prog 31 #[loc b0_0 0, .agg #[.int .i64 x1.state, .string (bs x1.out)]] σ [Res.cells b0_0 #[.int .i64 x0.f.states, .slice a0_1 x0.f.starts.length c0_2, .slice a0_3 x0.f.ends.length c0_4, .slice a0_5 x0.f.arcs.length c0_6, .bool x0.over] Eb0, Res.rowS 62 2 encTip (.slice a0_1 x0.f.starts.length c0_2) x0.f.starts, Res.rowS 62 2 encTip (.slice a0_3 x0.f.ends.length c0_4) x0.f.ends, Res.rowS 60 8 encArc (.slice a0_5 x0.f.arcs.length c0_6) x0.f.arcs] (fun v σ' H' => ∃ (ao1 : Option Addr), ∃ (co2 : Nat), ∃ (ao3 : Option Addr), ∃ (co4 : Nat), ∃ (ao5 : Option Addr), ∃ (co6 : Nat), v = .tuple #[] ∧ σ = σ' ∧ H' = [Res.cells b0_0 #[.int .i64 r.f.states, .slice ao1 r.f.starts.length co2, .slice ao3 r.f.ends.length co4, .slice ao5 r.f.arcs.length co6, .bool r.over] Eb0, Res.rowS 62 2 encTip (.slice ao1 r.f.starts.length co2) r.f.starts, Res.rowS 62 2 encTip (.slice ao3 r.f.ends.length co4) r.f.ends, Res.rowS 60 8 encArc (.slice ao5 r.f.arcs.length co6) r.f.arcs]) := by
 dsimp only [rat_grow_start] at hh
 refine Con.mk (n := 38) Tryz.func31 z z z (fun w0 => ?_)
 refine TC.weakR (TC.a (TL.op z (boxA z z z z (fun b108 => ?_))))
 refine TL.en (TC.seq (TC.a (TL.l z z (TL.w z (nilCheckLoc z z) (TL.w z (fieldLoc z fo66_1 z) (TL.w z (loadLoc z ag4 z (i := 1) z z) (TL.j z z (TL.split 8 z (fun h110 => ?_) (fun h110 => ?_)))))))))
 ·replace hh := iteO_t h110 hh
  refine TL.f z (TL.f z (TL.f z (TL.f z (TL.f z (TL.f z (TL.f z (TL.w z (pickTB z z z) (TL.j z z (TL.f z (TL.f z (TL.f z (TL.f z (TL.w z (pickTB z z z) (TL.en (TC.t z ?_)))))))))))))))
  refine TC.a (TL.l z z (TL.w z (nilCheckLoc z z) (TL.w z (fieldLoc z fo66_1 z) (TL.front 1 z z (TL.op z (storeB z sz4 z z z z z ?_))))))
  refine TL.en (TC.ofSub (Sub.f [4, 4, 4, 3] 4) (TC.ret (S.r ?_)))
  obtain rfl := so hh
  refine ⟨_, Sub.f [3, 3, 3, 3] 4, ?_⟩
  exact ro [Res.cells b0_0 #[.int .i64 x0.f.states, .slice a0_1 x0.f.starts.length c0_2, .slice a0_3 x0.f.ends.length c0_4, .slice a0_5 x0.f.arcs.length c0_6, .bool true] Eb0, Res.rowS 62 2 encTip (.slice a0_1 x0.f.starts.length c0_2) x0.f.starts, Res.rowS 62 2 encTip (.slice a0_3 x0.f.ends.length c0_4) x0.f.ends, Res.rowS 60 8 encArc (.slice a0_5 x0.f.arcs.length c0_6) x0.f.arcs] z RVs.nil ⟨a0_1, c0_2, a0_3, c0_4, a0_5, c0_6, z, z, z⟩
 ·replace hh := iteO_f h110 hh
  refine TL.g z (moveLoc (.inl z) z) (TL.g z (nilCheckLoc z z) (TL.g z (fieldLoc z fo66_0 z) (TL.g z (fieldLoc z fo31_1 z) (TL.g z (loadLoc z ag28 z (i := 1) z z) (TL.g z (lenC z underlying28 z) (TL.g z (OpVal.geq z z z) (TL.w z (pickFB z z z) (TL.j z z (TL.split 17 z (fun h111 => ?_) (fun h111 => ?_))))))))))
  ·replace hh := iteO_t h111 hh
   replace h111 := of_decide_eq_true h111
   refine TL.f z (TL.f z (TL.f z (TL.f z (TL.w z (pickTB z z z) (TL.en (TC.t z (TC.a (TL.l z z (TL.w z (nilCheckLoc z z) (TL.w z (fieldLoc z fo66_1 z) (TL.front 1 z z (TL.op z (storeB z sz4 z z z z z ?_)))))))))))))
   refine TL.en (TC.ofSub (Sub.f [4, 4, 4, 3] 4) (TC.ret (S.r ?_)))
   obtain rfl := so hh
   refine ⟨_, Sub.f [3, 3, 3, 3] 4, ?_⟩
   exact ro [Res.cells b0_0 #[.int .i64 x0.f.states, .slice a0_1 x0.f.starts.length c0_2, .slice a0_3 x0.f.ends.length c0_4, .slice a0_5 x0.f.arcs.length c0_6, .bool true] Eb0, Res.rowS 62 2 encTip (.slice a0_1 x0.f.starts.length c0_2) x0.f.starts, Res.rowS 62 2 encTip (.slice a0_3 x0.f.ends.length c0_4) x0.f.ends, Res.rowS 60 8 encArc (.slice a0_5 x0.f.arcs.length c0_6) x0.f.arcs] z RVs.nil ⟨a0_1, c0_2, a0_3, c0_4, a0_5, c0_6, z, z, z⟩
  ·replace hh := iteO_f h111 hh
   replace h111 := of_decide_eq_false h111
   refine TL.g z (fieldLoc z fo62_1 z) (TL.g z (loadLoc z ag9 z (i := 0) z z) (TL.g z (lenBs z underlying9 z) (TL.g z (OpVal.gtr z z z) (TL.w z (pickFB z z z) (TL.en (TC.cD z hh (fun h112 hh => ?_) (fun h112 hh => ?_)))))))
   ·refine TC.a (TL.l z z (TL.w z (nilCheckLoc z z) (TL.w z (fieldLoc z fo66_1 z) (TL.front 1 z z (TL.op z (storeB z sz4 z z z z z ?_))))))
    refine TL.en (TC.ofSub (Sub.f [4, 4, 4, 3] 4) (TC.ret (S.r ?_)))
    obtain rfl := so hh
    refine ⟨_, Sub.f [3, 3, 3, 3] 4, ?_⟩
    exact ro [Res.cells b0_0 #[.int .i64 x0.f.states, .slice a0_1 x0.f.starts.length c0_2, .slice a0_3 x0.f.ends.length c0_4, .slice a0_5 x0.f.arcs.length c0_6, .bool true] Eb0, Res.rowS 62 2 encTip (.slice a0_1 x0.f.starts.length c0_2) x0.f.starts, Res.rowS 62 2 encTip (.slice a0_3 x0.f.ends.length c0_4) x0.f.ends, Res.rowS 60 8 encArc (.slice a0_5 x0.f.arcs.length c0_6) x0.f.arcs] z RVs.nil ⟨a0_1, c0_2, a0_3, c0_4, a0_5, c0_6, z, z, z⟩
   ·refine TC.skip (S.n ?_)
    have u33 := grd_c hh
    replace hh := grd_t hh
    refine TC.draw [8, 9, 10, 11, 12] (by kernel_rfl) (TA.a 0 z (moveLoc (.inl z) z) z (TA.a 1 z (moveLoc (.inl z) z) z (TA.a 2 z (nilCheckLoc z z) z (TA.a 3 z (fieldLoc z fo66_0 z) z (TA.a 4 z (fieldLoc z fo31_1 z) z (TA.b 5 z (loadLoc z ag28 z (i := 1) z z) z (TA.b 6 z (loadAll z ag62 sz62 z (i := 0) z z) z (TA.ac 7 z (OpOk.lit (enc := encTip) [x1] z underlying28 sz62 ze62 z z z encTip_len (by decide) (by decide) Tip.zero z (by decide) z (by decide) encTip_one (fun a118 c119 => (k1 ?_)))))))))))
    refine TA.front 3 z z (TA.last 8 (by kernel_rfl) z z z (appendS z z underlying28 sz62 by62 ze62 z z (by decide) z z z (.inr ⟨_, 0, z⟩) (by simpa using u33) (by decide) (fun a121 c122 => ?_)))
    refine TZ.v 9 (by kernel_rfl) z z z (nilCheckLoc z z) z z (TZ.v 10 (by kernel_rfl) z z z (fieldLoc z fo66_0 z) z z (TZ.v 11 (by kernel_rfl) z z z (fieldLoc z fo31_1 z) z z (TZ.front 3 z z (TZ.last 12 (by kernel_rfl) z z z (storeSl z sz28 z z z z z ?_)))))
    refine TZ.done (by kernel_rfl) ?_
    obtain rfl := so hh
    refine ⟨_, Sub.f [5, 5, 3, 3] 4, ?_⟩
    exact RetOk.mk' (rs := []) [Res.cells b0_0 #[.int .i64 x0.f.states, .slice a121 ((x0.f.starts ++ [x1]).length) c122, .slice a0_3 x0.f.ends.length c0_4, .slice a0_5 x0.f.arcs.length c0_6, .bool x0.over] Eb0, Res.rowS 62 2 encTip (.slice a121 (x0.f.starts ++ [x1]).length c122) (x0.f.starts ++ [x1]), Res.rowS 62 2 encTip (.slice a0_3 x0.f.ends.length c0_4) x0.f.ends, Res.rowS 60 8 encArc (.slice a0_5 x0.f.arcs.length c0_6) x0.f.arcs] z (.inr z) RVs.nil (List.sublist_append_left _ _) ⟨a121, c122, a0_3, c0_4, a0_5, c0_6, z, z, z⟩

noncomputable def rat_grow_end (x0 : Grow) (x1 : Tip) : Option (Grow) :=
 iteO x0.over (some (⟨(⟨x0.f.states, x0.f.starts, x0.f.ends, x0.f.arcs⟩ : Fst), true⟩ : Grow)) (iteO (decide (1024 ≤ ((x0.f.ends.length : Nat) : Int))) (some (⟨(⟨x0.f.states, x0.f.starts, x0.f.ends, x0.f.arcs⟩ : Fst), true⟩ : Grow)) (iteO (decide (1024 < ((x1.out.length : Nat) : Int))) (some (⟨(⟨x0.f.states, x0.f.starts, x0.f.ends, x0.f.arcs⟩ : Fst), true⟩ : Grow)) (grd ((x0.f.ends.length + [x1].length) * 24 ≤ 140737488355328) (some (⟨(⟨x0.f.states, x0.f.starts, (x0.f.ends ++ [x1]), x0.f.arcs⟩ : Fst), x0.over⟩ : Grow)))))
theorem rat_grow_end_con {σ : Store} {x0 : Grow} {b0_0 : Nat} {Eb0 : Nat} {a0_1 : Option Addr} {c0_2 : Nat} {a0_3 : Option Addr} {c0_4 : Nat} {a0_5 : Option Addr} {c0_6 : Nat} {x1 : Tip}  {r : Grow} (hh : rat_grow_end x0 x1 = some r) :
  Con Tryz.prog 32 #[loc b0_0 0, .agg #[.int .i64 x1.state, .string (bs x1.out)]] σ [Res.cells b0_0 #[.int .i64 x0.f.states, .slice a0_1 x0.f.starts.length c0_2, .slice a0_3 x0.f.ends.length c0_4, .slice a0_5 x0.f.arcs.length c0_6, .bool x0.over] Eb0, Res.rowS 62 2 encTip (.slice a0_1 x0.f.starts.length c0_2) x0.f.starts, Res.rowS 62 2 encTip (.slice a0_3 x0.f.ends.length c0_4) x0.f.ends, Res.rowS 60 8 encArc (.slice a0_5 x0.f.arcs.length c0_6) x0.f.arcs] (fun v σ' H' => ∃ (ao1 : Option Addr), ∃ (co2 : Nat), ∃ (ao3 : Option Addr), ∃ (co4 : Nat), ∃ (ao5 : Option Addr), ∃ (co6 : Nat), v = .tuple #[] ∧ σ = σ' ∧ H' = [Res.cells b0_0 #[.int .i64 r.f.states, .slice ao1 r.f.starts.length co2, .slice ao3 r.f.ends.length co4, .slice ao5 r.f.arcs.length co6, .bool r.over] Eb0, Res.rowS 62 2 encTip (.slice ao1 r.f.starts.length co2) r.f.starts, Res.rowS 62 2 encTip (.slice ao3 r.f.ends.length co4) r.f.ends, Res.rowS 60 8 encArc (.slice ao5 r.f.arcs.length co6) r.f.arcs]) := by
 dsimp only [rat_grow_end] at hh
 refine Con.mk (n := 38) Tryz.func32 z z z (fun w0 => ?_)
 refine TC.weakR (TC.a (TL.op z (boxA z z z z (fun b108 => ?_))))
 refine TL.en (TC.seq (TC.a (TL.l z z (TL.w z (nilCheckLoc z z) (TL.w z (fieldLoc z fo66_1 z) (TL.w z (loadLoc z ag4 z (i := 1) z z) (TL.j z z (TL.split 8 z (fun h110 => ?_) (fun h110 => ?_)))))))))
 ·replace hh := iteO_t h110 hh
  refine TL.f z (TL.f z (TL.f z (TL.f z (TL.f z (TL.f z (TL.f z (TL.w z (pickTB z z z) (TL.j z z (TL.f z (TL.f z (TL.f z (TL.f z (TL.w z (pickTB z z z) (TL.en (TC.t z ?_)))))))))))))))
  refine TC.a (TL.l z z (TL.w z (nilCheckLoc z z) (TL.w z (fieldLoc z fo66_1 z) (TL.front 1 z z (TL.op z (storeB z sz4 z z z z z ?_))))))
  refine TL.en (TC.ofSub (Sub.f [4, 4, 4, 3] 4) (TC.ret (S.r ?_)))
  obtain rfl := so hh
  refine ⟨_, Sub.f [3, 3, 3, 3] 4, ?_⟩
  exact ro [Res.cells b0_0 #[.int .i64 x0.f.states, .slice a0_1 x0.f.starts.length c0_2, .slice a0_3 x0.f.ends.length c0_4, .slice a0_5 x0.f.arcs.length c0_6, .bool true] Eb0, Res.rowS 62 2 encTip (.slice a0_1 x0.f.starts.length c0_2) x0.f.starts, Res.rowS 62 2 encTip (.slice a0_3 x0.f.ends.length c0_4) x0.f.ends, Res.rowS 60 8 encArc (.slice a0_5 x0.f.arcs.length c0_6) x0.f.arcs] z RVs.nil ⟨a0_1, c0_2, a0_3, c0_4, a0_5, c0_6, z, z, z⟩
 ·replace hh := iteO_f h110 hh
  refine TL.g z (moveLoc (.inl z) z) (TL.g z (nilCheckLoc z z) (TL.g z (fieldLoc z fo66_0 z) (TL.g z (fieldLoc z fo31_2 z) (TL.g z (loadLoc z ag28 z (i := 1) z z) (TL.g z (lenC z underlying28 z) (TL.g z (OpVal.geq z z z) (TL.w z (pickFB z z z) (TL.j z z (TL.split 17 z (fun h111 => ?_) (fun h111 => ?_))))))))))
  ·replace hh := iteO_t h111 hh
   replace h111 := of_decide_eq_true h111
   refine TL.f z (TL.f z (TL.f z (TL.f z (TL.w z (pickTB z z z) (TL.en (TC.t z (TC.a (TL.l z z (TL.w z (nilCheckLoc z z) (TL.w z (fieldLoc z fo66_1 z) (TL.front 1 z z (TL.op z (storeB z sz4 z z z z z ?_)))))))))))))
   refine TL.en (TC.ofSub (Sub.f [4, 4, 4, 3] 4) (TC.ret (S.r ?_)))
   obtain rfl := so hh
   refine ⟨_, Sub.f [3, 3, 3, 3] 4, ?_⟩
   exact ro [Res.cells b0_0 #[.int .i64 x0.f.states, .slice a0_1 x0.f.starts.length c0_2, .slice a0_3 x0.f.ends.length c0_4, .slice a0_5 x0.f.arcs.length c0_6, .bool true] Eb0, Res.rowS 62 2 encTip (.slice a0_1 x0.f.starts.length c0_2) x0.f.starts, Res.rowS 62 2 encTip (.slice a0_3 x0.f.ends.length c0_4) x0.f.ends, Res.rowS 60 8 encArc (.slice a0_5 x0.f.arcs.length c0_6) x0.f.arcs] z RVs.nil ⟨a0_1, c0_2, a0_3, c0_4, a0_5, c0_6, z, z, z⟩
  ·replace hh := iteO_f h111 hh
   replace h111 := of_decide_eq_false h111
   refine TL.g z (fieldLoc z fo62_1 z) (TL.g z (loadLoc z ag9 z (i := 0) z z) (TL.g z (lenBs z underlying9 z) (TL.g z (OpVal.gtr z z z) (TL.w z (pickFB z z z) (TL.en (TC.cD z hh (fun h112 hh => ?_) (fun h112 hh => ?_)))))))
   ·refine TC.a (TL.l z z (TL.w z (nilCheckLoc z z) (TL.w z (fieldLoc z fo66_1 z) (TL.front 1 z z (TL.op z (storeB z sz4 z z z z z ?_))))))
    refine TL.en (TC.ofSub (Sub.f [4, 4, 4, 3] 4) (TC.ret (S.r ?_)))
    obtain rfl := so hh
    refine ⟨_, Sub.f [3, 3, 3, 3] 4, ?_⟩
    exact ro [Res.cells b0_0 #[.int .i64 x0.f.states, .slice a0_1 x0.f.starts.length c0_2, .slice a0_3 x0.f.ends.length c0_4, .slice a0_5 x0.f.arcs.length c0_6, .bool true] Eb0, Res.rowS 62 2 encTip (.slice a0_1 x0.f.starts.length c0_2) x0.f.starts, Res.rowS 62 2 encTip (.slice a0_3 x0.f.ends.length c0_4) x0.f.ends, Res.rowS 60 8 encArc (.slice a0_5 x0.f.arcs.length c0_6) x0.f.arcs] z RVs.nil ⟨a0_1, c0_2, a0_3, c0_4, a0_5, c0_6, z, z, z⟩
   ·refine TC.skip (S.n ?_)
    have u33 := grd_c hh
    replace hh := grd_t hh
    refine TC.draw [8, 9, 10, 11, 12] (by kernel_rfl) (TA.a 0 z (moveLoc (.inl z) z) z (TA.a 1 z (moveLoc (.inl z) z) z (TA.a 2 z (nilCheckLoc z z) z (TA.a 3 z (fieldLoc z fo66_0 z) z (TA.a 4 z (fieldLoc z fo31_2 z) z (TA.b 5 z (loadLoc z ag28 z (i := 1) z z) z (TA.b 6 z (loadAll z ag62 sz62 z (i := 0) z z) z (TA.ac 7 z (OpOk.lit (enc := encTip) [x1] z underlying28 sz62 ze62 z z z encTip_len (by decide) (by decide) Tip.zero z (by decide) z (by decide) encTip_one (fun a118 c119 => (k1 ?_)))))))))))
    refine TA.front 4 z z (TA.last 8 (by kernel_rfl) z z z (appendS z z underlying28 sz62 by62 ze62 z z (by decide) z z z (.inr ⟨_, 0, z⟩) (by simpa using u33) (by decide) (fun a121 c122 => ?_)))
    refine TZ.v 9 (by kernel_rfl) z z z (nilCheckLoc z z) z z (TZ.v 10 (by kernel_rfl) z z z (fieldLoc z fo66_0 z) z z (TZ.v 11 (by kernel_rfl) z z z (fieldLoc z fo31_2 z) z z (TZ.front 3 z z (TZ.last 12 (by kernel_rfl) z z z (storeSl z sz28 z z z z z ?_)))))
    refine TZ.done (by kernel_rfl) ?_
    obtain rfl := so hh
    refine ⟨_, Sub.f [5, 2, 5, 3] 4, ?_⟩
    exact RetOk.mk' (rs := []) [Res.cells b0_0 #[.int .i64 x0.f.states, .slice a0_1 x0.f.starts.length c0_2, .slice a121 ((x0.f.ends ++ [x1]).length) c122, .slice a0_5 x0.f.arcs.length c0_6, .bool x0.over] Eb0, Res.rowS 62 2 encTip (.slice a0_1 x0.f.starts.length c0_2) x0.f.starts, Res.rowS 62 2 encTip (.slice a121 (x0.f.ends ++ [x1]).length c122) (x0.f.ends ++ [x1]), Res.rowS 60 8 encArc (.slice a0_5 x0.f.arcs.length c0_6) x0.f.arcs] z (.inr z) RVs.nil (List.sublist_append_left _ _) ⟨a0_1, c0_2, a121, c122, a0_5, c0_6, z, z, z⟩

noncomputable def rat_grow_arc (x0 : Grow) (x1 : Arc) : Option (Grow) :=
 iteO x0.over (some (⟨(⟨x0.f.states, x0.f.starts, x0.f.ends, x0.f.arcs⟩ : Fst), true⟩ : Grow)) (iteO (decide (16384 ≤ ((x0.f.arcs.length : Nat) : Int))) (some (⟨(⟨x0.f.states, x0.f.starts, x0.f.ends, x0.f.arcs⟩ : Fst), true⟩ : Grow)) (iteO (decide (1024 < ((x1.out.length : Nat) : Int))) (some (⟨(⟨x0.f.states, x0.f.starts, x0.f.ends, x0.f.arcs⟩ : Fst), true⟩ : Grow)) (grd ((x0.f.arcs.length + [x1].length) * 72 ≤ 140737488355328) (some (⟨(⟨x0.f.states, x0.f.starts, x0.f.ends, (x0.f.arcs ++ [x1])⟩ : Fst), x0.over⟩ : Grow)))))
theorem rat_grow_arc_con {σ : Store} {x0 : Grow} {b0_0 : Nat} {Eb0 : Nat} {a0_1 : Option Addr} {c0_2 : Nat} {a0_3 : Option Addr} {c0_4 : Nat} {a0_5 : Option Addr} {c0_6 : Nat} {x1 : Arc}  {r : Grow} (hh : rat_grow_arc x0 x1 = some r) :
  Con Tryz.prog 42 #[loc b0_0 0, .agg #[.int .i64 x1.frm, .int .i64 x1.to, .int .u64 ((x1.set.a : Nat) : Int), .int .u64 ((x1.set.b : Nat) : Int), .int .u64 ((x1.set.c : Nat) : Int), .int .u64 ((x1.set.d : Nat) : Int), .string (bs x1.out), .bool x1.copy]] σ [Res.cells b0_0 #[.int .i64 x0.f.states, .slice a0_1 x0.f.starts.length c0_2, .slice a0_3 x0.f.ends.length c0_4, .slice a0_5 x0.f.arcs.length c0_6, .bool x0.over] Eb0, Res.rowS 62 2 encTip (.slice a0_1 x0.f.starts.length c0_2) x0.f.starts, Res.rowS 62 2 encTip (.slice a0_3 x0.f.ends.length c0_4) x0.f.ends, Res.rowS 60 8 encArc (.slice a0_5 x0.f.arcs.length c0_6) x0.f.arcs] (fun v σ' H' => ∃ (ao1 : Option Addr), ∃ (co2 : Nat), ∃ (ao3 : Option Addr), ∃ (co4 : Nat), ∃ (ao5 : Option Addr), ∃ (co6 : Nat), v = .tuple #[] ∧ σ = σ' ∧ H' = [Res.cells b0_0 #[.int .i64 r.f.states, .slice ao1 r.f.starts.length co2, .slice ao3 r.f.ends.length co4, .slice ao5 r.f.arcs.length co6, .bool r.over] Eb0, Res.rowS 62 2 encTip (.slice ao1 r.f.starts.length co2) r.f.starts, Res.rowS 62 2 encTip (.slice ao3 r.f.ends.length co4) r.f.ends, Res.rowS 60 8 encArc (.slice ao5 r.f.arcs.length co6) r.f.arcs]) := by
 dsimp only [rat_grow_arc] at hh
 refine Con.mk (n := 38) Tryz.func42 z z z (fun w0 => ?_)
 refine TC.weakR (TC.a (TL.op z (boxA z z z z (fun b108 => ?_))))
 refine TL.en (TC.seq (TC.a (TL.l z z (TL.w z (nilCheckLoc z z) (TL.w z (fieldLoc z fo66_1 z) (TL.w z (loadLoc z ag4 z (i := 1) z z) (TL.j z z (TL.split 8 z (fun h110 => ?_) (fun h110 => ?_)))))))))
 ·replace hh := iteO_t h110 hh
  refine TL.f z (TL.f z (TL.f z (TL.f z (TL.f z (TL.f z (TL.f z (TL.w z (pickTB z z z) (TL.j z z (TL.f z (TL.f z (TL.f z (TL.f z (TL.w z (pickTB z z z) (TL.en (TC.t z ?_)))))))))))))))
  refine TC.a (TL.l z z (TL.w z (nilCheckLoc z z) (TL.w z (fieldLoc z fo66_1 z) (TL.front 1 z z (TL.op z (storeB z sz4 z z z z z ?_))))))
  refine TL.en (TC.ofSub (Sub.f [4, 4, 4, 3] 4) (TC.ret (S.r ?_)))
  obtain rfl := so hh
  refine ⟨_, Sub.f [3, 3, 3, 3] 4, ?_⟩
  exact ro [Res.cells b0_0 #[.int .i64 x0.f.states, .slice a0_1 x0.f.starts.length c0_2, .slice a0_3 x0.f.ends.length c0_4, .slice a0_5 x0.f.arcs.length c0_6, .bool true] Eb0, Res.rowS 62 2 encTip (.slice a0_1 x0.f.starts.length c0_2) x0.f.starts, Res.rowS 62 2 encTip (.slice a0_3 x0.f.ends.length c0_4) x0.f.ends, Res.rowS 60 8 encArc (.slice a0_5 x0.f.arcs.length c0_6) x0.f.arcs] z RVs.nil ⟨a0_1, c0_2, a0_3, c0_4, a0_5, c0_6, z, z, z⟩
 ·replace hh := iteO_f h110 hh
  refine TL.g z (moveLoc (.inl z) z) (TL.g z (nilCheckLoc z z) (TL.g z (fieldLoc z fo66_0 z) (TL.g z (fieldLoc z fo31_3 z) (TL.g z (loadLoc z ag29 z (i := 1) z z) (TL.g z (lenC z underlying29 z) (TL.g z (OpVal.geq z z z) (TL.w z (pickFB z z z) (TL.j z z (TL.split 17 z (fun h111 => ?_) (fun h111 => ?_))))))))))
  ·replace hh := iteO_t h111 hh
   replace h111 := of_decide_eq_true h111
   refine TL.f z (TL.f z (TL.f z (TL.f z (TL.w z (pickTB z z z) (TL.en (TC.t z (TC.a (TL.l z z (TL.w z (nilCheckLoc z z) (TL.w z (fieldLoc z fo66_1 z) (TL.front 1 z z (TL.op z (storeB z sz4 z z z z z ?_)))))))))))))
   refine TL.en (TC.ofSub (Sub.f [4, 4, 4, 3] 4) (TC.ret (S.r ?_)))
   obtain rfl := so hh
   refine ⟨_, Sub.f [3, 3, 3, 3] 4, ?_⟩
   exact ro [Res.cells b0_0 #[.int .i64 x0.f.states, .slice a0_1 x0.f.starts.length c0_2, .slice a0_3 x0.f.ends.length c0_4, .slice a0_5 x0.f.arcs.length c0_6, .bool true] Eb0, Res.rowS 62 2 encTip (.slice a0_1 x0.f.starts.length c0_2) x0.f.starts, Res.rowS 62 2 encTip (.slice a0_3 x0.f.ends.length c0_4) x0.f.ends, Res.rowS 60 8 encArc (.slice a0_5 x0.f.arcs.length c0_6) x0.f.arcs] z RVs.nil ⟨a0_1, c0_2, a0_3, c0_4, a0_5, c0_6, z, z, z⟩
  ·replace hh := iteO_f h111 hh
   replace h111 := of_decide_eq_false h111
   refine TL.g z (fieldLoc z fo60_3 z) (TL.g z (loadLoc z ag9 z (i := 0) z z) (TL.g z (lenBs z underlying9 z) (TL.g z (OpVal.gtr z z z) (TL.w z (pickFB z z z) (TL.en (TC.cD z hh (fun h112 hh => ?_) (fun h112 hh => ?_)))))))
   ·refine TC.a (TL.l z z (TL.w z (nilCheckLoc z z) (TL.w z (fieldLoc z fo66_1 z) (TL.front 1 z z (TL.op z (storeB z sz4 z z z z z ?_))))))
    refine TL.en (TC.ofSub (Sub.f [4, 4, 4, 3] 4) (TC.ret (S.r ?_)))
    obtain rfl := so hh
    refine ⟨_, Sub.f [3, 3, 3, 3] 4, ?_⟩
    exact ro [Res.cells b0_0 #[.int .i64 x0.f.states, .slice a0_1 x0.f.starts.length c0_2, .slice a0_3 x0.f.ends.length c0_4, .slice a0_5 x0.f.arcs.length c0_6, .bool true] Eb0, Res.rowS 62 2 encTip (.slice a0_1 x0.f.starts.length c0_2) x0.f.starts, Res.rowS 62 2 encTip (.slice a0_3 x0.f.ends.length c0_4) x0.f.ends, Res.rowS 60 8 encArc (.slice a0_5 x0.f.arcs.length c0_6) x0.f.arcs] z RVs.nil ⟨a0_1, c0_2, a0_3, c0_4, a0_5, c0_6, z, z, z⟩
   ·refine TC.skip (S.n ?_)
    have u33 := grd_c hh
    replace hh := grd_t hh
    refine TC.draw [8, 9, 10, 11, 12] (by kernel_rfl) (TA.a 0 z (moveLoc (.inl z) z) z (TA.a 1 z (moveLoc (.inl z) z) z (TA.a 2 z (nilCheckLoc z z) z (TA.a 3 z (fieldLoc z fo66_0 z) z (TA.a 4 z (fieldLoc z fo31_3 z) z (TA.b 5 z (loadLoc z ag29 z (i := 1) z z) z (TA.b 6 z (loadAll z ag60 sz60 z (i := 0) z z) z (TA.ac 7 z (OpOk.lit (enc := encArc) [x1] z underlying29 sz60 ze60 z z z encArc_len (by decide) (by decide) Arc.zero z (by decide) z (by decide) encArc_one (fun a118 c119 => (k1 ?_)))))))))))
    refine TA.front 5 z z (TA.last 8 (by kernel_rfl) z z z (appendS z z underlying29 sz60 by60 ze60 z z (by decide) z z z (.inr ⟨_, 0, z⟩) (by simpa using u33) (by decide) (fun a121 c122 => ?_)))
    refine TZ.v 9 (by kernel_rfl) z z z (nilCheckLoc z z) z z (TZ.v 10 (by kernel_rfl) z z z (fieldLoc z fo66_0 z) z z (TZ.v 11 (by kernel_rfl) z z z (fieldLoc z fo31_3 z) z z (TZ.front 3 z z (TZ.last 12 (by kernel_rfl) z z z (storeSl z sz29 z z z z z ?_)))))
    refine TZ.done (by kernel_rfl) ?_
    obtain rfl := so hh
    refine ⟨_, Sub.f [1, 5, 5, 3] 4, ?_⟩
    exact RetOk.mk' (rs := []) [Res.cells b0_0 #[.int .i64 x0.f.states, .slice a0_1 x0.f.starts.length c0_2, .slice a0_3 x0.f.ends.length c0_4, .slice a121 ((x0.f.arcs ++ [x1]).length) c122, .bool x0.over] Eb0, Res.rowS 62 2 encTip (.slice a0_1 x0.f.starts.length c0_2) x0.f.starts, Res.rowS 62 2 encTip (.slice a0_3 x0.f.ends.length c0_4) x0.f.ends, Res.rowS 60 8 encArc (.slice a121 (x0.f.arcs ++ [x1]).length c122) (x0.f.arcs ++ [x1])] z (.inr z) RVs.nil (List.sublist_append_left _ _) ⟨a0_1, c0_2, a0_3, c0_4, a121, c122, z, z, z⟩

noncomputable def rat_grow_look (x0 : Grow) : Option (Fst × Int) :=
 iteO x0.over (some ((⟨0, ([] : List Tip), ([] : List Tip), ([] : List Arc)⟩ : Fst), 2)) (iteO (decide (1024 < x0.f.states)) (some ((⟨0, ([] : List Tip), ([] : List Tip), ([] : List Arc)⟩ : Fst), 2)) (some ((⟨x0.f.states, x0.f.starts, x0.f.ends, x0.f.arcs⟩ : Fst), 0)))
theorem rat_grow_look_con {σ : Store} {x0 : Grow} {b0_0 : Nat} {Eb0 : Nat} {a0_1 : Option Addr} {c0_2 : Nat} {a0_3 : Option Addr} {c0_4 : Nat} {a0_5 : Option Addr} {c0_6 : Nat} {b1_0 : Nat} {Eb1 : Nat} {b2_0 : Nat} {Eb2 : Nat} {x2g : Int}  {r : Fst × Int} (hh : rat_grow_look x0 = some r) :
  ConD Tryz.prog 30 #[loc b0_0 0, loc b1_0 0, loc b2_0 0] σ [Res.cells b0_0 #[.int .i64 x0.f.states, .slice a0_1 x0.f.starts.length c0_2, .slice a0_3 x0.f.ends.length c0_4, .slice a0_5 x0.f.arcs.length c0_6, .bool x0.over] Eb0, Res.rowS 62 2 encTip (.slice a0_1 x0.f.starts.length c0_2) x0.f.starts, Res.rowS 62 2 encTip (.slice a0_3 x0.f.ends.length c0_4) x0.f.ends, Res.rowS 60 8 encArc (.slice a0_5 x0.f.arcs.length c0_6) x0.f.arcs, Res.cells b1_0 #[.int .i64 0, .slice none 0 0, .slice none 0 0, .slice none 0 0] Eb1, Res.cells b2_0 #[.int .i64 x2g] Eb2] (fun v σ' H' => ∃ (ao1 : Option Addr), ∃ (co2 : Nat), ∃ (ao4 : Option Addr), ∃ (co5 : Nat), ∃ (ao7 : Option Addr), ∃ (co8 : Nat), v = .tuple #[] ∧ RS σ' 2 encTip (.slice ao1 r.1.starts.length co2) r.1.starts ∧ RS σ' 2 encTip (.slice ao4 r.1.ends.length co5) r.1.ends ∧ RS σ' 8 encArc (.slice ao7 r.1.arcs.length co8) r.1.arcs ∧ H' = [Res.cells b1_0 #[.int .i64 r.1.states, .slice ao1 r.1.starts.length co2, .slice ao4 r.1.ends.length co5, .slice ao7 r.1.arcs.length co8] Eb1, Res.cells b2_0 #[.int .i64 r.2] Eb2]) := by
 dsimp only [rat_grow_look] at hh
 refine ConD.mk (n := 31) Tryz.func30 z z z (fun w0 => ?_)
 refine TC.weakR (TC.seq (TC.a (TL.l z z (TL.w z (nilCheckLoc z z) (TL.w z (fieldLoc z fo66_1 z) (TL.w z (loadLoc z ag4 z (i := 0) z z) (TL.j z z (TL.split 10 z (fun h110 => ?_) (fun h110 => ?_)))))))))
 ·replace hh := iteO_t h110 hh
  refine TL.f z (TL.f z (TL.f z (TL.f z (TL.f z (TL.f z (TL.w z (pickTB z z z) (TL.en (TC.t z (TC.a (TL.l z z (TL.l z z (TL.w z (buildL z pl31 ze31 z) (TL.w z (nilCheckLoc z z) (TL.front 4 z z (TL.op z (storeAll z sz31 z z z z z z ?_))))))))))))))))
  refine TL.w z (nilCheckLoc z z) (TL.front 5 z z (TL.op z (storeI z sz32 z z z z z ?_)))
  refine TL.en (TC.ofSub (Sub.f [1] 2) (TC.ret (S.r ?_)))
  obtain rfl := so hh
  refine ⟨_, Sub.f [1, 1] 2, ?_⟩
  exact ro [Res.cells b1_0 #[.int .i64 0, .slice none 0 0, .slice none 0 0, .slice none 0 0] Eb1, Res.cells b2_0 #[.int .i64 2] Eb2] z RVs.nil ⟨none, 0, none, 0, none, 0, z, (RS.nilF _ encTip encTip_len), (RS.nilF _ encTip encTip_len), (RS.nilF _ encArc encArc_len), z⟩
 ·replace hh := iteO_f h110 hh
  refine TL.g z (moveLoc (.inl z) z) (TL.g z (nilCheckLoc z z) (TL.g z (fieldLoc z fo66_0 z) (TL.g z (fieldLoc z fo31_0 z) (TL.g z (loadLoc z ag3 z (i := 0) z z) (TL.g z (OpVal.gtr z z z) (TL.w z (pickFB z z z) (TL.en (TC.cD z hh (fun h111 hh => ?_) (fun h111 hh => ?_)))))))))
  ·refine TC.a (TL.l z z (TL.l z z (TL.w z (buildL z pl31 ze31 z) (TL.w z (nilCheckLoc z z) (TL.front 4 z z (TL.op z (storeAll z sz31 z z z z z z ?_)))))))
   refine TL.w z (nilCheckLoc z z) (TL.front 5 z z (TL.op z (storeI z sz32 z z z z z ?_)))
   refine TL.en (TC.ofSub (Sub.f [1] 2) (TC.ret (S.r ?_)))
   obtain rfl := so hh
   refine ⟨_, Sub.f [1, 1] 2, ?_⟩
   exact ro [Res.cells b1_0 #[.int .i64 0, .slice none 0 0, .slice none 0 0, .slice none 0 0] Eb1, Res.cells b2_0 #[.int .i64 2] Eb2] z RVs.nil ⟨none, 0, none, 0, none, 0, z, (RS.nilF _ encTip encTip_len), (RS.nilF _ encTip encTip_len), (RS.nilF _ encArc encArc_len), z⟩
  ·refine TC.skip (S.n (TC.region (TL.l z z (TL.l z z (TL.l z z (TL.w z (nilCheckLoc z z) (TL.w z (fieldLoc z fo66_0 z) (TL.w z (loadLocA z ag31 sz31 z (i := 0) z z z) (TL.w z (nilCheckLoc z z) (TL.front 4 z z (TL.op z (storeAll z sz31 z z z z z z ?_))))))))))))
   refine TL.w z (nilCheckLoc z z) (TL.front 5 z z (TL.op z (storeI z sz32 z z z z z ?_)))
   refine TL.front 3 z z (TL.sealS encTip_len (fun τ114 hle113 hr112 => ?_))
   have hr112b := hr112.rv.big
   refine TL.front 3 z z (TL.sealS encTip_len (fun τ117 hle116 hr115 => ?_))
   replace hr112 := hr112.mono hle116
   have hr115b := hr115.rv.big
   refine TL.front 3 z z (TL.sealS encArc_len (fun τ120 hle119 hr118 => ?_))
   replace hr112 := hr112.mono hle119
   replace hr115 := hr115.mono hle119
   have hr118b := hr118.rv.big
   refine TL.nil ?_
   obtain rfl := so hh
   refine ⟨_, Sub.f [1] 2, ?_⟩
   exact RetOk.mk' (rs := []) [Res.cells b1_0 #[.int .i64 x0.f.states, .slice a0_1 x0.f.starts.length c0_2, .slice a0_3 x0.f.ends.length c0_4, .slice a0_5 x0.f.arcs.length c0_6] Eb1, Res.cells b2_0 #[.int .i64 0] Eb2] z (.inr z) RVs.nil (List.sublist_append_left _ _) ⟨a0_1, c0_2, a0_3, c0_4, a0_5, c0_6, z, hr112, hr115, hr118, z⟩

end Go.Proofs.YtcfjjckencjjeaaGreatDoor
end

/- Arr -/
section
/- Arrays of elements of one kind, in a variable or as a value. Plain lemmas over any program; no condition. -/
set_option linter.unusedVariables false
set_option linter.unusedSimpArgs false
namespace Go.E
open Go

@[irreducible] def arrA {α : Type} (enc : α → List Value) (l : List α) : Array Value := (l.flatMap enc).toArray
theorem arrA_list {α : Type} {enc : α → List Value} {l : List α} : (arrA enc l).toList = l.flatMap enc := by unfold arrA; rfl
theorem arrA_size {α : Type} {enc : α → List Value} {s : Nat} (hl : ∀ x, (enc x).length = s) (l : List α) : (arrA enc l).size = l.length * s := by
  rw [← Array.length_toList, arrA_list, flatMap_len hl]
theorem arrA_of {α : Type} {enc : α → List Value} {l : List α} : arrA enc l = (l.flatMap enc).toArray := by unfold arrA; rfl
theorem flat_set {α : Type} {enc : α → List Value} {s : Nat} (hl : ∀ x, (enc x).length = s) : ∀ (l : List α) (i : Nat) (x : α), i < l.length → splice (l.flatMap enc) (i * s) (enc x) = (l.set i x).flatMap enc
  | [], _, _, h => by cases h
  | y :: l, 0, x, _ => by
    simp only [splice, Nat.zero_mul, List.take_zero, List.nil_append, Nat.zero_add, List.flatMap_cons, List.set_cons_zero]
    rw [List.drop_append_of_le_length (by rw [hl, hl]; exact Nat.le_refl _), List.drop_of_length_le (by rw [hl, hl]; exact Nat.le_refl _), List.nil_append]
  | y :: l, i + 1, x, h => by
    have ih := flat_set hl l i x (by simpa using h)
    have e : (i + 1) * s = (enc y).length + i * s := by rw [hl, Nat.add_mul, Nat.one_mul, Nat.add_comm]
    simp only [splice, List.flatMap_cons, List.set_cons_succ] at ih ⊢
    rw [e, List.take_length_add_append, Nat.add_assoc, List.drop_length_add_append, List.append_assoc, List.append_assoc, ← ih, List.append_assoc]
theorem nth_got {α : Type} {l : List α} {i : Nat} (h : i < l.length) (d : α) : l[i]? = some (nth l i d) := by
  unfold nth; rw [List.getD_eq_getElem?_getD, List.getElem?_eq_getElem h]; rfl
section
variable {P : Program} {n : Nat} {e : Env} {σ : Store} {H : List Res} {o : Oper} {x y : Operand} {α : Type} {enc : α → List Value} {l : List α}
theorem OpVal.loadArr {T b i s E j : Nat} (d : α) (ho : o.op = .load T x) (hA : aggOf P T = some true) (hz : szOf P T = some s) (hx : ev e x = loc b (0 + i * s)) (hi : H[j]? = some (Res.cells b (arrA enc l) E)) (hl : ∀ x, (enc x).length = s) (hk : i < l.length) :
    OpVal P n o e σ H (.agg (enc (nth l i d)).toArray) :=
  OpVal.loadLocA ho hA hz (by rw [hx, Nat.zero_add]) hi (hl _) (by rw [arrA_list]; exact flatMap_seg hl l i _ (nth_got hk d))
theorem OpVal.indexV {T E s m i : Nat} {k : IntKind} (d : α) (ho : o.op = .index T x y) (ht : P.underlying T = some (.array m E)) (hz : szOf P E = some s) (hA : aggOf P E = some true) (hx : ev e x = .agg (arrA enc l)) (hy : ev e y = .int k (i : Nat)) (hl : ∀ x, (enc x).length = s) (hm : l.length = m) (hi : i < m) :
    OpVal P n o e σ H (.agg (enc (nth l i d)).toArray) := fun w _ => by
  have h1 : (arrA enc l).extract (i * s) (i * s + s) = (enc (nth l i d)).toArray := by
    apply Array.ext'
    rw [Array.toList_extract, arrA_list, List.extract_eq_take_drop, ← flatMap_seg hl l i _ (nth_got (hm ▸ hi) d)]
    congr 1; omega
  have h2 : (i : Int) < (m : Int) := by omega
  simp [execOp, ho, hx, hy, Instr.index, asIntOf, run_underlying ht, run_sizeOf hz, part, run_isAgg hA, h1, h2]
  intro h; omega
theorem OpOk.storeArr {X : Ctx} {F : List Res} {K : Env → Store → List Res → Prop} {T b i s E : Nat} {u : α} (ho : o.op = .store T x y) (hs : szOf X.P T = some s) (hd : o.dst = none) (hx : ev e x = loc b (0 + i * s)) (hv : ev e y = .agg (enc u).toArray) (hl : ∀ x, (enc x).length = s) (h1 : ∀ x, ∀ u ∈ enc x, u.oneCell' = true) (hi : i < l.length)
    (kk : K e σ (Res.cells b (arrA enc (l.set i u)) E :: F)) : OpOk X o e σ (Res.cells b (arrA enc l) E :: F) K := by
  refine OpOk.store (k := i * s) (s := s) ho hs hd (by rw [hx, Nat.zero_add]) hv (by show (enc u).toArray.size = s; simpa using hl u) (fun v hv => h1 u v (by simpa [Value.cells] using hv)) ?_ ?_ kk
  · rw [Nat.ble_eq, arrA_size hl]
    have := Nat.mul_le_mul_right s (show i + 1 ≤ l.length by omega)
    rw [Nat.add_mul, Nat.one_mul] at this; exact this
  · rw [arrA_list, arrA_of (l := l.set i u)]
    congr 1
    show splice _ _ (enc u).toArray.toList = _
    rw [List.toList_toArray]; exact flat_set hl l i u hi
end
end Go.E
end

/- M1 -/
section
/- Decompiled: an automaton's way back; automatons as transducers. -/
set_option linter.unusedVariables false
set_option linter.unusedSimpArgs false
namespace Go.Proofs.YtcfjjckencjjeaaGreatDoor
open Go Go.E Go.E.OpVal Go.E.OpOk Go.Proofs.Tryz
set_option maxRecDepth 100000
private theorem ag109 : Go.E.aggOf Tryz.prog 109 = some true := by kernel_rfl
private theorem ag26 : Go.E.aggOf Tryz.prog 26 = some true := by kernel_rfl
private theorem ag32 : Go.E.aggOf Tryz.prog 32 = some false := by kernel_rfl
private theorem pf22 : Go.E.plainF Tryz.prog 22 = true := by kernel_rfl
private theorem pf23 : Go.E.plainF Tryz.prog 23 = true := by kernel_rfl
private theorem pf30 : Go.E.plainF Tryz.prog 30 = true := by kernel_rfl
private theorem pf31 : Go.E.plainF Tryz.prog 31 = true := by kernel_rfl
private theorem pf32 : Go.E.plainF Tryz.prog 32 = true := by kernel_rfl
private theorem pf41 : Go.E.plainF Tryz.prog 41 = true := by kernel_rfl
private theorem pf42 : Go.E.plainF Tryz.prog 42 = true := by kernel_rfl
private theorem pf56 : Go.E.plainF Tryz.prog 56 = true := by kernel_rfl
private theorem pf76 : Go.E.plainF Tryz.prog 76 = true := by kernel_rfl
private theorem pl60 : Go.E.plOf Tryz.prog 60 = some #[(0, 1), (1, 1), (2, 4), (6, 1), (7, 1)] := by kernel_rfl
private theorem pl62 : Go.E.plOf Tryz.prog 62 = some #[(0, 1), (1, 1)] := by kernel_rfl
private theorem pl66 : Go.E.plOf Tryz.prog 66 = some #[(0, 4), (4, 1)] := by kernel_rfl
private theorem sz109 : Go.E.szOf Tryz.prog 109 = some 4096 := by kernel_rfl
private theorem sz26 : Go.E.szOf Tryz.prog 26 = some 3 := by kernel_rfl
private theorem za109 : Go.E.zeroOf Tryz.prog 109 = some (.agg (Go.E.arrA Go.E.encSet (List.replicate 1024 BSet.zero))) := by rw [Go.E.arrA_of]; kernel_rfl
private theorem ze22 : Go.E.zeroOf Tryz.prog 22 = some (.slice none 0 0) := by kernel_rfl
private theorem ze32 : Go.E.zeroOf Tryz.prog 32 = some (.int .i64 0) := by kernel_rfl
private theorem ze66 : Go.E.zeroOf Tryz.prog 66 = some (.agg #[.int .i64 0, .slice none 0 0, .slice none 0 0, .slice none 0 0, .bool false]) := by kernel_rfl

noncomputable def dfa_Back_r64 (x0 : Dfa) (k139 : Nat) (l172 : List BSet) (y64_0 : Int) (y64_1 : BSet) : Option (Nat × (List BSet)) :=
 grd (0 ≤ y64_0 ∧ y64_0 < ((nth x0.next k139 ([] : List Int)).length : Int)) (grd (0 ≤ y64_0 ∧ y64_0 < ((nth x0.next k139 ([] : List Int)).length : Int)) (grd (0 ≤ (nth (nth x0.next k139 ([] : List Int)) y64_0.toNat (0 : Int)) ∧ (nth (nth x0.next k139 ([] : List Int)) y64_0.toNat (0 : Int)) < (1024 : Int)) (bnd (set_Any (nth l172 ((nth (nth x0.next k139 ([] : List Int)) y64_0.toNat (0 : Int)).toNat) BSet.zero) y64_1) (fun v69 => grd (0 ≤ (nth (nth x0.next k139 ([] : List Int)) y64_0.toNat (0 : Int)) ∧ (nth (nth x0.next k139 ([] : List Int)) y64_0.toNat (0 : Int)) < (1024 : Int)) (some (0, (l172.set ((nth (nth x0.next k139 ([] : List Int)) y64_0.toNat (0 : Int)).toNat) v69)))))))
noncomputable def dfa_Back_j2 (k194 : Nat) (l199 : List Arrow) : Option (((List Arrow) × Nat) ⊕ (((List Int) × (List Arrow) × Nat) ⊕ (Nfa × Int))) :=
 nxt (l199, (k194 + 1))
noncomputable def dfa_Back_b2 (l172 : List BSet) (k139 : Nat) (l151 : List Int) (l191 : List Arrow) (k194 : Nat) : Option (((List Arrow) × Nat) ⊕ (((List Int) × (List Arrow) × Nat) ⊕ (Nfa × Int))) :=
 iteO (decide (((k194 : Nat) : Int) < 1024)) (iteO (decide ((nth l172 k194 BSet.zero) ≠ BSet.zero)) (grd ((l191.length + [(⟨((k139 : Nat) : Int), ((k194 : Nat) : Int), (nth l172 k194 BSet.zero)⟩ : Arrow)].length) * 48 ≤ 140737488355328) (dfa_Back_j2 k194 (l191 ++ [(⟨((k139 : Nat) : Int), ((k194 : Nat) : Int), (nth l172 k194 BSet.zero)⟩ : Arrow)]))) (dfa_Back_j2 k194 l191)) (fin (iteO (decide (65536 < ((l191.length : Nat) : Int))) (fin (some ((⟨0, ([] : List Int), ([] : List Int), ([] : List Arrow)⟩ : Nfa), 2))) (nxt (l151, l191, (k139 + 1)))))
noncomputable def dfa_Back_k64 (k139 : Nat) (l151 : List Int) (l136 : List Arrow) (jz : Nat) (l172 : List BSet) : Option (((List Int) × (List Arrow) × Nat) ⊕ (Nfa × Int)) :=
 jsel jz (iter (fun q : (List Arrow) × Nat => dfa_Back_b2 l172 k139 l151 q.1 q.2) (l136, 0)) (fun _ => none)
noncomputable def dfa_Back_j1 (v6 : (List BSet) × Int) (x0 : Dfa) (k139 : Nat) (l136 : List Arrow) (l151 : List Int) : Option (((List Int) × (List Arrow) × Nat) ⊕ (Nfa × Int)) :=
 bnd (dfa_classes v6.1) (fun v54 => bnd (dfa_classes_1 (stepY (fun (q : (List BSet)) (x : Int × BSet) => dfa_Back_r64 x0 k139 q x.1 x.2)) (0, (List.replicate 1024 BSet.zero)) v54) (fun zr64 => dfa_Back_k64 k139 l151 l136 zr64.1 zr64.2))
noncomputable def dfa_Back_b1 (x0 : Dfa) (v6 : (List BSet) × Int) (l132 : List Int) (l136 : List Arrow) (k139 : Nat) : Option (((List Int) × (List Arrow) × Nat) ⊕ (Nfa × Int)) :=
 iteO (decide (((k139 : Nat) : Int) < ((x0.next.length : Nat) : Int))) (grd (k139 < x0.fin.length) (iteO (nth x0.fin k139 false) (grd ((l132.length + [((k139 : Nat) : Int)].length) * 8 ≤ 140737488355328) (dfa_Back_j1 v6 x0 k139 l136 (l132 ++ [((k139 : Nat) : Int)]))) (dfa_Back_j1 v6 x0 k139 l136 l132))) (fin (some ((⟨((x0.next.length : Nat) : Int), [0], l132, l136⟩ : Nfa), 0)))
noncomputable def dfa_Back (x0 : Dfa) : Option (Nfa × Int) :=
 bnd (part_Sets x0.cls) (fun v6 => iteO (decide (v6.2 ≠ 0)) (some ((⟨0, ([] : List Int), ([] : List Int), ([] : List Arrow)⟩ : Nfa), 1)) (bnd (dfa_Check x0) (fun v16 => iteO (decide (v16 ≠ 0)) (some ((⟨0, ([] : List Int), ([] : List Int), ([] : List Arrow)⟩ : Nfa), 1)) (iter (fun q : (List Int) × (List Arrow) × Nat => dfa_Back_b1 x0 v6 q.1 q.2.1 q.2.2) (([] : List Int), ([] : List Arrow), 0)))))
def dfa_Back_P (σ : Store) (r : Nfa × Int) : Value → Store → List Res → Prop := fun v σ' H' =>
 ∃ (a1 : Option Addr), ∃ (c1 : Nat), ∃ (a2 : Option Addr), ∃ (c2 : Nat), ∃ (a3 : Option Addr), ∃ (c3 : Nat),  v = .tuple #[.agg #[.int .i64 r.1.states, .slice a1 r.1.starts.length c1, .slice a2 r.1.ends.length c2, .slice a3 r.1.edges.length c3], .int .i64 r.2] ∧ RS σ' 1 Go.E.encI (.slice a1 r.1.starts.length c1) r.1.starts ∧ RS σ' 1 Go.E.encI (.slice a2 r.1.ends.length c2) r.1.ends ∧ RS σ' 6 encE (.slice a3 r.1.edges.length c3) r.1.edges ∧ H' = []
theorem dfa_Back_con {σ : Store} {x0 : Dfa} {a0_0 : Option Addr} {c0_0 : Nat} {a0_1 : Option Addr} {c0_1 : Nat} {a0_2 : Option Addr} {c0_2 : Nat} (f0_0 : RS σ 1 Go.E.encI (.slice a0_0 x0.cls.length c0_0) x0.cls) (f0_1 : RZ σ (pkSl 1 Go.E.encI Go.E.encI_len) (.slice a0_1 x0.next.length c0_1) x0.next) (f0_2 : RS σ 1 encB (.slice a0_2 x0.fin.length c0_2) x0.fin) {r : Nfa × Int} (hh : dfa_Back x0 = some r) :
  Con Tryz.prog 41 #[.agg #[.slice a0_0 x0.cls.length c0_0, .slice a0_1 x0.next.length c0_1, .slice a0_2 x0.fin.length c0_2]] σ [] (dfa_Back_P σ r) := by
 dsimp only [dfa_Back] at hh
 have f0_0b := f0_0.rv.big
 have f0_1b := f0_1.big
 have f0_2b := f0_2.rv.big
 refine Con.mk (n := 94) Tryz.func41 z z z (fun w0 => ?_)
 refine TC.a (TL.op z (boxA z z z z (fun b101 => ?_)))
 refine TL.op z (OpOk.alloc z ze86 z z (fun b103 => ?_))
 refine TL.i z z (TL.en (TC.a (TL.w z (fieldLoc z fo26_0 z) (TL.w z (loadLoc z ag22 z (i := 1) z z) ?_))))
 obtain ⟨v6, u6, hh⟩ := bnd_e hh
 refine TL.op z (OpOk.call (part_Sets_con f0_0 u6) z z pf40 z z z z ?_)
 rintro _ τ105 _ hle105 ⟨a105_1, c105_1, rfl, hr105_0, rfl⟩
 replace f0_0 := f0_0.mono hle105
 replace f0_1 := f0_1.mono hle105
 replace f0_2 := f0_2.mono hle105
 have hr105_0b := hr105_0.rv.big
 refine TL.w z (moveT (.inl z) z) (TL.w z (OpVal.extract z z z) (TL.w z (OpVal.extract z z z) (TL.s z z (TL.i z z (TL.en (TC.seq (TC.a (TL.i z z (TL.w z (OpVal.neq z z z) (TL.j z z (TL.split 22 z (fun h106 => ?_) (fun h106 => ?_))))))))))))
 ·replace hh := iteO_t h106 hh
  replace h106 := of_decide_eq_true h106
  refine TL.f z (TL.f z (TL.f z (TL.w z (pickTB z z z) (TL.en (TC.t z (TC.a (TL.w z (buildL z pl86 ze86 z) (TL.op z (storeAll z sz86 z z z z z z ?_)))))))))
  refine TL.i z z (TL.en (TC.rt 1 (S.r ?_)))
  obtain rfl := so hh
  exact ro [] z (RVs.agg ag86 sz86 z (i := 0) z z (RVs.tmp z RVs.nil)) ⟨none, 0, none, 0, none, 0, z, (RS.nilF _ Go.E.encI Go.E.encI_len), (RS.nilF _ Go.E.encI Go.E.encI_len), (RS.nilF _ encE encE_len), z⟩
 ·replace hh := iteO_f h106 hh
  replace h106 := of_decide_eq_false h106
  refine TL.g z (loadAll z ag26 sz26 z (i := 1) z z) ?_
  obtain ⟨v16, u16, hh⟩ := bnd_e hh
  refine TL.gon z z z z z (callP (dfa_Check_con (x0 := x0) f0_0 f0_1 f0_2 u16) z z pf22 z z z ?_)
  refine TL.g z (OpVal.neq z z z) (TL.w z (pickFB z z z) (TL.en (TC.cD z hh (fun h107 hh => ?_) (fun h107 hh => ?_))))
  ·refine TC.a (TL.w z (buildL z pl86 ze86 z) (TL.op z (storeAll z sz86 z z z z z z ?_)))
   refine TL.i z z (TL.en (TC.rt 1 (S.r ?_)))
   obtain rfl := so hh
   exact ro [] z (RVs.agg ag86 sz86 z (i := 0) z z (RVs.tmp z RVs.nil)) ⟨none, 0, none, 0, none, 0, z, (RS.nilF _ Go.E.encI Go.E.encI_len), (RS.nilF _ Go.E.encI Go.E.encI_len), (RS.nilF _ encE encE_len), z⟩
  ·refine TC.skip (S.n (TC.a (TL.w z (fieldLoc z fo26_1 z) (TL.w z (loadLoc z ag23 z (i := 1) z z) (TL.w z (lenC z underlying23 z) (TL.op z (OpOk.lit (enc := Go.E.encI) [0] z underlying22 sz3 ze3 z z z Go.E.encI_len (by decide) (by decide) (0 : Int) z (by decide) z (by decide) Go.E.encI_one (fun a108 c109 => ?_))))))))
   refine TL.w z (buildL z pl86 ze86 z) (TL.op z (OpOk.alloc z ze86 z z (fun b111 => ?_)))
   refine TL.op z (storeAll z sz86 z z z z z z ?_)
   refine TL.en (TC.seq (TC.a (TL.w z (fieldLoc z fo26_1 z) (TL.w z (loadLoc z ag23 z (i := 3) z z) (TL.w z (lenC z underlying23 z) (TL.i z z (TL.en (TC.block (TC.nilS 3 1 Go.E.encI (TC.nilS 90 6 encE (TC.loopG (α := ((List Int) × (List Arrow) × Nat) × ((Option Addr) × Nat × (Option Addr) × Nat × Store)) (rgs [(3, 1), (7, 3), (12, 2), (36, 18), (69, 24)]) (fun g => [(36, .int .i64 ((g.1.2.2 : Nat) : Int))]) (fun g => [Res.cells b101 #[.slice a0_0 x0.cls.length c0_0, .slice a0_1 x0.next.length c0_1, .slice a0_2 x0.fin.length c0_2] 26, Res.cells b103 #[.int .i64 0, .slice none 0 0, .slice none 0 0, .slice none 0 0] 86, Res.cells b111 #[.int .i64 ((x0.next.length : Nat) : Int), .slice a108 [0].length c109, .slice g.2.1 g.1.1.length g.2.2.1, .slice g.2.2.2.1 g.1.2.1.length g.2.2.2.2.1] 86, Res.rowS 3 1 Go.E.encI (.slice a108 [0].length c109) [0], Res.rowS 3 1 Go.E.encI (.slice g.2.1 g.1.1.length g.2.2.1) g.1.1, Res.rowS 90 6 encE (.slice g.2.2.2.1 g.1.2.1.length g.2.2.2.2.1) g.1.2.1]) (fun g => g.2.2.2.2.2) (fun g => iter (fun q : (List Int) × (List Arrow) × Nat => dfa_Back_b1 x0 v6 q.1 q.2.1 q.2.2) g.1 = some r ∧ Store.le τ105 g.2.2.2.2.2) (fun g => rounds (fun q : (List Int) × (List Arrow) × Nat => dfa_Back_b1 x0 v6 q.1 q.2.1 q.2.2) g.1) ((([] : List Int), ([] : List Arrow), 0), (none, 0, none, 0, τ105)) (Sub.f [1, 3, 3, 4, 5] 6) z (by repeat (first | exact trivial | refine ⟨z, ?_⟩)) ⟨hh, (Store.le.refl _)⟩ (fun g1 j1 hg1 => ?_))))))))))))
   obtain ⟨⟨l132, l136, k139⟩, ⟨a133, c134, a137, c138, τ142⟩⟩ := g1
   obtain ⟨hh, hle143⟩ := hg1
   dsimp only at hle143
   replace f0_1 := f0_1.mono hle143
   replace f0_2 := f0_2.mono hle143
   replace hr105_0 := hr105_0.mono hle143
   try dsimp only
   obtain ⟨z1, hh, hR1⟩ := iter_e hh
   dsimp only [dfa_Back_b1] at hh
   refine TC.isSl (i := 3) z (fun _ hb144 _ => ?_)
   refine TC.isSl (i := 4) z (fun _ hb145 _ => ?_)
   refine TC.isSl (i := 5) z (fun _ hb146 _ => ?_)
   refine TC.a (TL.w z (OpVal.lss z z z) (TL.en (TC.seq (TC.cD z hh (fun h147 hh => ?_) (fun h147 hh => ?_)))))
   ·refine TC.skip (S.n (TC.seq (TC.block (TC.a (TL.i z z (TL.w z (indexN z underlying23 sz22 z z f0_1.isSl (by omega)) ?_))))))
    obtain ⟨p148, hk148, hg148⟩ := RZ.seg f0_1 k139 (by omega)
    replace hk148 : RS _ 1 Go.E.encI (.slice p148.1 (nth x0.next k139 ([] : List Int)).length p148.2) (nth x0.next k139 ([] : List Int)) := hk148
    have hk148b := hk148.rv.big
    refine TL.w z (OpVal.of (loadSeg0 z ag22 z hg148 z) (v' := .slice p148.1 ((nth x0.next k139 ([] : List Int)).length) p148.2) z) (TL.op z (OpOk.alloc z ze22 z z (fun b149 => ?_)))
    refine TL.i z z (TL.op z (storeSl z sz22 z z z z z ?_))
    refine TL.en (TC.cutG (α := ((List Int)) × ((Option Addr) × Nat)) (rgs [(41, 11)]) (fun g => []) (fun g => [Res.cells b101 #[.slice a0_0 x0.cls.length c0_0, .slice a0_1 x0.next.length c0_1, .slice a0_2 x0.fin.length c0_2] 26, Res.cells b103 #[.int .i64 0, .slice none 0 0, .slice none 0 0, .slice none 0 0] 86, Res.cells b111 #[.int .i64 ((x0.next.length : Nat) : Int), .slice a108 [0].length c109, .slice g.2.1 g.1.length g.2.2, .slice a137 l136.length c138] 86, Res.rowS 3 1 Go.E.encI (.slice a108 [0].length c109) [0], Res.rowS 3 1 Go.E.encI (.slice g.2.1 g.1.length g.2.2) g.1, Res.rowS 90 6 encE (.slice a137 l136.length c138) l136, Res.cells b149 #[.slice p148.1 ((nth x0.next k139 ([] : List Int)).length) p148.2] 22]) (fun g => τ142) (fun g => dfa_Back_j1 v6 x0 k139 l136 g.1 = some z1) ?_ (fun g j hg => ?_))
    ·skip
     refine TC.a (TL.w z (fieldLoc z fo26_2 z) (TL.w z (loadLoc z ag24 z (i := 1) z z) (TL.i z z ?_)))
     have u43 := grd_c hh
     replace hh := grd_t hh
     refine TL.w z (indexN z underlying24 sz4 z z f0_2.rv.sl (by omega)) (TL.w z (loadS1 false z ag4 z f0_2 (by omega) z) (TL.en (TC.cB z hh (fun h154 hh => ?_) (fun h154 hh => ?_))))
     ·refine TC.region (TL.w z (fieldLoc z fo86_2 z) (TL.w z (loadLoc z ag22 z (i := 3) z z) (TL.i z z (TL.op z (OpOk.lit (enc := Go.E.encI) [((k139 : Nat) : Int)] z underlying22 sz3 ze3 z z z Go.E.encI_len (by decide) (by decide) (0 : Int) z (by decide) z (by decide) Go.E.encI_one (fun a155 c156 => ?_))))))
      refine TL.front 6 z z ?_
      have u49 := grd_c hh
      replace hh := grd_t hh
      refine TL.op z (appendS z z underlying22 sz3 by3 ze3 z z (by decide) z z z (.inr ⟨_, 0, z⟩) (by simpa using u49) (by decide) (fun a158 c159 => ?_))
      refine TL.w z (fieldLoc z fo86_2 z) (TL.front 5 z z (TL.op z (storeSl z sz22 z z z z z ?_)))
      exact TL.en (cf ((l132 ++ [((k139 : Nat) : Int)]), (a158, c159)) hh (Sub.f [3, 7, 3, 7, 4, 7, 7] 7))
     ·exact TC.skip (S.n (cf (l132, (a133, c134)) hh (Sub.f [6, 6, 6, 6, 6, 6] 7)))
    ·skip
     obtain ⟨l151, ⟨a152, c153⟩⟩ := g
     have hh := hg; clear hg
     try dsimp only
     dsimp only [dfa_Back_j1] at hh
     refine TC.isSl (i := 3) z (fun _ hb160 _ => ?_)
     refine TC.isSl (i := 4) z (fun _ hb161 _ => ?_)
     refine TC.isSl (i := 5) z (fun _ hb162 _ => ?_)
     refine TC.a (TL.op z (OpOk.alloc z za109 z z (fun b163 => ?_)))
     refine TL.asH (H' := [Res.cells b163 (arrA encSet (List.replicate 1024 BSet.zero)) 109, Res.cells b101 #[.slice a0_0 x0.cls.length c0_0, .slice a0_1 x0.next.length c0_1, .slice a0_2 x0.fin.length c0_2] 26, Res.cells b103 #[.int .i64 0, .slice none 0 0, .slice none 0 0, .slice none 0 0] 86, Res.cells b111 #[.int .i64 ((x0.next.length : Nat) : Int), .slice a108 [0].length c109, .slice a152 l151.length c153, .slice a137 l136.length c138] 86, Res.rowS 3 1 Go.E.encI (.slice a108 [0].length c109) [0], Res.rowS 3 1 Go.E.encI (.slice a152 l151.length c153) l151, Res.rowS 90 6 encE (.slice a137 l136.length c138) l136, Res.cells b149 #[.slice p148.1 ((nth x0.next k139 ([] : List Int)).length) p148.2] 22]) z (TL.en (TC.seq (TC.a (TL.s z z ?_))))
     obtain ⟨v54, u54, hh⟩ := bnd_e hh
     refine TL.op z (OpOk.call (dfa_classes_con hr105_0 u54) z z pf56 z z z z ?_)
     rintro _ τ165 _ hle165 ⟨b165_4, a165_1, c165_2, rfl, f165_3, rfl⟩
     replace hk148 := hk148.mono hle165
     have f165_3b := f165_3.rv.big
     refine TL.en (TC.block (TC.ofSub (Sub.f [1, 8, 8, 8, 8, 8, 8, 8] 9) ?_))
     obtain ⟨zr64, hz64, hh⟩ := bnd_e hh
     obtain ⟨jz64, l172⟩ := zr64
     dsimp only at hh
     refine TC.rangeG (A := (fun (x : Int × BSet) _ vs => vs = [.int .i64 x.1, setV x.2])) [] (fun (q : (List BSet)) (x : Int × BSet) => dfa_Back_r64 x0 k139 q x.1 x.2) (fun (q : (List BSet)) (τ174 : Store) Hs => Hs = [Res.cells b101 #[.slice a0_0 x0.cls.length c0_0, .slice a0_1 x0.next.length c0_1, .slice a0_2 x0.fin.length c0_2] 26, Res.cells b103 #[.int .i64 0, .slice none 0 0, .slice none 0 0, .slice none 0 0] 86, Res.cells b111 #[.int .i64 ((x0.next.length : Nat) : Int), .slice a108 [0].length c109, .slice a152 l151.length c153, .slice a137 l136.length c138] 86, Res.rowS 3 1 Go.E.encI (.slice a108 [0].length c109) [0], Res.rowS 3 1 Go.E.encI (.slice a152 l151.length c153) l151, Res.rowS 90 6 encE (.slice a137 l136.length c138) l136, Res.cells b149 #[.slice p148.1 ((nth x0.next k139 ([] : List Int)).length) p148.2] 22, Res.cells b163 (arrA encSet q) 109] ∧ q.length = 1024) (s := (List.replicate 1024 BSet.zero)) rfl pf76 rfl rfl (by rintro _ _ _ _ ⟨rfl, hn173⟩ hle_; exact ⟨rfl, hn173⟩) ⟨rfl, List.length_replicate⟩ (fun _ _ _ h_ => by subst h_; rfl) (dfa_classes_1_con f165_3 hz64) ?_ ?_
     ·clear hh hz64
      rintro l_ _ _ _ τ174 l172 ⟨y64_0, y64_1⟩ z64 _ _ hh hle175 rfl ⟨rfl, hn173⟩
      dsimp only [dfa_Back_r64] at hh
      replace hk148 := hk148.mono hle175
      have hn173b := hn173
      show TC _ _ _ (upds _ [(55, setV y64_1), (54, .int .i64 y64_0)]) τ174 [Res.cells b101 #[.slice a0_0 x0.cls.length c0_0, .slice a0_1 x0.next.length c0_1, .slice a0_2 x0.fin.length c0_2] 26, Res.cells b103 #[.int .i64 0, .slice none 0 0, .slice none 0 0, .slice none 0 0] 86, Res.cells b111 #[.int .i64 ((x0.next.length : Nat) : Int), .slice a108 [0].length c109, .slice a152 l151.length c153, .slice a137 l136.length c138] 86, Res.rowS 3 1 Go.E.encI (.slice a108 [0].length c109) [0], Res.rowS 3 1 Go.E.encI (.slice a152 l151.length c153) l151, Res.rowS 90 6 encE (.slice a137 l136.length c138) l136, Res.cells b149 #[.slice p148.1 ((nth x0.next k139 ([] : List Int)).length) p148.2] 22, Res.cells b163 (arrA encSet l172) 109]
      refine TC.isSl (i := 3) z (fun _ hb176 _ => ?_)
      refine TC.isSl (i := 4) z (fun _ hb177 _ => ?_)
      refine TC.isSl (i := 5) z (fun _ hb178 _ => ?_)
      refine TC.a (TL.i z z (TL.en (TC.region (TL.op z (OpOk.alloc z ze58 z z (fun b179 => ?_))))))
      refine TL.op z (storeAll z sz58 z z z z z z ?_)
      refine TL.nil (asg_n (fun _ _ _ => ?_))
      refine TC.block ?_
      have u60 := grd_c hh
      replace hh := grd_t hh
      have u64 := grd_c hh
      replace hh := grd_t hh
      have u66 := grd_c hh
      replace hh := grd_t hh
      obtain ⟨v69, u69, hh⟩ := bnd_e hh
      have u70 := grd_c hh
      replace hh := grd_t hh
      refine TC.draw [13] (by kernel_rfl) (TA.b 0 z (loadLoc z ag22 z (i := 7) z z) z (TA.a 1 z (moveI (.inl z) z) z (TA.b 2 z (OpVal.index z underlying22 sz3 z z hk148.rv.sl u60.1 u60.2) z (TA.b 3 z (loadS1 (0 : Int) z ag3 z hk148 (by omega) z) z (TA.b 4 z (loadLoc z ag22 z (i := 7) z z) z (TA.a 5 z (moveI (.inl z) z) z (TA.b 6 z (OpVal.index z underlying22 sz3 z z hk148.rv.sl u64.1 u64.2) z (TA.b 7 z (loadS1 (0 : Int) z ag3 z hk148 (by omega) z) z (TA.b 8 z (indexArr z underlying109 sz58 z z u66.1 u66.2) z (TA.b 9 z (OpVal.of (loadArr BSet.zero z ag58 sz58 z (j := 8) z encSet_len (by have := (hn173 : l172.length = 1024); omega)) (v' := setV (nth l172 ((nth (nth x0.next k139 ([] : List Int)) y64_0.toNat (0 : Int)).toNat) BSet.zero)) z) z (TA.b 10 z (loadAll z ag58 sz58 z (i := 0) z z) z (TA.ac 11 z (callP (set_Any_con u69) z z pf55 z z z (k0 ?_))))))))))))))
      refine TA.b 12 z (indexArr z underlying109 sz58 z z u70.1 u70.2) z (TA.front 8 z z ?_)
      have hn182 : (l172.set ((nth (nth x0.next k139 ([] : List Int)) y64_0.toNat (0 : Int)).toNat) v69).length = 1024 := (List.length_set ..).trans (hn173 : l172.length = 1024)
      refine TA.last 13 (by kernel_rfl) z z z (storeArr (u := v69) z sz58 z z z encSet_len encSet_one (by have := (hn173 : l172.length = 1024); omega) ?_)
      refine TZ.done (by kernel_rfl) (B.n ?_)
      obtain rfl := so hh
      exact rnd_n ⟨z, _, Sub.f [8, 8, 8, 8, 8, 8, 8] 8, ⟨z, hn182⟩⟩
     ·rintro τ174 _ _ hle175 ⟨rfl, hn173⟩ ⟨rfl⟩
      have hn173b := hn173
      dsimp only [dfa_Back_k64] at hh
      show jmpQ _ _ _ _ _ τ174 [Res.cells b101 #[.slice a0_0 x0.cls.length c0_0, .slice a0_1 x0.next.length c0_1, .slice a0_2 x0.fin.length c0_2] 26, Res.cells b103 #[.int .i64 0, .slice none 0 0, .slice none 0 0, .slice none 0 0] 86, Res.cells b111 #[.int .i64 ((x0.next.length : Nat) : Int), .slice a108 [0].length c109, .slice a152 l151.length c153, .slice a137 l136.length c138] 86, Res.rowS 3 1 Go.E.encI (.slice a108 [0].length c109) [0], Res.rowS 3 1 Go.E.encI (.slice a152 l151.length c153) l151, Res.rowS 90 6 encE (.slice a137 l136.length c138) l136, Res.cells b149 #[.slice p148.1 ((nth x0.next k139 ([] : List Int)).length) p148.2] 22, Res.cells b163 (arrA encSet l172) 109, Res.cells b165_4 #[.slice a165_1 v54.length c165_2] 81]
      refine jmp_split hh ?_ ?_ <;> clear hh
      ·intro hh
       refine B.n (S.n (TC.seq (TC.a (TL.w rfl (loadAll rfl ag109 sz109 rfl (i := 7) rfl (by rw [arrA_size encSet_len, (hn173 : l172.length = 1024)])) (TL.i z z (TL.en (TC.block (TC.loopG (α := ((List Arrow) × Nat) × ((Option Addr) × Nat)) (rgs [(12, 2), (70, 17)]) (fun g => [(70, .int .i64 ((g.1.2 : Nat) : Int))]) (fun g => [Res.cells b101 #[.slice a0_0 x0.cls.length c0_0, .slice a0_1 x0.next.length c0_1, .slice a0_2 x0.fin.length c0_2] 26, Res.cells b103 #[.int .i64 0, .slice none 0 0, .slice none 0 0, .slice none 0 0] 86, Res.cells b111 #[.int .i64 ((x0.next.length : Nat) : Int), .slice a108 [0].length c109, .slice a152 l151.length c153, .slice g.2.1 g.1.1.length g.2.2] 86, Res.rowS 3 1 Go.E.encI (.slice a108 [0].length c109) [0], Res.rowS 3 1 Go.E.encI (.slice a152 l151.length c153) l151, Res.rowS 90 6 encE (.slice g.2.1 g.1.1.length g.2.2) g.1.1]) (fun g => τ174) (fun g => iter (fun q : (List Arrow) × Nat => dfa_Back_b2 l172 k139 l151 q.1 q.2) g.1 = some z1) (fun g => rounds (fun q : (List Arrow) × Nat => dfa_Back_b2 l172 k139 l151 q.1 q.2) g.1) ((l136, 0), (a137, c138)) (Sub.f [5, 5, 5, 5, 5, 5] 6) z (by repeat (first | exact trivial | refine ⟨z, ?_⟩)) hh (fun g2 j2 hg2 => ?_)))))))))
       obtain ⟨⟨l191, k194⟩, ⟨a192, c193⟩⟩ := g2
       have hh := hg2; clear hg2
       try dsimp only
       obtain ⟨z2, hh, hR2⟩ := iter_e hh
       dsimp only [dfa_Back_b2] at hh
       refine TC.isSl (i := 3) z (fun _ hb195 _ => ?_)
       refine TC.isSl (i := 4) z (fun _ hb196 _ => ?_)
       refine TC.isSl (i := 5) z (fun _ hb197 _ => ?_)
       refine TC.a (TL.w z (OpVal.lss z z z) (TL.en (TC.seq (TC.cD z hh (fun h198 hh => ?_) (fun h198 hh => ?_)))))
       ·refine TC.skip (S.n (TC.cutG (α := ((List Arrow)) × ((Option Addr) × Nat)) (rgs [(12, 2), (72, 14)]) (fun g => []) (fun g => [Res.cells b101 #[.slice a0_0 x0.cls.length c0_0, .slice a0_1 x0.next.length c0_1, .slice a0_2 x0.fin.length c0_2] 26, Res.cells b103 #[.int .i64 0, .slice none 0 0, .slice none 0 0, .slice none 0 0] 86, Res.cells b111 #[.int .i64 ((x0.next.length : Nat) : Int), .slice a108 [0].length c109, .slice a152 l151.length c153, .slice g.2.1 g.1.length g.2.2] 86, Res.rowS 3 1 Go.E.encI (.slice a108 [0].length c109) [0], Res.rowS 3 1 Go.E.encI (.slice a152 l151.length c153) l151, Res.rowS 90 6 encE (.slice g.2.1 g.1.length g.2.2) g.1]) (fun g => τ174) (fun g => dfa_Back_j2 k194 g.1 = some z2) ?_ (fun g j hg => ?_)))
        ·skip
         refine TC.block (TC.a (TL.i z z (TL.w z (OpVal.of (indexV BSet.zero z underlying109 sz58 ag58 z z encSet_len hn173 (by omega)) (v' := setV (nth l172 k194 BSet.zero)) z) (TL.op z (OpOk.alloc z ze58 z z (fun b202 => ?_))))))
         refine TL.i z z (TL.op z (storeAll z sz58 z z z z z z ?_))
         refine TL.en (TC.a (TL.w z (loadAll z ag58 sz58 z (i := 0) z z) (TL.w z (buildArrL z underlying58 sz56 ze58 z) (TL.w z (neqSet (s := (nth l172 k194 BSet.zero)) (t := BSet.zero) z underlying58 underlying56 ag56 sz56 eg58 z z) (TL.en (TC.cD z hh (fun h204 hh => ?_) (fun h204 hh => ?_)))))))
         ·refine TC.region (TL.w z (fieldLoc z fo86_3 z) (TL.w z (loadLoc z ag84 z (i := 3) z z) (TL.i z z (TL.i z z (TL.w z (loadAll z ag58 sz58 z (i := 0) z z) (TL.w z (buildL z pl90 ze90 z) (TL.op z (OpOk.lit (enc := encE) [(⟨((k139 : Nat) : Int), ((k194 : Nat) : Int), (nth l172 k194 BSet.zero)⟩ : Arrow)] z underlying84 sz90 ze90 z z z encE_len (by decide) (by decide) Arrow.zero z (by decide) z (by decide) encE_one (fun a205 c206 => ?_)))))))))
          refine TL.front 7 z z ?_
          have u90 := grd_c hh
          replace hh := grd_t hh
          refine TL.op z (appendS z z underlying84 sz90 by90 ze90 z z (by decide) z z z (.inr ⟨_, 0, z⟩) (by simpa using u90) (by decide) (fun a208 c209 => ?_))
          refine TL.w z (fieldLoc z fo86_3 z) (TL.front 5 z z (TL.op z (storeSl z sz84 z z z z z ?_)))
          exact TL.nil (B.n (S.n (cf ((l191 ++ [(⟨((k139 : Nat) : Int), ((k194 : Nat) : Int), (nth l172 k194 BSet.zero)⟩ : Arrow)]), (a208, c209)) hh (Sub.f [1, 7, 7, 3, 7, 7] 6))))
         ·exact TC.skip (B.n (S.n (cf (l191, (a192, c193)) hh (Sub.f [6, 6, 6, 6, 6, 6] 6))))
        ·skip
         obtain ⟨l199, ⟨a200, c201⟩⟩ := g
         have hh := hg; clear hg
         try dsimp only
         dsimp only [dfa_Back_j2] at hh
         refine TC.isSl (i := 3) z (fun _ hb210 _ => ?_)
         refine TC.isSl (i := 4) z (fun _ hb211 _ => ?_)
         refine TC.isSl (i := 5) z (fun _ hb212 _ => ?_)
         refine TC.region (TL.w z (OpVal.succ z z z (by omega)) (TL.i z z (TL.en ?_)))
         obtain ⟨hh, hlt213⟩ := nxt_x hR2 hh
         exact lf ((l199, (k194 + 1)), (a200, c201)) hlt213 hh (Sub.f [5, 5, 5, 5, 5, 5] 6)
       ·refine TC.exit (S.x (S.x ?_))
        replace hh := fin_x hR2 hh
        refine TC.exitHere (S.n (TC.a (TL.w z (fieldLoc z fo86_3 z) (TL.w z (loadLoc z ag84 z (i := 2) z z) (TL.w z (lenC z underlying84 z) (TL.w z (OpVal.gtr z z z) (TL.en (TC.cD z hh (fun h214 hh => ?_) (fun h214 hh => ?_)))))))))
        ·refine TC.a (TL.w z (buildL z pl86 ze86 z) (TL.front 1 z z (TL.op z (storeAll z sz86 z z z z z z ?_))))
         refine TL.i z z (TL.en (TC.rt 1 (B.r (S.r (S.r ?_)))))
         replace hh := fin_x hR1 hh
         refine B.r (S.r ?_)
         obtain rfl := so hh
         exact ro [] z (RVs.agg ag86 sz86 z (i := 0) z z (RVs.tmp z RVs.nil)) ⟨none, 0, none, 0, none, 0, z, (RS.nilF _ Go.E.encI Go.E.encI_len), (RS.nilF _ Go.E.encI Go.E.encI_len), (RS.nilF _ encE encE_len), z⟩
        ·refine TC.skip (B.n (S.n (TC.region (TL.w z (OpVal.succ z z z (by omega)) (TL.i z z (TL.en ?_))))))
         obtain ⟨hh, hlt215⟩ := nxt_x hR1 hh
         exact lf ((l151, l191, (k139 + 1)), (a152, c153, a192, c193, τ174)) hlt215 ⟨hh, ((hle143.trans hle165).trans hle175)⟩ (Sub.f [5, 5, 5, 5, 5, 5] 6)
      ·intro m_ c_ hh hc_
       exact jl_nil hc_
   ·refine TC.exit (S.x (S.x ?_))
    replace hh := fin_x hR1 hh
    refine TC.exitHere (S.n (TC.a (TL.w z (loadAll z ag86 sz86 z (i := 2) z z) (TL.front 1 z z (TL.op z (storeAll z sz86 z z z z z z ?_))))))
    refine TL.i z z (TL.en (TC.front 3 z z (TC.sealS Go.E.encI_len (fun τ218 hle217 hr216 => ?_))))
    have hr216b := hr216.rv.big
    refine TC.front 3 z z (TC.sealS Go.E.encI_len (fun τ221 hle220 hr219 => ?_))
    replace hr216 := hr216.mono hle220
    have hr219b := hr219.rv.big
    refine TC.front 3 z z (TC.sealS encE_len (fun τ224 hle223 hr222 => ?_))
    replace hr216 := hr216.mono hle223
    replace hr219 := hr219.mono hle223
    have hr222b := hr222.rv.big
    refine TC.rt 1 ?_
    obtain rfl := so hh
    exact ro [] z (RVs.agg ag86 sz86 z (i := 0) z z (RVs.tmp z RVs.nil)) ⟨a108, c109, a133, c134, a137, c138, z, hr216, hr219, hr222, z⟩

noncomputable def rat_back_b3 (v5 : Nfa × Int) (x2 : Bool) (i254 : Int) (l256 : List Tip) (l260 : List Tip) (l264 : List Arc) (t267 : Bool) (k268 : Nat) : Option ((Int × (List Tip) × (List Tip) × (List Arc) × Bool × Nat) ⊕ (Fst × Int)) :=
 iteO (decide (((k268 : Nat) : Int) < ((v5.1.edges.length : Nat) : Int))) (bnd (rat_grow_arc (⟨(⟨i254, l256, l260, l264⟩ : Fst), t267⟩ : Grow) (⟨(nth v5.1.edges k268 Arrow.zero).frm, (nth v5.1.edges k268 Arrow.zero).to, (nth v5.1.edges k268 Arrow.zero).set, ([] : List UInt8), x2⟩ : Arc)) (fun v77 => nxt (v77.f.states, v77.f.starts, v77.f.ends, v77.f.arcs, v77.over, (k268 + 1)))) (fin (bnd (rat_grow_look (⟨(⟨i254, l256, l260, l264⟩ : Fst), t267⟩ : Grow)) (fun v87 => some ((⟨v87.1.states, v87.1.starts, v87.1.ends, v87.1.arcs⟩ : Fst), v87.2))))
noncomputable def rat_back_b2 (v5 : Nfa × Int) (x1 : List UInt8) (x2 : Bool) (i200 : Int) (l202 : List Tip) (l206 : List Tip) (l210 : List Arc) (t213 : Bool) (k214 : Nat) : Option ((Int × (List Tip) × (List Tip) × (List Arc) × Bool × Nat) ⊕ (Fst × Int)) :=
 iteO (decide (((k214 : Nat) : Int) < ((v5.1.ends.length : Nat) : Int))) (bnd (rat_grow_end (⟨(⟨i200, l202, l206, l210⟩ : Fst), t213⟩ : Grow) (⟨(nth v5.1.ends k214 (0 : Int)), x1⟩ : Tip)) (fun v56 => nxt (v56.f.states, v56.f.starts, v56.f.ends, v56.f.arcs, v56.over, (k214 + 1)))) (fin (iter (fun q : Int × (List Tip) × (List Tip) × (List Arc) × Bool × Nat => rat_back_b3 v5 x2 q.1 q.2.1 q.2.2.1 q.2.2.2.1 q.2.2.2.2.1 q.2.2.2.2.2) (i200, l202, l206, l210, t213, 0)))
noncomputable def rat_back_b1 (v5 : Nfa × Int) (x1 : List UInt8) (x2 : Bool) (i143 : Int) (l145 : List Tip) (l149 : List Tip) (l153 : List Arc) (t156 : Bool) (k157 : Nat) : Option ((Int × (List Tip) × (List Tip) × (List Arc) × Bool × Nat) ⊕ (Fst × Int)) :=
 iteO (decide (((k157 : Nat) : Int) < ((v5.1.starts.length : Nat) : Int))) (bnd (rat_grow_start (⟨(⟨i143, l145, l149, l153⟩ : Fst), t156⟩ : Grow) (⟨(nth v5.1.starts k157 (0 : Int)), ([] : List UInt8)⟩ : Tip)) (fun v41 => nxt (v41.f.states, v41.f.starts, v41.f.ends, v41.f.arcs, v41.over, (k157 + 1)))) (fin (iter (fun q : Int × (List Tip) × (List Tip) × (List Arc) × Bool × Nat => rat_back_b2 v5 x1 x2 q.1 q.2.1 q.2.2.1 q.2.2.2.1 q.2.2.2.2.1 q.2.2.2.2.2) (i143, l145, l149, l153, t156, 0)))
noncomputable def rat_back (x0 : Dfa) (x1 : List UInt8) (x2 : Bool) : Option (Fst × Int) :=
 grd (x1.length ≤ 281474976710656) (bnd (dfa_Back x0) (fun v5 => iteO (decide (v5.2 ≠ 0)) (some ((⟨0, ([] : List Tip), ([] : List Tip), ([] : List Arc)⟩ : Fst), v5.2)) (iter (fun q : Int × (List Tip) × (List Tip) × (List Arc) × Bool × Nat => rat_back_b1 v5 x1 x2 q.1 q.2.1 q.2.2.1 q.2.2.2.1 q.2.2.2.2.1 q.2.2.2.2.2) (v5.1.states, ([] : List Tip), ([] : List Tip), ([] : List Arc), false, 0))))
def rat_back_P (σ : Store) (r : Fst × Int) : Value → Store → List Res → Prop := fun v σ' H' =>
 ∃ (a1 : Option Addr), ∃ (c1 : Nat), ∃ (a2 : Option Addr), ∃ (c2 : Nat), ∃ (a3 : Option Addr), ∃ (c3 : Nat),  v = .tuple #[.agg #[.int .i64 r.1.states, .slice a1 r.1.starts.length c1, .slice a2 r.1.ends.length c2, .slice a3 r.1.arcs.length c3], .int .i64 r.2] ∧ RS σ' 2 encTip (.slice a1 r.1.starts.length c1) r.1.starts ∧ RS σ' 2 encTip (.slice a2 r.1.ends.length c2) r.1.ends ∧ RS σ' 8 encArc (.slice a3 r.1.arcs.length c3) r.1.arcs ∧ H' = []
theorem rat_back_con {σ : Store} {x0 : Dfa} {a0_0 : Option Addr} {c0_0 : Nat} {a0_1 : Option Addr} {c0_1 : Nat} {a0_2 : Option Addr} {c0_2 : Nat} {x1 : List UInt8} {x2 : Bool} (f0_0 : RS σ 1 Go.E.encI (.slice a0_0 x0.cls.length c0_0) x0.cls) (f0_1 : RZ σ (pkSl 1 Go.E.encI Go.E.encI_len) (.slice a0_1 x0.next.length c0_1) x0.next) (f0_2 : RS σ 1 encB (.slice a0_2 x0.fin.length c0_2) x0.fin) {r : Fst × Int} (hh : rat_back x0 x1 x2 = some r) :
  Con Tryz.prog 23 #[.agg #[.slice a0_0 x0.cls.length c0_0, .slice a0_1 x0.next.length c0_1, .slice a0_2 x0.fin.length c0_2], .string (bs x1), .bool x2] σ [] (rat_back_P σ r) := by
 dsimp only [rat_back] at hh
 have f0_0b := f0_0.rv.big
 have f0_1b := f0_1.big
 have f0_2b := f0_2.rv.big
 refine Con.mkD (n := 77) Tryz.func23 z z z (fun w0 => ?_)
 have x1b := grd_c hh
 replace hh := grd_t hh
 refine TB.seq endR_ret (TC.region (TL.op z (boxA z z z z (fun b101 => ?_))))
 refine TL.op z (OpOk.alloc z ze31 z z (fun b103 => ?_))
 refine TL.op z (OpOk.alloc z ze32 z z (fun b105 => ?_))
 refine TL.en (TB.seq endR_ret (TC.region (TL.w z (loadAll z ag26 sz26 z (i := 2) z z) ?_)))
 obtain ⟨v5, u5, hh⟩ := bnd_e hh
 refine TL.op z (OpOk.call (dfa_Back_con (x0 := x0) f0_0 f0_1 f0_2 u5) z z pf41 z z z z ?_)
 rintro _ τ107 _ hle107 ⟨a107_1, c107_1, a107_2, c107_2, a107_3, c107_3, rfl, hr107_0, hr107_1, hr107_2, rfl⟩
 have hr107_0b := hr107_0.rv.big
 have hr107_1b := hr107_1.rv.big
 have hr107_2b := hr107_2.rv.big
 refine TL.w z (moveT (.inl z) z) (TL.w z (OpVal.extract z z z) (TL.w z (OpVal.extract z z z) (TL.op z (OpOk.alloc z ze86 z z (fun b108 => ?_)))))
 refine TL.op z (storeAll z sz86 z z z z z z ?_)
 refine TL.front 1 z z (TL.op z (storeI z sz32 z z z z z ?_))
 refine TL.en (TB.seq endR_ret (TC.a (TL.w z (loadLoc z ag32 z (i := 0) z z) (TL.w z (OpVal.neq z z z) (TL.en (TC.cD z hh (fun h110 hh => ?_) (fun h110 hh => ?_)))))))
 ·refine TC.a (TL.w z (buildL z pl31 ze31 z) (TL.w z (loadLoc z ag32 z (i := 0) z z) (TL.front 2 z z (TL.op z (storeAll z sz31 z z z z z z ?_)))))
  refine TL.front 1 z z (TL.op z (storeI z sz32 z z z z z ?_))
  refine TL.en (TC.ofSub (Sub.f [1] 2) (TC.ret (S.r ?_)))
  obtain rfl := so hh
  exact ro [] z (RVs.agg ag31 sz31 z (i := 0) z z (RVs.one ag32 z (i := 1) z z RVs.nil)) ⟨none, 0, none, 0, none, 0, z, (RS.nilF _ encTip encTip_len), (RS.nilF _ encTip encTip_len), (RS.nilF _ encArc encArc_len), z⟩
 ·refine TC.skip (S.n (TB.seq endR_ret (TC.region (TL.w z (buildL z pl66 ze66 z) (TL.op z (boxA z z z z (fun b111 => ?_)))))))
  refine TL.l z z (TL.en (TB.seqD (TLB.v z (moveLoc (.inl z) z) z z (TLB.dfr (dargs := [loc b111 0, loc b103 0, loc b105 0]) z z z z z (fun a_ w_ hw_ ha_ => ?_)))))
  refine TB.fin (Q := dfrQ _ _ _ _ 30 [loc b111 0, loc b103 0, loc b105 0]) (endR_dfr (cap := []) (dargs := [loc b111 0, loc b103 0, loc b105 0]) pf30) ?_ w_ a_ hw_ ha_
  clear hw_ ha_ a_ w_
  refine TC.a (TL.l z z (TL.w z (fieldLoc z fo86_0 z) (TL.w z (loadLoc z ag3 z (i := 2) z z) (TL.w z (nilCheckLoc z z) (TL.w z (fieldLoc z fo66_0 z) (TL.w z (fieldLoc z fo31_0 z) (TL.op z (storeI z sz3 z z z z z ?_))))))))
  refine TL.en (TC.seq (TC.a (TL.w z (fieldLoc z fo86_1 z) (TL.w z (loadLoc z ag22 z (i := 2) z z) (TL.w z (lenC z underlying22 z) (TL.i z z (TL.en (TC.block (TC.nilS 62 2 encTip (TC.nilS 62 2 encTip (TC.nilS 60 8 encArc (TC.loopG (α := (Int × (List Tip) × (List Tip) × (List Arc) × Bool × Nat) × ((Option Addr) × Nat × (Option Addr) × Nat × (Option Addr) × Nat)) (rgs [(11, 1), (37, 9)]) (fun g => [(37, .int .i64 ((g.1.2.2.2.2.2 : Nat) : Int))]) (fun g => [Res.cells b103 #[.int .i64 0, .slice none 0 0, .slice none 0 0, .slice none 0 0] 31, Res.cells b105 #[.int .i64 v5.2] 32, Res.cells b108 #[.int .i64 v5.1.states, .slice a107_1 v5.1.starts.length c107_1, .slice a107_2 v5.1.ends.length c107_2, .slice a107_3 v5.1.edges.length c107_3] 86, Res.cells b111 #[.int .i64 g.1.1, .slice g.2.1 g.1.2.1.length g.2.2.1, .slice g.2.2.2.1 g.1.2.2.1.length g.2.2.2.2.1, .slice g.2.2.2.2.2.1 g.1.2.2.2.1.length g.2.2.2.2.2.2, .bool g.1.2.2.2.2.1] 66, Res.rowS 62 2 encTip (.slice g.2.1 g.1.2.1.length g.2.2.1) g.1.2.1, Res.rowS 62 2 encTip (.slice g.2.2.2.1 g.1.2.2.1.length g.2.2.2.2.1) g.1.2.2.1, Res.rowS 60 8 encArc (.slice g.2.2.2.2.2.1 g.1.2.2.2.1.length g.2.2.2.2.2.2) g.1.2.2.2.1]) (fun g => τ107) (fun g => iter (fun q : Int × (List Tip) × (List Tip) × (List Arc) × Bool × Nat => rat_back_b1 v5 x1 x2 q.1 q.2.1 q.2.2.1 q.2.2.2.1 q.2.2.2.2.1 q.2.2.2.2.2) g.1 = some r) (fun g => rounds (fun q : Int × (List Tip) × (List Tip) × (List Arc) × Bool × Nat => rat_back_b1 v5 x1 x2 q.1 q.2.1 q.2.2.1 q.2.2.2.1 q.2.2.2.2.1 q.2.2.2.2.2) g.1) ((v5.1.states, ([] : List Tip), ([] : List Tip), ([] : List Arc), false, 0), (none, 0, none, 0, none, 0)) (Sub.f [1, 2, 3, 5, 5, 6] 7) z (by repeat (first | exact trivial | refine ⟨z, ?_⟩)) hh (fun g1 j1 hg1 => ?_)))))))))))))
  obtain ⟨⟨i143, l145, l149, l153, t156, k157⟩, ⟨a146, c147, a150, c151, a154, c155⟩⟩ := g1
  have hh := hg1; clear hg1
  try dsimp only
  obtain ⟨z1, hh, hR1⟩ := iter_e hh
  dsimp only [rat_back_b1] at hh
  refine TC.isSl (i := 4) z (fun _ hb161 _ => ?_)
  refine TC.isSl (i := 5) z (fun _ hb162 _ => ?_)
  refine TC.isSl (i := 6) z (fun _ hb163 _ => ?_)
  refine TC.a (TL.w z (OpVal.lss z z z) (TL.en (TC.seq (TC.cD z hh (fun h164 hh => ?_) (fun h164 hh => ?_)))))
  ·refine TC.skip (S.n (TC.seq (TC.block (TC.a (TL.w z (indexN z underlying22 sz3 z z hr107_0.rv.sl (by omega)) (TL.w z (loadS1 (0 : Int) z ag3 z hr107_0 (by omega) z) (TL.i z z (TL.en (TC.region (TL.l z z (TL.i z z (TL.w z (buildL z pl62 ze62 z) (TL.front 6 z z (TL.front 6 z z (TL.front 6 z z ?_)))))))))))))))
   refine TL.front 6 z z ?_
   obtain ⟨v41, u41, hh⟩ := bnd_e hh
   refine TL.op z (OpOk.call (rat_grow_start_con u41) z z pf31 z z z z ?_)
   rintro _ _ _ hle165 ⟨a165_1, c165_2, a165_3, c165_4, a165_5, c165_6, rfl, rfl, rfl⟩
   refine TL.nil (B.n (S.n (TC.region (TL.w z (OpVal.succ z z z (by omega)) (TL.i z z (TL.en ?_))))))
   obtain ⟨hh, hlt169⟩ := nxt_x hR1 hh
   exact lf ((v41.f.states, v41.f.starts, v41.f.ends, v41.f.arcs, v41.over, (k157 + 1)), (a165_1, c165_2, a165_3, c165_4, a165_5, c165_6)) hlt169 hh (Sub.f [3, 3, 3, 3, 6, 6, 6] 7)
  ·refine TC.exit (S.x (S.x ?_))
   replace hh := fin_x hR1 hh
   refine TC.exitHere (S.n (TC.seq (TC.a (TL.w z (fieldLoc z fo86_2 z) (TL.w z (loadLoc z ag22 z (i := 2) z z) (TL.w z (lenC z underlying22 z) (TL.i z z (TL.en (TC.block (TC.loopG (α := (Int × (List Tip) × (List Tip) × (List Arc) × Bool × Nat) × ((Option Addr) × Nat × (Option Addr) × Nat × (Option Addr) × Nat)) (rgs [(13, 1), (49, 10)]) (fun g => [(49, .int .i64 ((g.1.2.2.2.2.2 : Nat) : Int))]) (fun g => [Res.cells b103 #[.int .i64 0, .slice none 0 0, .slice none 0 0, .slice none 0 0] 31, Res.cells b105 #[.int .i64 v5.2] 32, Res.cells b108 #[.int .i64 v5.1.states, .slice a107_1 v5.1.starts.length c107_1, .slice a107_2 v5.1.ends.length c107_2, .slice a107_3 v5.1.edges.length c107_3] 86, Res.cells b111 #[.int .i64 g.1.1, .slice g.2.1 g.1.2.1.length g.2.2.1, .slice g.2.2.2.1 g.1.2.2.1.length g.2.2.2.2.1, .slice g.2.2.2.2.2.1 g.1.2.2.2.1.length g.2.2.2.2.2.2, .bool g.1.2.2.2.2.1] 66, Res.rowS 62 2 encTip (.slice g.2.1 g.1.2.1.length g.2.2.1) g.1.2.1, Res.rowS 62 2 encTip (.slice g.2.2.2.1 g.1.2.2.1.length g.2.2.2.2.1) g.1.2.2.1, Res.rowS 60 8 encArc (.slice g.2.2.2.2.2.1 g.1.2.2.2.1.length g.2.2.2.2.2.2) g.1.2.2.2.1]) (fun g => τ107) (fun g => iter (fun q : Int × (List Tip) × (List Tip) × (List Arc) × Bool × Nat => rat_back_b2 v5 x1 x2 q.1 q.2.1 q.2.2.1 q.2.2.2.1 q.2.2.2.2.1 q.2.2.2.2.2) g.1 = some r) (fun g => rounds (fun q : Int × (List Tip) × (List Tip) × (List Arc) × Bool × Nat => rat_back_b2 v5 x1 x2 q.1 q.2.1 q.2.2.1 q.2.2.2.1 q.2.2.2.2.1 q.2.2.2.2.2) g.1) ((i143, l145, l149, l153, t156, 0), (a146, c147, a150, c151, a154, c155)) (Sub.f [6, 6, 6, 6, 6, 6, 6] 7) z (by repeat (first | exact trivial | refine ⟨z, ?_⟩)) hh (fun g2 j2 hg2 => ?_)))))))))))
   obtain ⟨⟨i200, l202, l206, l210, t213, k214⟩, ⟨a203, c204, a207, c208, a211, c212⟩⟩ := g2
   have hh := hg2; clear hg2
   try dsimp only
   obtain ⟨z1, hh, hR1⟩ := iter_e hh
   dsimp only [rat_back_b2] at hh
   refine TC.isSl (i := 4) z (fun _ hb215 _ => ?_)
   refine TC.isSl (i := 5) z (fun _ hb216 _ => ?_)
   refine TC.isSl (i := 6) z (fun _ hb217 _ => ?_)
   refine TC.a (TL.w z (OpVal.lss z z z) (TL.en (TC.seq (TC.cD z hh (fun h218 hh => ?_) (fun h218 hh => ?_)))))
   ·refine TC.skip (S.n (TC.seq (TC.block (TC.a (TL.w z (indexN z underlying22 sz3 z z hr107_1.rv.sl (by omega)) (TL.w z (loadS1 (0 : Int) z ag3 z hr107_1 (by omega) z) (TL.i z z (TL.en (TC.region (TL.l z z (TL.i z z (TL.w z (moveStr (.inl z) z) (TL.w z (buildL z pl62 ze62 z) (TL.front 6 z z (TL.front 6 z z ?_)))))))))))))))
    refine TL.front 6 z z (TL.front 6 z z ?_)
    obtain ⟨v56, u56, hh⟩ := bnd_e hh
    refine TL.op z (OpOk.call (rat_grow_end_con u56) z z pf32 z z z z ?_)
    rintro _ _ _ hle219 ⟨a219_1, c219_2, a219_3, c219_4, a219_5, c219_6, rfl, rfl, rfl⟩
    refine TL.nil (B.n (S.n (TC.region (TL.w z (OpVal.succ z z z (by omega)) (TL.i z z (TL.en ?_))))))
    obtain ⟨hh, hlt223⟩ := nxt_x hR1 hh
    exact lf ((v56.f.states, v56.f.starts, v56.f.ends, v56.f.arcs, v56.over, (k214 + 1)), (a219_1, c219_2, a219_3, c219_4, a219_5, c219_6)) hlt223 hh (Sub.f [3, 3, 3, 3, 6, 6, 6] 7)
   ·refine TC.exit (S.x (S.x ?_))
    replace hh := fin_x hR1 hh
    refine TC.exitHere (S.n (TC.seq (TC.a (TL.w z (fieldLoc z fo86_3 z) (TL.w z (loadLoc z ag84 z (i := 2) z z) (TL.w z (lenC z underlying84 z) (TL.i z z (TL.en (TC.block (TC.loopG (α := (Int × (List Tip) × (List Tip) × (List Arc) × Bool × Nat) × ((Option Addr) × Nat × (Option Addr) × Nat × (Option Addr) × Nat)) (rgs [(15, 1), (62, 15)]) (fun g => [(62, .int .i64 ((g.1.2.2.2.2.2 : Nat) : Int))]) (fun g => [Res.cells b103 #[.int .i64 0, .slice none 0 0, .slice none 0 0, .slice none 0 0] 31, Res.cells b105 #[.int .i64 v5.2] 32, Res.cells b111 #[.int .i64 g.1.1, .slice g.2.1 g.1.2.1.length g.2.2.1, .slice g.2.2.2.1 g.1.2.2.1.length g.2.2.2.2.1, .slice g.2.2.2.2.2.1 g.1.2.2.2.1.length g.2.2.2.2.2.2, .bool g.1.2.2.2.2.1] 66, Res.rowS 62 2 encTip (.slice g.2.1 g.1.2.1.length g.2.2.1) g.1.2.1, Res.rowS 62 2 encTip (.slice g.2.2.2.1 g.1.2.2.1.length g.2.2.2.2.1) g.1.2.2.1, Res.rowS 60 8 encArc (.slice g.2.2.2.2.2.1 g.1.2.2.2.1.length g.2.2.2.2.2.2) g.1.2.2.2.1]) (fun g => τ107) (fun g => iter (fun q : Int × (List Tip) × (List Tip) × (List Arc) × Bool × Nat => rat_back_b3 v5 x2 q.1 q.2.1 q.2.2.1 q.2.2.2.1 q.2.2.2.2.1 q.2.2.2.2.2) g.1 = some r) (fun g => rounds (fun q : Int × (List Tip) × (List Tip) × (List Arc) × Bool × Nat => rat_back_b3 v5 x2 q.1 q.2.1 q.2.2.1 q.2.2.2.1 q.2.2.2.2.1 q.2.2.2.2.2) g.1) ((i200, l202, l206, l210, t213, 0), (a203, c204, a207, c208, a211, c212)) (Sub.f [6, 6, 6, 6, 5, 5] 6) z (by repeat (first | exact trivial | refine ⟨z, ?_⟩)) hh (fun g3 j3 hg3 => ?_)))))))))))
    obtain ⟨⟨i254, l256, l260, l264, t267, k268⟩, ⟨a257, c258, a261, c262, a265, c266⟩⟩ := g3
    have hh := hg3; clear hg3
    try dsimp only
    obtain ⟨z1, hh, hR1⟩ := iter_e hh
    dsimp only [rat_back_b3] at hh
    refine TC.isSl (i := 3) z (fun _ hb269 _ => ?_)
    refine TC.isSl (i := 4) z (fun _ hb270 _ => ?_)
    refine TC.isSl (i := 5) z (fun _ hb271 _ => ?_)
    refine TC.a (TL.w z (OpVal.lss z z z) (TL.en (TC.seq (TC.cD z hh (fun h272 hh => ?_) (fun h272 hh => ?_)))))
    ·refine TC.skip (S.n (TC.seq (TC.block (TC.a (TL.w z (indexN z underlying84 sz90 z z hr107_2.rv.sl (by omega)) (TL.w z (loadSA Arrow.zero z ag90 sz90 z hr107_2 (by omega) (by omega)) (TL.op z (OpOk.alloc z ze90 z z (fun b273 => ?_)))))))))
     refine TL.op z (storeAll z sz90 z z z z z z ?_)
     refine TL.en (TC.region (TL.l z z (TL.w z (fieldLoc z fo90_0 z) (TL.w z (loadLoc z ag3 z (i := 0) z z) (TL.w z (fieldLoc z fo90_1 z) (TL.w z (loadLoc z ag3 z (i := 0) z z) (TL.w z (fieldLoc z fo90_2 z) (TL.w z (loadLocA z ag58 sz58 z (i := 0) z z z) (TL.j z z (TL.w z (buildL z pl60 ze60 z) (TL.front 6 z z (TL.front 6 z z (TL.front 6 z z (TL.front 6 z z ?_))))))))))))))
     obtain ⟨v77, u77, hh⟩ := bnd_e hh
     refine TL.op z (OpOk.call (rat_grow_arc_con u77) z z pf42 z z z z ?_)
     rintro _ _ _ hle275 ⟨a275_1, c275_2, a275_3, c275_4, a275_5, c275_6, rfl, rfl, rfl⟩
     refine TL.nil (B.n (S.n (TC.region (TL.w z (OpVal.succ z z z (by omega)) (TL.i z z (TL.en ?_))))))
     obtain ⟨hh, hlt279⟩ := nxt_x hR1 hh
     exact lf ((v77.f.states, v77.f.starts, v77.f.ends, v77.f.arcs, v77.over, (k268 + 1)), (a275_1, c275_2, a275_3, c275_4, a275_5, c275_6)) hlt279 hh (Sub.f [3, 3, 3, 3, 6, 6] 6)
    ·refine TC.exit (S.x (S.x ?_))
     replace hh := fin_x hR1 hh
     refine TC.exitHere (S.n (TC.front 1 z z (TC.front 1 z z (TC.front 5 z z (TC.front 5 z z (TC.front 5 z z (TC.front 5 z z ?_)))))))
     obtain ⟨v87, u87, hh⟩ := bnd_e hh
     refine TC.ret (⟨.inl z, _, Sub.pre 6 z, (rat_grow_look_con u87).mono ?_⟩)
     rintro _ τ280 _ hle280 ⟨a280_1, c280_2, a280_4, c280_5, a280_7, c280_8, rfl, f280_3, f280_6, f280_9, rfl⟩
     have f280_3b := f280_3.rv.big
     have f280_6b := f280_6.rv.big
     have f280_9b := f280_9.rv.big
     obtain rfl := so hh
     exact RetOk.mk' (rs := [.cell 6 31, .cell 7 32]) [] z (.inl z) (RVs.agg ag31 sz31 z (i := 0) z z (RVs.one ag32 z (i := 1) z z RVs.nil)) (List.nil_sublist _) ⟨a280_1, c280_2, a280_4, c280_5, a280_7, c280_8, z, f280_3, f280_6, f280_9, z⟩

noncomputable def rat_Same (x0 : Dfa) : Option (Fst × Int) :=
 bnd (dfa_Check x0) (fun v5 => iteO (decide (v5 ≠ 0)) (some ((⟨0, ([] : List Tip), ([] : List Tip), ([] : List Arc)⟩ : Fst), 1)) (bnd (rat_back x0 ([] : List UInt8) true) (fun v11 => some (v11.1, v11.2))))
def rat_Same_P (σ : Store) (r : Fst × Int) : Value → Store → List Res → Prop := fun v σ' H' =>
 ∃ (a1 : Option Addr), ∃ (c1 : Nat), ∃ (a2 : Option Addr), ∃ (c2 : Nat), ∃ (a3 : Option Addr), ∃ (c3 : Nat),  v = .tuple #[.agg #[.int .i64 r.1.states, .slice a1 r.1.starts.length c1, .slice a2 r.1.ends.length c2, .slice a3 r.1.arcs.length c3], .int .i64 r.2] ∧ RS σ' 2 encTip (.slice a1 r.1.starts.length c1) r.1.starts ∧ RS σ' 2 encTip (.slice a2 r.1.ends.length c2) r.1.ends ∧ RS σ' 8 encArc (.slice a3 r.1.arcs.length c3) r.1.arcs ∧ H' = []
theorem rat_Same_con {σ : Store} {x0 : Dfa} {a0_0 : Option Addr} {c0_0 : Nat} {a0_1 : Option Addr} {c0_1 : Nat} {a0_2 : Option Addr} {c0_2 : Nat} (f0_0 : RS σ 1 Go.E.encI (.slice a0_0 x0.cls.length c0_0) x0.cls) (f0_1 : RZ σ (pkSl 1 Go.E.encI Go.E.encI_len) (.slice a0_1 x0.next.length c0_1) x0.next) (f0_2 : RS σ 1 encB (.slice a0_2 x0.fin.length c0_2) x0.fin) {r : Fst × Int} (hh : rat_Same x0 = some r) :
  Con Tryz.prog 7 #[.agg #[.slice a0_0 x0.cls.length c0_0, .slice a0_1 x0.next.length c0_1, .slice a0_2 x0.fin.length c0_2]] σ [] (rat_Same_P σ r) := by
 dsimp only [rat_Same] at hh
 have f0_0b := f0_0.rv.big
 have f0_1b := f0_1.big
 have f0_2b := f0_2.rv.big
 refine Con.mk (n := 12) Tryz.func7 z z z (fun w0 => ?_)
 refine TC.a (TL.op z (boxA z z z z (fun b101 => ?_)))
 refine TL.op z (OpOk.alloc z ze31 z z (fun b103 => ?_))
 refine TL.i z z (TL.en (TC.seq (TC.a (TL.w z (loadAll z ag26 sz26 z (i := 1) z z) ?_))))
 obtain ⟨v5, u5, hh⟩ := bnd_e hh
 refine TL.op z (callP (dfa_Check_con (x0 := x0) f0_0 f0_1 f0_2 u5) z z pf22 z z z ?_)
 refine TL.w z (OpVal.neq z z z) (TL.en (TC.cD z hh (fun h105 hh => ?_) (fun h105 hh => ?_)))
 ·refine TC.a (TL.w z (buildL z pl31 ze31 z) (TL.op z (storeAll z sz31 z z z z z z ?_)))
  refine TL.i z z (TL.en (TC.rt 1 (S.r ?_)))
  obtain rfl := so hh
  exact ro [] z (RVs.agg ag31 sz31 z (i := 0) z z (RVs.tmp z RVs.nil)) ⟨none, 0, none, 0, none, 0, z, (RS.nilF _ encTip encTip_len), (RS.nilF _ encTip encTip_len), (RS.nilF _ encArc encArc_len), z⟩
 ·refine TC.skip (S.n (TC.a (TL.w z (loadAll z ag26 sz26 z (i := 1) z z) ?_)))
  obtain ⟨v11, u11, hh⟩ := bnd_e hh
  refine TL.op z (OpOk.call (rat_back_con (x0 := x0) f0_0 f0_1 f0_2 u11) z z pf23 z z z z ?_)
  rintro _ τ106 _ hle106 ⟨a106_1, c106_1, a106_2, c106_2, a106_3, c106_3, rfl, hr106_0, hr106_1, hr106_2, rfl⟩
  have hr106_0b := hr106_0.rv.big
  have hr106_1b := hr106_1.rv.big
  have hr106_2b := hr106_2.rv.big
  refine TL.w z (OpVal.extract z z z) (TL.w z (OpVal.extract z z z) (TL.op z (storeAll z sz31 z z z z z z ?_)))
  refine TL.i z z (TL.en (TC.rt 1 ?_))
  obtain rfl := so hh
  exact ro [] z (RVs.agg ag31 sz31 z (i := 0) z z (RVs.tmp z RVs.nil)) ⟨a106_1, c106_1, a106_2, c106_2, a106_3, c106_3, z, hr106_0, hr106_1, hr106_2, z⟩

noncomputable def rat_Cross (x0 : Dfa) (x1 : List UInt8) : Option (Fst × Int) :=
 grd (x1.length ≤ 281474976710656) (bnd (dfa_Check x0) (fun v5 => iteO (decide (v5 ≠ 0)) (some ((⟨0, ([] : List Tip), ([] : List Tip), ([] : List Arc)⟩ : Fst), 1)) (iteO (decide (1024 < ((x1.length : Nat) : Int))) (some ((⟨0, ([] : List Tip), ([] : List Tip), ([] : List Arc)⟩ : Fst), 2)) (bnd (rat_back x0 x1 false) (fun v18 => some (v18.1, v18.2))))))
def rat_Cross_P (σ : Store) (r : Fst × Int) : Value → Store → List Res → Prop := fun v σ' H' =>
 ∃ (a1 : Option Addr), ∃ (c1 : Nat), ∃ (a2 : Option Addr), ∃ (c2 : Nat), ∃ (a3 : Option Addr), ∃ (c3 : Nat),  v = .tuple #[.agg #[.int .i64 r.1.states, .slice a1 r.1.starts.length c1, .slice a2 r.1.ends.length c2, .slice a3 r.1.arcs.length c3], .int .i64 r.2] ∧ RS σ' 2 encTip (.slice a1 r.1.starts.length c1) r.1.starts ∧ RS σ' 2 encTip (.slice a2 r.1.ends.length c2) r.1.ends ∧ RS σ' 8 encArc (.slice a3 r.1.arcs.length c3) r.1.arcs ∧ H' = []
theorem rat_Cross_con {σ : Store} {x0 : Dfa} {a0_0 : Option Addr} {c0_0 : Nat} {a0_1 : Option Addr} {c0_1 : Nat} {a0_2 : Option Addr} {c0_2 : Nat} {x1 : List UInt8} (f0_0 : RS σ 1 Go.E.encI (.slice a0_0 x0.cls.length c0_0) x0.cls) (f0_1 : RZ σ (pkSl 1 Go.E.encI Go.E.encI_len) (.slice a0_1 x0.next.length c0_1) x0.next) (f0_2 : RS σ 1 encB (.slice a0_2 x0.fin.length c0_2) x0.fin) {r : Fst × Int} (hh : rat_Cross x0 x1 = some r) :
  Con Tryz.prog 9 #[.agg #[.slice a0_0 x0.cls.length c0_0, .slice a0_1 x0.next.length c0_1, .slice a0_2 x0.fin.length c0_2], .string (bs x1)] σ [] (rat_Cross_P σ r) := by
 dsimp only [rat_Cross] at hh
 have f0_0b := f0_0.rv.big
 have f0_1b := f0_1.big
 have f0_2b := f0_2.rv.big
 refine Con.mk (n := 19) Tryz.func9 z z z (fun w0 => ?_)
 have x1b := grd_c hh
 replace hh := grd_t hh
 refine TC.a (TL.op z (boxA z z z z (fun b101 => ?_)))
 refine TL.op z (OpOk.alloc z ze31 z z (fun b103 => ?_))
 refine TL.i z z (TL.en (TC.seq (TC.a (TL.w z (loadAll z ag26 sz26 z (i := 1) z z) ?_))))
 obtain ⟨v5, u5, hh⟩ := bnd_e hh
 refine TL.op z (callP (dfa_Check_con (x0 := x0) f0_0 f0_1 f0_2 u5) z z pf22 z z z ?_)
 refine TL.w z (OpVal.neq z z z) (TL.en (TC.cD z hh (fun h105 hh => ?_) (fun h105 hh => ?_)))
 ·refine TC.a (TL.w z (buildL z pl31 ze31 z) (TL.op z (storeAll z sz31 z z z z z z ?_)))
  refine TL.i z z (TL.en (TC.rt 1 (S.r ?_)))
  obtain rfl := so hh
  exact ro [] z (RVs.agg ag31 sz31 z (i := 0) z z (RVs.tmp z RVs.nil)) ⟨none, 0, none, 0, none, 0, z, (RS.nilF _ encTip encTip_len), (RS.nilF _ encTip encTip_len), (RS.nilF _ encArc encArc_len), z⟩
 ·refine TC.skip (S.n (TC.seq (TC.a (TL.w z (moveStr (.inl z) z) (TL.w z (lenBs z underlying9 z) (TL.w z (OpVal.gtr z z z) (TL.en (TC.cD z hh (fun h106 hh => ?_) (fun h106 hh => ?_)))))))))
  ·refine TC.a (TL.w z (buildL z pl31 ze31 z) (TL.op z (storeAll z sz31 z z z z z z ?_)))
   refine TL.i z z (TL.en (TC.rt 1 (S.r ?_)))
   obtain rfl := so hh
   exact ro [] z (RVs.agg ag31 sz31 z (i := 0) z z (RVs.tmp z RVs.nil)) ⟨none, 0, none, 0, none, 0, z, (RS.nilF _ encTip encTip_len), (RS.nilF _ encTip encTip_len), (RS.nilF _ encArc encArc_len), z⟩
  ·refine TC.skip (S.n (TC.a (TL.w z (loadAll z ag26 sz26 z (i := 1) z z) (TL.w z (moveStr (.inl z) z) ?_))))
   obtain ⟨v18, u18, hh⟩ := bnd_e hh
   refine TL.op z (OpOk.call (rat_back_con (x0 := x0) f0_0 f0_1 f0_2 u18) z z pf23 z z z z ?_)
   rintro _ τ107 _ hle107 ⟨a107_1, c107_1, a107_2, c107_2, a107_3, c107_3, rfl, hr107_0, hr107_1, hr107_2, rfl⟩
   have hr107_0b := hr107_0.rv.big
   have hr107_1b := hr107_1.rv.big
   have hr107_2b := hr107_2.rv.big
   refine TL.w z (OpVal.extract z z z) (TL.w z (OpVal.extract z z z) (TL.op z (storeAll z sz31 z z z z z z ?_)))
   refine TL.i z z (TL.en (TC.rt 1 ?_))
   obtain rfl := so hh
   exact ro [] z (RVs.agg ag31 sz31 z (i := 0) z z (RVs.tmp z RVs.nil)) ⟨a107_1, c107_1, a107_2, c107_2, a107_3, c107_3, z, hr107_0, hr107_1, hr107_2, z⟩

end Go.Proofs.YtcfjjckencjjeaaGreatDoor
end

/- L2 -/
section
/- The numbers at which the kit's contracts of the library lie in this program. -/
set_option linter.unusedVariables false
set_option linter.unusedSimpArgs false
namespace Go.Proofs.YtcfjjckencjjeaaGreatDoor
open Go Go.Shelf
set_option maxRecDepth 100000
def layS_ren : Go.Shelf.Ren := ⟨fun | 6 => 72 | 15 => 89 | 14 => 88 | 28 => 103 | 29 => 104 | 20 => 95 | 21 => 96 | 22 => 97 | 23 => 98 | 24 => 99 | 25 => 100 | 26 => 101 | 27 => 102 | 46 => 106 | 47 => 107 | 48 => 108 | 49 => 109 | 50 => 110 | 57 => 120 | n => n, fun | 22 => 41 | 24 => 9 | 25 => 104 | 3 => 3 | 39 => 154 | 0 => 0 | 53 => 167 | 55 => 56 | 4 => 4 | 46 => 161 | 45 => 160 | 50 => 140 | 5 => 5 | 9 => 9 | 66 => 170 | 70 => 174 | 76 => 181 | 77 => 182 | n => n, fun | n => n⟩
theorem layS : Go.Proofs.SlLaysF.n6 Tryz.prog layS_ren := {
  mixed := by kernel_rfl,
  f6 := ⟨Tryz.f72.name, by decide, Tryz.func72.trans (congrArg some (by kernel_rfl))⟩,
  f14 := ⟨Tryz.f88.name, by decide, Tryz.func88.trans (congrArg some (by kernel_rfl))⟩,
  f15 := Tryz.func89.trans (congrArg some (by kernel_rfl)),
  f20 := ⟨Tryz.f95.name, by decide, Tryz.func95.trans (congrArg some (by kernel_rfl))⟩,
  f21 := ⟨Tryz.f96.name, by decide, Tryz.func96.trans (congrArg some (by kernel_rfl))⟩,
  f22 := ⟨Tryz.f97.name, by decide, Tryz.func97.trans (congrArg some (by kernel_rfl))⟩,
  f23 := ⟨Tryz.f98.name, by decide, Tryz.func98.trans (congrArg some (by kernel_rfl))⟩,
  f24 := ⟨Tryz.f99.name, by decide, Tryz.func99.trans (congrArg some (by kernel_rfl))⟩,
  f25 := ⟨Tryz.f100.name, by decide, Tryz.func100.trans (congrArg some (by kernel_rfl))⟩,
  f26 := ⟨Tryz.f101.name, by decide, Tryz.func101.trans (congrArg some (by kernel_rfl))⟩,
  f27 := ⟨Tryz.f102.name, by decide, Tryz.func102.trans (congrArg some (by kernel_rfl))⟩,
  f28 := Tryz.func103.trans (congrArg some (by kernel_rfl)),
  f29 := Tryz.func104.trans (congrArg some (by kernel_rfl)),
  f46 := ⟨Tryz.f106.name, by decide, Tryz.func106.trans (congrArg some (by kernel_rfl))⟩,
  f47 := Tryz.func107.trans (congrArg some (by kernel_rfl)),
  f48 := Tryz.func108.trans (congrArg some (by kernel_rfl)),
  f49 := ⟨Tryz.f109.name, by decide, Tryz.func109.trans (congrArg some (by kernel_rfl))⟩,
  f50 := ⟨Tryz.f110.name, by decide, Tryz.func110.trans (congrArg some (by kernel_rfl))⟩,
  f57 := ⟨Tryz.f120.name, by decide, Tryz.func120.trans (congrArg some (by kernel_rfl))⟩,
  t0 := Tryz.underlying0,
  a0 := Tryz.isAgg0,
  z0 := Tryz.sizeOf0,
  v0 := Tryz.zeroValue0,
  t3 := Tryz.underlying3,
  a3 := Tryz.isAgg3,
  z3 := Tryz.sizeOf3,
  v3 := Tryz.zeroValue3,
  t4 := Tryz.underlying4,
  a4 := Tryz.isAgg4,
  z4 := Tryz.sizeOf4,
  v4 := Tryz.zeroValue4,
  t5 := Tryz.underlying5,
  a5 := Tryz.isAgg5,
  z5 := Tryz.sizeOf5,
  v5 := Tryz.zeroValue5,
  t9 := Tryz.underlying9,
  a9 := Tryz.isAgg9,
  z9 := Tryz.sizeOf9,
  v9 := Tryz.zeroValue9,
  t22 := Tryz.underlying41,
  a22 := Tryz.isAgg41,
  z22 := Tryz.sizeOf41,
  v22 := Tryz.zeroValue41,
  a24 := Tryz.isAgg9,
  z24 := Tryz.sizeOf9,
  t25 := Tryz.underlying104,
  a25 := Tryz.isAgg104,
  z25 := Tryz.sizeOf104,
  v25 := Tryz.zeroValue104,
  t39 := Tryz.underlying154,
  a39 := Tryz.isAgg154,
  z39 := Tryz.sizeOf154,
  v39 := Tryz.zeroValue154,
  t45 := Tryz.underlying160,
  a45 := Tryz.isAgg160,
  z45 := Tryz.sizeOf160,
  v45 := Tryz.zeroValue160,
  t46 := Tryz.underlying161,
  a46 := Tryz.isAgg161,
  z46 := Tryz.sizeOf161,
  v46 := Tryz.zeroValue161,
  t50 := Tryz.underlying140,
  a50 := Tryz.isAgg140,
  z50 := Tryz.sizeOf140,
  v50 := Tryz.zeroValue140,
  t53 := Tryz.underlying167,
  a53 := Tryz.isAgg167,
  z53 := Tryz.sizeOf167,
  v53 := Tryz.zeroValue167,
  t55 := Tryz.underlying56,
  a55 := Tryz.isAgg56,
  z55 := Tryz.sizeOf56,
  v55 := Tryz.zeroValue56,
  t66 := Tryz.underlying170,
  a66 := Tryz.isAgg170,
  z66 := Tryz.sizeOf170,
  v66 := Tryz.zeroValue170,
  t70 := Tryz.underlying174,
  a70 := Tryz.isAgg174,
  z70 := Tryz.sizeOf174,
  v70 := Tryz.zeroValue174,
  t76 := Tryz.underlying181,
  a76 := Tryz.isAgg181,
  z76 := Tryz.sizeOf181,
  v76 := Tryz.zeroValue181,
  t77 := Tryz.underlying182,
  a77 := Tryz.isAgg182,
  z77 := Tryz.sizeOf182,
  v77 := Tryz.zeroValue182 }

def layS0_ren : Go.Shelf.Ren := ⟨fun | 6 => 72 | 15 => 89 | 14 => 88 | 28 => 103 | 29 => 104 | 20 => 95 | 21 => 96 | 22 => 97 | 23 => 98 | 24 => 99 | 25 => 100 | 26 => 101 | 27 => 102 | 46 => 106 | 47 => 107 | 48 => 108 | 49 => 109 | 50 => 110 | 57 => 120 | n => n, fun | 22 => 41 | 24 => 9 | 25 => 104 | 3 => 3 | 39 => 154 | 0 => 0 | 53 => 167 | 55 => 56 | 4 => 4 | 46 => 161 | 45 => 160 | 50 => 140 | 5 => 5 | 9 => 9 | 66 => 170 | 70 => 174 | 76 => 181 | 77 => 182 | n => n, fun | n => n⟩
theorem layS0 : Go.Proofs.SlLaysF0.n6 Tryz.prog layS0_ren := {
  mixed := by kernel_rfl,
  f6 := ⟨Tryz.f72.name, by decide, Tryz.func72.trans (congrArg some (by kernel_rfl))⟩,
  f14 := ⟨Tryz.f88.name, by decide, Tryz.func88.trans (congrArg some (by kernel_rfl))⟩,
  f15 := Tryz.func89.trans (congrArg some (by kernel_rfl)),
  f20 := ⟨Tryz.f95.name, by decide, Tryz.func95.trans (congrArg some (by kernel_rfl))⟩,
  f21 := ⟨Tryz.f96.name, by decide, Tryz.func96.trans (congrArg some (by kernel_rfl))⟩,
  f22 := ⟨Tryz.f97.name, by decide, Tryz.func97.trans (congrArg some (by kernel_rfl))⟩,
  f23 := ⟨Tryz.f98.name, by decide, Tryz.func98.trans (congrArg some (by kernel_rfl))⟩,
  f24 := ⟨Tryz.f99.name, by decide, Tryz.func99.trans (congrArg some (by kernel_rfl))⟩,
  f25 := ⟨Tryz.f100.name, by decide, Tryz.func100.trans (congrArg some (by kernel_rfl))⟩,
  f26 := ⟨Tryz.f101.name, by decide, Tryz.func101.trans (congrArg some (by kernel_rfl))⟩,
  f27 := ⟨Tryz.f102.name, by decide, Tryz.func102.trans (congrArg some (by kernel_rfl))⟩,
  f28 := Tryz.func103.trans (congrArg some (by kernel_rfl)),
  f29 := Tryz.func104.trans (congrArg some (by kernel_rfl)),
  f46 := ⟨Tryz.f106.name, by decide, Tryz.func106.trans (congrArg some (by kernel_rfl))⟩,
  f47 := Tryz.func107.trans (congrArg some (by kernel_rfl)),
  f48 := Tryz.func108.trans (congrArg some (by kernel_rfl)),
  f49 := ⟨Tryz.f109.name, by decide, Tryz.func109.trans (congrArg some (by kernel_rfl))⟩,
  f50 := ⟨Tryz.f110.name, by decide, Tryz.func110.trans (congrArg some (by kernel_rfl))⟩,
  f57 := ⟨Tryz.f120.name, by decide, Tryz.func120.trans (congrArg some (by kernel_rfl))⟩,
  t0 := Tryz.underlying0,
  a0 := Tryz.isAgg0,
  z0 := Tryz.sizeOf0,
  v0 := Tryz.zeroValue0,
  t3 := Tryz.underlying3,
  a3 := Tryz.isAgg3,
  z3 := Tryz.sizeOf3,
  v3 := Tryz.zeroValue3,
  t4 := Tryz.underlying4,
  a4 := Tryz.isAgg4,
  z4 := Tryz.sizeOf4,
  v4 := Tryz.zeroValue4,
  t5 := Tryz.underlying5,
  a5 := Tryz.isAgg5,
  z5 := Tryz.sizeOf5,
  v5 := Tryz.zeroValue5,
  t9 := Tryz.underlying9,
  a9 := Tryz.isAgg9,
  z9 := Tryz.sizeOf9,
  v9 := Tryz.zeroValue9,
  t22 := Tryz.underlying41,
  a22 := Tryz.isAgg41,
  z22 := Tryz.sizeOf41,
  v22 := Tryz.zeroValue41,
  t25 := Tryz.underlying104,
  a25 := Tryz.isAgg104,
  z25 := Tryz.sizeOf104,
  v25 := Tryz.zeroValue104,
  t39 := Tryz.underlying154,
  a39 := Tryz.isAgg154,
  z39 := Tryz.sizeOf154,
  v39 := Tryz.zeroValue154,
  t45 := Tryz.underlying160,
  a45 := Tryz.isAgg160,
  z45 := Tryz.sizeOf160,
  v45 := Tryz.zeroValue160,
  t46 := Tryz.underlying161,
  a46 := Tryz.isAgg161,
  z46 := Tryz.sizeOf161,
  v46 := Tryz.zeroValue161,
  t50 := Tryz.underlying140,
  a50 := Tryz.isAgg140,
  z50 := Tryz.sizeOf140,
  v50 := Tryz.zeroValue140,
  t53 := Tryz.underlying167,
  a53 := Tryz.isAgg167,
  z53 := Tryz.sizeOf167,
  v53 := Tryz.zeroValue167,
  t55 := Tryz.underlying56,
  a55 := Tryz.isAgg56,
  z55 := Tryz.sizeOf56,
  v55 := Tryz.zeroValue56,
  t66 := Tryz.underlying170,
  a66 := Tryz.isAgg170,
  z66 := Tryz.sizeOf170,
  v66 := Tryz.zeroValue170,
  t70 := Tryz.underlying174,
  a70 := Tryz.isAgg174,
  z70 := Tryz.sizeOf174,
  v70 := Tryz.zeroValue174,
  t76 := Tryz.underlying181,
  a76 := Tryz.isAgg181,
  z76 := Tryz.sizeOf181,
  v76 := Tryz.zeroValue181,
  t77 := Tryz.underlying182,
  a77 := Tryz.isAgg182,
  z77 := Tryz.sizeOf182,
  v77 := Tryz.zeroValue182 }

end Go.Proofs.YtcfjjckencjjeaaGreatDoor
end

/- F2 -/
section
/- Decompiled: what the library and the program compare by. -/
set_option linter.unusedVariables false
set_option linter.unusedSimpArgs false
namespace Go.Proofs.YtcfjjckencjjeaaGreatDoor
open Go Go.E Go.E.OpVal Go.E.OpOk
set_option maxRecDepth 100000
private theorem pf74 : Go.E.plainF Tryz.prog 74 = true := by kernel_rfl

noncomputable def internal_bytealg_CompareString (x0 : List UInt8) (x1 : List UInt8) : Option (Int) :=
 some (Lib.compareBytes x0 x1)
theorem internal_bytealg_CompareString_con {σ : Store} {x0 : List UInt8} {x1 : List UInt8}  {r : Int} (hh : internal_bytealg_CompareString x0 x1 = some r) :
  Con Tryz.prog 74 #[.string (bs x0), .string (bs x1)] σ [] (PureP (.int .i64 r) σ) := by
 dsimp only [internal_bytealg_CompareString] at hh
 refine Con.mk (n := 8) Tryz.func74 z z z (fun w0 => ?_)
 refine TC.a (TL.i z z (TL.en (TC.a (TL.w z (moveStr (.inl z) z) (TL.w z (moveStr (.inl z) z) (TL.w z (cmpStr z z Tryz.func90 (by kernel_rfl) (by kernel_rfl) (by kernel_rfl) (by kernel_rfl) z z) (TL.i z z (TL.en (TC.ret ?_)))))))))
 obtain rfl := so hh
 exact rq [4] ⟨z, z, z⟩

noncomputable def strings_Compare (x0 : List UInt8) (x1 : List UInt8) : Option (Int) :=
 bnd (internal_bytealg_CompareString x0 x1) (fun v4 => some v4)
theorem strings_Compare_con {σ : Store} {x0 : List UInt8} {x1 : List UInt8}  {r : Int} (hh : strings_Compare x0 x1 = some r) :
  Con Tryz.prog 51 #[.string (bs x0), .string (bs x1)] σ [] (PureP (.int .i64 r) σ) := by
 dsimp only [strings_Compare] at hh
 refine Con.mk (n := 8) Tryz.func51 z z z (fun w0 => ?_)
 refine TC.a (TL.i z z (TL.en (TC.a (TL.w z (moveStr (.inl z) z) (TL.w z (moveStr (.inl z) z) ?_)))))
 obtain ⟨v4, u4, hh⟩ := bnd_e hh
 refine TL.op z (callP (internal_bytealg_CompareString_con u4) z z pf74 z z z ?_)
 refine TL.i z z (TL.en (TC.ret ?_))
 obtain rfl := so hh
 exact rq [4] ⟨z, z, z⟩

end Go.Proofs.YtcfjjckencjjeaaGreatDoor
end

/- Pl -/
section
/- Plain lemmas on rounds. No program, no condition. -/
set_option linter.unusedVariables false
set_option linter.unusedSimpArgs false
namespace Go.E
open Go

section
variable {S R : Type} {step : S → Option (S ⊕ R)}
/-- Rounds that count, and may stop at the first that tells. -/
theorem iter_any {y no : R} (f : Nat → S) (p : Nat → Bool) (n : Nat) (hs : ∀ k, k < n → p k = false → step (f k) = some (.inl (f (k + 1)))) (hy : ∀ k, k < n → p k = true → step (f k) = some (.inr y))
    (hd : step (f n) = some (.inr no)) : ∀ k, k ≤ n → iter step (f k) = some (bif (List.range n).any (fun i => decide (k ≤ i) && p i) then y else no) := by
  intro k hk
  obtain ⟨m, rfl⟩ : ∃ m, k = n - m := ⟨n - k, by omega⟩
  induction m with
  | zero =>
    have : (List.range n).any (fun i => decide (n - 0 ≤ i) && p i) = false := by
      rw [List.any_eq_false]; intro i hi; have := List.mem_range.1 hi; simp; omega
    rw [this]; exact iter_done hd
  | succ m ih =>
    by_cases h : m < n
    · have e : n - (m + 1) + 1 = n - m := by omega
      cases hp : p (n - (m + 1)) with
      | true =>
        have : (List.range n).any (fun i => decide (n - (m + 1) ≤ i) && p i) = true := by
          rw [List.any_eq_true]; exact ⟨n - (m + 1), List.mem_range.2 (by omega), by simp [hp]⟩
        rw [this]; exact iter_done (hy _ (by omega) hp)
      | false =>
        have h1 := hs (n - (m + 1)) (by omega) hp
        rw [e] at h1
        have : (List.range n).any (fun i => decide (n - (m + 1) ≤ i) && p i) = (List.range n).any (fun i => decide (n - m ≤ i) && p i) := by
          rw [Bool.eq_iff_iff, List.any_eq_true, List.any_eq_true]
          constructor
          · rintro ⟨i, hi, hx⟩
            simp only [Bool.and_eq_true, decide_eq_true_eq] at hx
            refine ⟨i, hi, ?_⟩
            have : i ≠ n - (m + 1) := fun h => by rw [h, hp] at hx; exact absurd hx.2 Bool.false_ne_true
            simp [hx.2]; omega
          · rintro ⟨i, hi, hx⟩
            simp only [Bool.and_eq_true, decide_eq_true_eq] at hx
            exact ⟨i, hi, by simp [hx.2]; omega⟩
        rw [this]
        exact iter_next h1 (ih (by omega))
    · have e : n - (m + 1) = n - m := by omega
      rw [e]; exact ih (by omega)
theorem iter_any0 {y no : R} (f : Nat → S) (p : Nat → Bool) (n : Nat) (hs : ∀ k, k < n → p k = false → step (f k) = some (.inl (f (k + 1)))) (hy : ∀ k, k < n → p k = true → step (f k) = some (.inr y))
    (hd : step (f n) = some (.inr no)) : iter step (f 0) = some (bif (List.range n).any p then y else no) := by
  have := iter_any f p n hs hy hd 0 (by omega)
  simpa using this
theorem iter_seq0 {r : R} (f : Nat → S) (n : Nat) (hs : ∀ k, k < n → step (f k) = some (.inl (f (k + 1)))) (hd : step (f n) = some (.inr r)) : iter step (f 0) = some r := iter_seq f n hs hd 0 (by omega)
end

/-- What a list's elements tell, asked by place. -/
theorem range_any {α : Type} (l : List α) (d : α) (p : α → Bool) : (List.range l.length).any (fun i => p (nth l i d)) = l.any p := by
  rw [Bool.eq_iff_iff, List.any_eq_true, List.any_eq_true]
  constructor
  · rintro ⟨i, hi, h⟩
    have hi := List.mem_range.1 hi
    exact ⟨nth l i d, List.mem_of_getElem? (getD_some l hi d), h⟩
  · rintro ⟨x, hx, h⟩
    obtain ⟨i, hi, rfl⟩ := List.getElem_of_mem hx
    refine ⟨i, List.mem_range.2 hi, ?_⟩
    have : nth l i d = l[i] := by have := getD_some l hi d; rw [List.getElem?_eq_getElem hi] at this; exact (Option.some.inj this).symm
    rw [this]; exact h
theorem take_snoc {α : Type} (l : List α) {k : Nat} (h : k < l.length) (d : α) : l.take (k + 1) = l.take k ++ [nth l k d] := by
  rw [List.take_add_one, getD_some l h d]; rfl
theorem nth_mem' {α : Type} {l : List α} {i : Nat} (h : i < l.length) (d : α) : nth l i d ∈ l := List.mem_of_getElem? (getD_some l h d)
end Go.E
end

/- Ord -/
section
/- Whole orders. Plain lemmas, no condition. -/
set_option linter.unusedVariables false
set_option linter.unusedSimpArgs false
namespace Go.Proofs.YtcfjjckencjjeaaGreatDoor
open Go Go.E Go.Sort
set_option maxRecDepth 100000

structure GoodCmp {α : Type} (c : α → α → Int) : Prop where
  eq : ∀ x y, c x y = 0 ↔ x = y
  anti : ∀ x y, c x y < 0 ↔ 0 < c y x
  trans : ∀ x y z, c x y < 0 → c y z < 0 → c x z < 0
theorem GoodCmp.total {α : Type} {c : α → α → Int} (h : GoodCmp c) : TotalCmp c where
  swo := {
    irrefl := fun x => by have := (h.eq x x).2 rfl; simp [ltOf, this]
    trans := fun x y z h1 h2 => by
      simp only [ltOf, decide_eq_true_eq] at *
      exact h.trans x y z h1 h2
    ntrans := fun x y z h1 h2 => by
      simp only [ltOf, decide_eq_false_iff_not] at *
      intro h3
      by_cases e1 : x = y
      · subst e1; exact h2 h3
      · by_cases e2 : y = z
        · subst e2; exact h1 h3
        · have n1 : c x y ≠ 0 := fun e => e1 ((h.eq _ _).1 e)
          have n2 : c y z ≠ 0 := fun e => e2 ((h.eq _ _).1 e)
          have h4 : c z y < 0 := (h.anti _ _).2 (by omega)
          exact h1 (h.trans _ _ _ h3 h4) }
  tot := fun x y h1 h2 => by
    simp only [ltOf, decide_eq_false_iff_not] at *
    refine (h.eq x y).1 ?_
    have := (h.anti y x)
    omega
theorem cmpB_eq : ∀ a b : List UInt8, Lib.compareBytes a b = 0 ↔ a = b
  | [], [] => by simp [Lib.compareBytes]
  | [], _ :: _ => by simp [Lib.compareBytes]
  | _ :: _, [] => by simp [Lib.compareBytes]
  | x :: a, y :: b => by
    simp only [Lib.compareBytes]
    split
    · rename_i h; simp; intro e; subst e; exact absurd h (UInt8.lt_irrefl _)
    · rename_i h
      split
      · rename_i h'; simp; intro e; subst e; exact absurd h' (UInt8.lt_irrefl _)
      · rename_i h'
        have : x = y := UInt8.le_antisymm (UInt8.not_lt.1 h') (UInt8.not_lt.1 h)
        subst this
        simp [cmpB_eq a b]
theorem cmpB_anti : ∀ a b : List UInt8, Lib.compareBytes a b < 0 ↔ 0 < Lib.compareBytes b a
  | [], [] => by simp [Lib.compareBytes]
  | [], _ :: _ => by simp [Lib.compareBytes]
  | _ :: _, [] => by simp [Lib.compareBytes]
  | x :: a, y :: b => by
    simp only [Lib.compareBytes]
    by_cases h : x < y
    · have h' : ¬ y < x := fun h2 => UInt8.lt_irrefl _ (UInt8.lt_trans h h2)
      simp [h, h']
    · by_cases h' : y < x
      · simp [h, h']
      · simp [h, h', cmpB_anti a b]
theorem cmpB_trans : ∀ a b c : List UInt8, Lib.compareBytes a b < 0 → Lib.compareBytes b c < 0 → Lib.compareBytes a c < 0
  | [], [], c, h, _ => by simp [Lib.compareBytes] at h
  | [], _ :: _, [], _, h => by simp [Lib.compareBytes] at h
  | [], _ :: _, _ :: _, _, _ => by simp [Lib.compareBytes]
  | _ :: _, [], c, h, _ => by simp [Lib.compareBytes] at h
  | _ :: _, _ :: _, [], _, h => by simp [Lib.compareBytes] at h
  | x :: a, y :: b, z :: c, h1, h2 => by
    simp only [Lib.compareBytes] at *
    by_cases hxy : x < y
    · by_cases hyz : y < z
      · have := UInt8.lt_trans hxy hyz; simp [this]
      · by_cases hzy : z < y
        · simp [hyz, hzy] at h2
        · have : y = z := UInt8.le_antisymm (UInt8.not_lt.1 hzy) (UInt8.not_lt.1 hyz)
          subst this; simp [hxy]
    · by_cases hyx : y < x
      · simp [hxy, hyx] at h1
      · have : x = y := UInt8.le_antisymm (UInt8.not_lt.1 hyx) (UInt8.not_lt.1 hxy)
        subst this
        simp only [UInt8.lt_irrefl, if_false] at h1
        by_cases hyz : x < z
        · simp [hyz]
        · by_cases hzy : z < x
          · simp [hyz, hzy] at h2
          · simp only [hyz, hzy, if_false] at h2 ⊢
            exact cmpB_trans a b c h1 h2
theorem cmpB_good : GoodCmp Lib.compareBytes := ⟨cmpB_eq, cmpB_anti, cmpB_trans⟩
theorem lt_dec {k n : Nat} (h : k < n) : decide (((k : Nat) : Int) < ((n : Nat) : Int)) = true := decide_eq_true (by omega)
end Go.Proofs.YtcfjjckencjjeaaGreatDoor
end

/- F2p -/
section
/- What the program compares by: whole orders. Plain. -/
set_option linter.unusedVariables false
set_option linter.unusedSimpArgs false
namespace Go.Proofs.YtcfjjckencjjeaaGreatDoor
open Go Go.E Go.Sort
set_option maxRecDepth 100000

theorem strings_Compare_eq (x y : List UInt8) : strings_Compare x y = some (Lib.compareBytes x y) := rfl
end Go.Proofs.YtcfjjckencjjeaaGreatDoor
end

/- F3s -/
section
/- The library's sort at the types that the program sorts. Conditions: none. -/
set_option linter.unusedVariables false
set_option linter.unusedSimpArgs false
namespace Go.Proofs.YtcfjjckencjjeaaGreatDoor
open Go Go.E
set_option maxRecDepth 100000
instance : Inhabited Tip := ⟨Tip.zero⟩
instance : Inhabited Arc := ⟨Arc.zero⟩
theorem sortS_con {σ : Store} {a : Option Addr} {c : Nat} {l : List (List UInt8)} : Con Tryz.prog 72 #[.slice a l.length c, .func (.func 51) #[] #[]] σ [Res.rowS 9 1 Go.E.encS (.slice a l.length c) l] (SortP 9 1 Go.E.encS a c l (sortL Lib.compareBytes l) σ) :=
  Con.sort1 (enc := keyS) layS layS0 rfl (fun _ => rfl) (fun _ => rfl) cmpB_good.total (fun args w => run_callFunc (by kernel_rfl) args w) (fun x y τ => strings_Compare_con (strings_Compare_eq x y))
end Go.Proofs.YtcfjjckencjjeaaGreatDoor
end
