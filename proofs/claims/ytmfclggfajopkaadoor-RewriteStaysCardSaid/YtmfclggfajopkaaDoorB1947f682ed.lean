/- Parts of a proof, one behind the other: what a machine reaches, functions decompiled, plain lemmas. Conditions stand with each lemma. -/
import Derived.Test.YtmfclggfajopkaaDoorB259bb1a7ea
import Derived.Test.YtmfclggfajopkaaDoorB9188979c47

/- S1 -/
section
/- Decompiled: bytes told apart by sets; automatons that go one way. -/
set_option linter.unusedVariables false
set_option linter.unusedSimpArgs false
namespace Go.Proofs.YtmfclggfajopkaaDoor
open Go Go.E
set_option maxRecDepth 100000
private theorem ag115 : Go.E.aggOf Tryd.prog 115 = some false := by kernel_rfl
private theorem ag23 : Go.E.aggOf Tryd.prog 23 = some false := by kernel_rfl
private theorem ag24 : Go.E.aggOf Tryd.prog 24 = some false := by kernel_rfl
private theorem by5 : Go.E.byOf Tryd.prog 5 = some 1 := by kernel_rfl
private theorem by84 : Go.E.byOf Tryd.prog 84 = some 32 := by kernel_rfl
private theorem fo26_0 : Go.E.foOf Tryd.prog 26 0 = some 0 := by kernel_rfl
private theorem fo26_1 : Go.E.foOf Tryd.prog 26 1 = some 1 := by kernel_rfl
private theorem fo26_2 : Go.E.foOf Tryd.prog 26 2 = some 2 := by kernel_rfl
private theorem pf32 : Go.E.plainF Tryd.prog 32 = true := by kernel_rfl
private theorem pf59 : Go.E.plainF Tryd.prog 59 = true := by kernel_rfl
private theorem pf63 : Go.E.plainF Tryd.prog 63 = true := by kernel_rfl
private theorem pf64 : Go.E.plainF Tryd.prog 64 = true := by kernel_rfl
private theorem pf65 : Go.E.plainF Tryd.prog 65 = true := by kernel_rfl
private theorem pf66 : Go.E.plainF Tryd.prog 66 = true := by kernel_rfl
private theorem pf74 : Go.E.plainF Tryd.prog 74 = true := by kernel_rfl
private theorem sz22 : Go.E.szOf Tryd.prog 22 = some 1 := by kernel_rfl
private theorem ze5 : Go.E.zeroOf Tryd.prog 5 = some (.int .u8 0) := by kernel_rfl

noncomputable def math_bits_TrailingZeros64 (x0 : Nat) : Option (Int) :=
 iteO (decide (x0 = 0)) (some 64) (grd ((u64shr (u64mul (u64and x0 (u64of (-((x0 : Nat) : Int)))) 285870213051353865) 58) < 64) (some (((nth deB (u64shr (u64mul (u64and x0 (u64of (-((x0 : Nat) : Int)))) 285870213051353865) 58) (0 : UInt8)).toNat : Nat) : Int)))
theorem math_bits_TrailingZeros64_con {σ : Store} {x0 : Nat} (hgl : GT σ 0 encU8 deB) {r : Int} (hh : math_bits_TrailingZeros64 x0 = some r) :
  Con Tryd.prog 74 #[.int .u64 ((x0 : Nat) : Int)] σ [] (PureP (.int .i64 r) σ) := by
 dsimp only [math_bits_TrailingZeros64] at hh
 refine Con.mk (n := 14) Tryd.func74 z z z (fun w0 => ?_)
 refine TC.seq (TC.region (TL.v z (OpVal.moveI (.inr z) z) z z (TL.nil (S.n (TC.seq (TC.seq (TC.region (TL.v z (OpVal.moveI (.inl z) z) z z (TL.v z (OpVal.eqlU z z z) z z ?_)))))))))
 refine TL.nil (S.n (TC.cond z (fun h101 => ?_) (fun h101 => ?_)))
 ·replace hh := iteO_t h101 hh
  replace h101 := of_decide_eq_true h101
  refine TC.seq (TC.region (TL.v z (OpVal.moveI (.inr z) z) z z (TL.nil (S.n (TC.ret (S.r ?_))))))
  obtain rfl := Option.some.inj hh
  exact RetOk.mk' (rs := [.tmp 2]) [] z (.inl z) (RVs.tmp z RVs.nil) (List.sublist_append_left _ _) ⟨z, z, z⟩
 ·replace hh := iteO_f h101 hh
  replace h101 := of_decide_eq_false h101
  refine TC.skip (S.n (TC.seq (TC.region (TL.v z (OpVal.moveI (.inl z) z) z z (TL.v z (OpVal.moveI (.inl z) z) z z (TL.v z (OpVal.negU z z) z z (TL.v z (OpVal.andU z z z) z z (TL.v z (OpVal.mulU (b := 285870213051353865) z z z) z z (TL.v z (OpVal.shrU (b := 58) z z z) z z ?_)))))))))
  have u11 := grd_c hh
  replace hh := grd_t hh
  refine TL.v z (OpVal.indexArrN z Tryd.underlying158 sz5 z z (by omega)) z z (TL.v z (OpVal.loadG1 (0 : UInt8) z ag5 z hgl (by simp only [deB, List.length_cons, List.length_nil]; omega) encU8_len z) z z (TL.v z (OpVal.convN z Tryd.underlying5 Tryd.underlying3 z (by have := UInt8.toNat_lt (nth deB (u64shr (u64mul (u64and x0 (u64of (-((x0 : Nat) : Int)))) 285870213051353865) 58) (0 : UInt8)); simp only [kmax]; omega)) z z (TL.v z (OpVal.moveI (.inr z) z) z z (TL.nil (S.n (TC.ret ?_))))))
  obtain rfl := Option.some.inj hh
  exact RetOk.mk' (rs := [.tmp 2]) [] z (.inl z) (RVs.tmp z RVs.nil) (List.sublist_append_left _ _) ⟨z, z, z⟩

noncomputable def set_First_b1 (x0 : BSet) (k105 : Nat) : Option ((Nat) ⊕ (UInt8 × Bool)) :=
 iteO (decide (((k105 : Nat) : Int) < 4)) (grd (k105 < 4) (iteO (decide ((BSet.word x0 k105) ≠ 0)) (bnd (math_bits_TrailingZeros64 (BSet.word x0 k105)) (fun v16 => fin (some ((toU8 (IntKind.i64.wrap ((IntKind.i64.wrap (64 * ((k105 : Nat) : Int))) + v16))), true)))) (nxt (k105 + 1)))) (fin (some ((0 : UInt8), false)))
noncomputable def set_First (x0 : BSet) : Option (UInt8 × Bool) :=
 iter (fun q : Nat => set_First_b1 x0 q) 0
theorem set_First_con {σ : Store} {x0 : BSet} (hgl : GT σ 0 encU8 deB) {r : UInt8 × Bool} (hh : set_First x0 = some r) :
  Con Tryd.prog 65 #[setV x0] σ [] (PureP (.tuple #[.int .u8 ((r.1.toNat : Nat) : Int), .bool r.2]) σ) := by
 dsimp only [set_First] at hh
 refine Con.mk (n := 20) Tryd.func65 z z z (fun w0 => ?_)
 refine TC.seq (TC.region (TL.op z (OpOk.boxA z z z z (fun b101 => ?_))))
 refine TL.v z (OpVal.moveI (.inr z) z) z z (TL.v z (OpVal.moveB (.inr z) z) z z (TL.nil (S.n (TC.seq (TC.seq (TC.region (TL.v z (OpVal.loadAll z ag84 sz84 z (i := 0) z z) z z (TL.v z (OpVal.moveI (.inl z) z) z z (TL.nil ?_)))))))))
 refine S.n (TC.block (TC.loopG (α := (Nat) × (Unit)) [2, 3, 4, 5, 7, 8, 9, 10, 11, 12, 13, 14, 15, 16, 17, 18, 19] (fun g => [(7, .int .i64 ((g.1 : Nat) : Int))]) (fun g => []) (fun g => σ) (fun g => iter (fun q : Nat => set_First_b1 x0 q) g.1 = some r) (fun g => rounds (fun q : Nat => set_First_b1 x0 q) g.1) (0, ()) (Sub.pre 0 z) z (by repeat (first | exact trivial | refine ⟨z, ?_⟩)) hh (fun g1 j1 hg1 => ?_)))
 obtain ⟨k105, _⟩ := g1
 have hh := hg1; clear hg1
 show TC _ _ _ (upds (mask _ j1 _) [(7, .int .i64 ((k105 : Nat) : Int))]) _ []
 obtain ⟨z1, hh, hR1⟩ := iter_e hh
 dsimp only [set_First_b1] at hh
 refine TC.seq (TC.region (TL.v z (OpVal.lss z z z) z z (TL.nil (S.n (TC.seq (TC.cond z (fun h106 => ?_) (fun h106 => ?_)))))))
 ·replace hh := iteO_t h106 hh
  replace h106 := of_decide_eq_true h106
  refine TC.skip (S.n (TC.seq (TC.block (TC.seq (TC.region (TL.v z (OpVal.moveI (.inl z) z) z z ?_))))))
  have u8 := grd_c hh
  replace hh := grd_t hh
  refine TL.v z (OpVal.indexSet z Tryd.underlying84 sz82 ag82 z z (by omega)) z z (TL.v z (OpVal.moveI (.inr z) z) z z (TL.v z (OpVal.moveI (.inr z) z) z z (TL.nil (S.n (TC.seq (TC.region (TL.v z (OpVal.moveI (.inl z) z) z z (TL.v z (OpVal.neqU z z z) z z (TL.nil ?_)))))))))
  refine S.n (TC.cond z (fun h107 => ?_) (fun h107 => ?_))
  ·replace hh := iteO_t h107 hh
   replace h107 := of_decide_eq_true h107
   refine TC.seq (TC.region (TL.v z (OpVal.moveI (.inl z) z) z z (TL.v z (OpVal.mulW z z z) z z (TL.v z (OpVal.moveI (.inl z) z) z z ?_))))
   obtain ⟨v16, u16, hh⟩ := bnd_e hh
   refine TL.op z (OpOk.callP (math_bits_TrailingZeros64_con hgl u16) z z pf74 z z z ?_)
   refine TL.v z (OpVal.addW z z z) z z (TL.v z (OpVal.convU8 z Tryd.underlying3 Tryd.underlying5 z) z z (TL.v z (OpVal.moveI (.inr z) z) z z (TL.v z (OpVal.moveB (.inr z) z) z z (TL.nil (S.n (TC.ret (B.r (S.r (S.r ?_)))))))))
   replace hh := fin_x hR1 hh
   refine B.r (S.r ?_)
   obtain rfl := Option.some.inj hh
   exact RetOk.mk' (rs := [.tmp 2, .tmp 3]) [] z (.inl z) (RVs.tmp z (RVs.tmp z RVs.nil)) (List.sublist_append_left _ _) ⟨z, z, z⟩
  ·replace hh := iteO_f h107 hh
   replace h107 := of_decide_eq_false h107
   refine TC.skip (B.n (S.n (TC.region (TL.v z (OpVal.succ z z z (by omega)) z z (TL.v z (OpVal.moveI (.inl z) z) z z (TL.nil (S.n ?_)))))))
   obtain ⟨hh, hlt108⟩ := nxt_x hR1 hh
   refine ⟨by repeat (first | exact Agr.refl _ _ | exact Agr.mask | refine Agr.upd z ?_ | refine Agr.maskIn z ?_ | refine Agr.upds z ?_), ((k105 + 1), ()), hlt108, hh, by repeat (first | exact trivial | refine ⟨z, ?_⟩), Sub.pre 0 z, z⟩
 ·replace hh := iteO_f h106 hh
  replace h106 := of_decide_eq_false h106
  refine TC.exit (S.x (S.x ?_))
  replace hh := fin_x hR1 hh
  refine TC.exitHere (S.n (TC.seq (TC.region (TL.v z (OpVal.moveI (.inr z) z) z z (TL.v z (OpVal.moveB (.inr z) z) z z (TL.nil (S.n (TC.ret ?_))))))))
  obtain rfl := Option.some.inj hh
  exact RetOk.mk' (rs := [.tmp 2, .tmp 3]) [] z (.inl z) (RVs.tmp z (RVs.tmp z RVs.nil)) (List.sublist_append_left _ _) ⟨z, z, z⟩

noncomputable def set_Any_b1 (x1 : BSet) (z111 : BSet) (k112 : Nat) : Option ((BSet × Nat) ⊕ (BSet)) :=
 iteO (decide (((k112 : Nat) : Int) < 4)) (grd (k112 < 4) (grd (k112 < 4) (grd (k112 < 4) (grd ((u64or (BSet.word z111 k112) (BSet.word x1 k112)) < 18446744073709551616) (nxt ((BSet.setWord z111 k112 (u64or (BSet.word z111 k112) (BSet.word x1 k112))), (k112 + 1))))))) (fin (some z111))
noncomputable def set_Any (x0 : BSet) (x1 : BSet) : Option (BSet) :=
 iter (fun q : BSet × Nat => set_Any_b1 x1 q.1 q.2) (x0, 0)
theorem set_Any_con {σ : Store} {x0 : BSet} {x1 : BSet}  {r : BSet} (hh : set_Any x0 x1 = some r) :
  Con Tryd.prog 64 #[setV x0, setV x1] σ [] (PureP (setV r) σ) := by
 dsimp only [set_Any] at hh
 refine Con.mk (n := 19) Tryd.func64 z z z (fun w0 => ?_)
 refine TC.seq (TC.region (TL.op z (OpOk.boxA z z z z (fun b101 => ?_))))
 refine TL.op z (OpOk.boxA z z z z (fun b103 => ?_))
 refine TL.op z (OpOk.alloc z ze84 z z (fun b105 => ?_))
 refine TL.nil (S.n (TC.seq (TC.seq (TC.region (TL.v z (OpVal.moveI (.inl z) z) z z (TL.nil (S.n (TC.block (TC.loopG (α := (BSet × Nat) × (Unit)) [5, 6, 7, 8, 9, 10, 11, 12, 13, 14, 15, 16, 17] (fun g => [(6, .int .i64 ((g.1.2 : Nat) : Int))]) (fun g => [Res.cells b101 (setA g.1.1) 84, Res.cells b103 (setA x1) 84, Res.cells b105 (setA BSet.zero) 84]) (fun g => σ) (fun g => iter (fun q : BSet × Nat => set_Any_b1 x1 q.1 q.2) g.1 = some r) (fun g => rounds (fun q : BSet × Nat => set_Any_b1 x1 q.1 q.2) g.1) ((x0, 0), ()) (Sub.front 1 z z (Sub.front 2 z z (Sub.pre 3 z))) z (by repeat (first | exact trivial | refine ⟨z, ?_⟩)) hh (fun g1 j1 hg1 => ?_))))))))))
 obtain ⟨⟨z111, k112⟩, _⟩ := g1
 have hh := hg1; clear hg1
 show TC _ _ _ (upds (mask _ j1 _) [(6, .int .i64 ((k112 : Nat) : Int))]) _ [Res.cells b101 (setA z111) 84, Res.cells b103 (setA x1) 84, Res.cells b105 (setA BSet.zero) 84]
 obtain ⟨z1, hh, hR1⟩ := iter_e hh
 dsimp only [set_Any_b1] at hh
 refine TC.seq (TC.region (TL.v z (OpVal.lss z z z) z z (TL.nil (S.n (TC.seq (TC.cond z (fun h113 => ?_) (fun h113 => ?_)))))))
 ·replace hh := iteO_t h113 hh
  replace h113 := of_decide_eq_true h113
  refine TC.skip (S.n (TC.seq (TC.block (TC.seq (TC.region (TL.v z (OpVal.moveI (.inl z) z) z z (TL.v z (OpVal.moveI (.inr z) z) z z (TL.nil (S.n ?_)))))))))
  have u9 := grd_c hh
  replace hh := grd_t hh
  have u12 := grd_c hh
  replace hh := grd_t hh
  have u15 := grd_c hh
  replace hh := grd_t hh
  have u16 := grd_c hh
  replace hh := grd_t hh
  refine TC.draw [8] (by kernel_rfl) (TA.takeP 0 z (by kernel_rfl) (by kernel_rfl) (by kernel_rfl) z (OpVal.moveI (.inl z) z) z z (TA.take 1 z (by kernel_rfl) (by kernel_rfl) (by kernel_rfl) (by kernel_rfl) z (OpVal.indexArrN z Tryd.underlying84 sz82 z z (by omega)) z z (TA.take 2 z (by kernel_rfl) (by kernel_rfl) (by kernel_rfl) (by kernel_rfl) z (OpVal.loadWordAt z111 z ag82 z (j := 0) z (by omega) z) z z (TA.takeP 3 z (by kernel_rfl) (by kernel_rfl) (by kernel_rfl) z (OpVal.moveI (.inl z) z) z z (TA.take 4 z (by kernel_rfl) (by kernel_rfl) (by kernel_rfl) (by kernel_rfl) z (OpVal.indexArrN z Tryd.underlying84 sz82 z z (by omega)) z z (TA.take 5 z (by kernel_rfl) (by kernel_rfl) (by kernel_rfl) (by kernel_rfl) z (OpVal.loadWordAt x1 z ag82 z (j := 1) z (by omega) z) z z (TA.takeP 6 z (by kernel_rfl) (by kernel_rfl) (by kernel_rfl) z (OpVal.orU z z z) z z (TA.take 7 z (by kernel_rfl) (by kernel_rfl) (by kernel_rfl) (by kernel_rfl) z (OpVal.indexArrN z Tryd.underlying84 sz82 z z (by omega)) z z (TA.last 8 (by kernel_rfl) z z z (OpOk.storeWord z sz82 z z z (by omega) u16 ?_))))))))))
  refine TZ.done (by kernel_rfl) (B.n (S.n (TC.region (TL.v z (OpVal.succ z z z (by omega)) z z (TL.v z (OpVal.moveI (.inl z) z) z z (TL.nil (S.n ?_)))))))
  obtain ⟨hh, hlt114⟩ := nxt_x hR1 hh
  refine ⟨by repeat (first | exact Agr.refl _ _ | exact Agr.mask | refine Agr.upd z ?_ | refine Agr.maskIn z ?_ | refine Agr.upds z ?_), (((BSet.setWord z111 k112 (u64or (BSet.word z111 k112) (BSet.word x1 k112))), (k112 + 1)), ()), hlt114, hh, by repeat (first | exact trivial | refine ⟨z, ?_⟩), Sub.front 2 z z (Sub.front 2 z z (Sub.front 2 z z (Sub.pre 3 z))), z⟩
 ·replace hh := iteO_f h113 hh
  replace h113 := of_decide_eq_false h113
  refine TC.exit (S.x (S.x ?_))
  replace hh := fin_x hR1 hh
  refine TC.exitHere (S.n (TC.seq (TC.region (TL.v z (OpVal.loadAll z ag84 sz84 z (i := 0) z z) z z (TL.front 2 z z (TL.op z (OpOk.storeAll z sz84 z z z z z z ?_)))))))
  refine TL.nil (S.n (TC.ofSub (Sub.pre 1 z) (TC.ret ?_)))
  obtain rfl := Option.some.inj hh
  exact RetOk.mk' (rs := [.cell 4 84]) [] z (.inl z) (RVs.agg ag84 sz84 z (i := 0) z z RVs.nil) (List.sublist_append_left _ _) ⟨z, z, z⟩

noncomputable def part_key_j1 (k112 : Nat) (l115 : List UInt8) : Option (((List UInt8) × Nat) ⊕ ((List UInt8))) :=
 nxt (l115, (k112 + 1))
noncomputable def part_key_b1 (x0 : List BSet) (x1 : UInt8) (l110 : List UInt8) (k112 : Nat) : Option (((List UInt8) × Nat) ⊕ ((List UInt8))) :=
 iteO (decide (((k112 : Nat) : Int) < ((x0.length : Nat) : Int))) (iteO ((nth x0 k112 BSet.zero).has x1.toNat) (grd (k112 < l110.length) (part_key_j1 k112 (l110.set k112 (1 : UInt8)))) (part_key_j1 k112 l110)) (fin (some l110))
noncomputable def part_key (x0 : List BSet) (x1 : UInt8) : Option ((List UInt8)) :=
 grd (1 * x0.length ≤ 281474976710656) (iter (fun q : (List UInt8) × Nat => part_key_b1 x0 x1 q.1 q.2) ((List.replicate x0.length (0 : UInt8)), 0))
theorem part_key_con {σ : Store} {x0 : List BSet} {a0_0 : Option Addr} {c0_0 : Nat} {x1 : UInt8} (f0_0 : RS σ 4 encSet (.slice a0_0 x0.length c0_0) x0) {r : (List UInt8)} (hh : part_key x0 x1 = some r) :
  Con Tryd.prog 63 #[.slice a0_0 x0.length c0_0, .int .u8 ((x1.toNat : Nat) : Int)] σ [] (PureP (.string (bs r)) σ) := by
 dsimp only [part_key] at hh
 have f0_0b := f0_0.rv.big
 refine Con.mk (n := 27) Tryd.func63 z z z (fun w0 => ?_)
 refine TC.seq (TC.region (TL.v z (OpVal.moveStr (.inr z) z) z z (TL.nil (S.n (TC.seq (TC.region (TL.v z (OpVal.moveSl (.inl z) z) z z (TL.v z (OpVal.lenC z Tryd.underlying115 z) z z ?_))))))))
 have u4 := grd_c hh
 replace hh := grd_t hh
 refine TL.op z (OpOk.makeS2 (enc := encU8) (0 : UInt8) z Tryd.underlying48 sz5 by5 ze5 z z z z (by omega) (by decide) encU8_len (by decide) z encU8_one (fun a101 c102 => ?_))
 refine TL.v z (OpVal.moveSl (.inr z) z) z z (TL.nil (S.n (TC.seq (TC.seq (TC.region (TL.v z (OpVal.moveSl (.inl z) z) z z (TL.v z (OpVal.lenC z Tryd.underlying115 z) z z (TL.v z (OpVal.moveI (.inl z) z) z z (TL.nil ?_)))))))))
 refine S.n (TC.block (TC.loopG (α := ((List UInt8) × Nat) × (Unit)) [6, 7, 13, 14, 15, 16, 17, 18, 19, 20, 21, 22, 23, 24] (fun g => [(13, .int .i64 ((g.1.2 : Nat) : Int))]) (fun g => [Res.rowS 5 1 encU8 (.slice a101 (List.replicate x0.length (0 : UInt8)).length c102) g.1.1]) (fun g => σ) (fun g => iter (fun q : (List UInt8) × Nat => part_key_b1 x0 x1 q.1 q.2) g.1 = some r ∧ g.1.1.length = (List.replicate x0.length (0 : UInt8)).length) (fun g => rounds (fun q : (List UInt8) × Nat => part_key_b1 x0 x1 q.1 q.2) g.1) (((List.replicate x0.length (0 : UInt8)), 0), ()) (Sub.pre 1 z) z (by repeat (first | exact trivial | refine ⟨z, ?_⟩)) ⟨hh, z⟩ (fun g1 j1 hg1 => ?_)))
 obtain ⟨⟨l110, k112⟩, _⟩ := g1
 obtain ⟨hh, hn111⟩ := hg1
 try dsimp only at hn111
 show TC _ _ _ (upds (mask _ j1 _) [(13, .int .i64 ((k112 : Nat) : Int))]) _ [Res.rowS 5 1 encU8 (.slice a101 (List.replicate x0.length (0 : UInt8)).length c102) l110]
 obtain ⟨z1, hh, hR1⟩ := iter_e hh
 dsimp only [part_key_b1] at hh
 have hn111b := hn111
 refine TC.isSl (i := 0) z (fun _ hb113 _ => ?_)
 refine TC.seq (TC.region (TL.v z (OpVal.lss z z z) z z (TL.nil (S.n (TC.seq (TC.cond z (fun h114 => ?_) (fun h114 => ?_)))))))
 ·replace hh := iteO_t h114 hh
  replace h114 := of_decide_eq_true h114
  refine TC.skip (S.n (TC.cutG (α := ((List UInt8)) × (Unit)) [6, 7, 15, 16, 17, 18, 19, 20, 21, 22, 23] (fun g => []) (fun g => [Res.rowS 5 1 encU8 (.slice a101 (List.replicate x0.length (0 : UInt8)).length c102) g.1]) (fun g => σ) (fun g => part_key_j1 k112 g.1 = some z1 ∧ g.1.length = (List.replicate x0.length (0 : UInt8)).length) ?_ (fun g j hg => ?_)))
  ·skip
   refine TC.block (TC.seq (TC.region (TL.v z (OpVal.moveI (.inl z) z) z z (TL.v z (OpVal.indexN z Tryd.underlying115 sz84 z z f0_0.rv.sl (by omega)) z z (TL.v z (OpVal.loadSA BSet.zero z ag84 sz84 z f0_0 (by omega) (by omega)) z z (TL.op z (OpOk.alloc z ze84 z z (fun b117 => ?_))))))))
   refine TL.v z (OpVal.moveI (.inr z) z) z z (TL.op z (OpOk.storeAll z sz84 z z z z z z ?_))
   refine TL.nil (S.n (TC.seq (TC.region (TL.v z (OpVal.loadAll z ag84 sz84 z (i := 0) z z) z z (TL.v z (OpVal.moveI (.inl z) z) z z (TL.op z (OpOk.callP (has_con _ (nth x0 k112 BSet.zero) x1.toNat (BSet.isOk _) (UInt8.toNat_lt _)) z z pf66 z z z ?_)))))))
   refine TL.nil (S.n (TC.cond z (fun h119 => ?_) (fun h119 => ?_)))
   ·replace hh := iteO_t h119 hh
    refine TC.region (TL.v z (OpVal.moveSl (.inl z) z) z z (TL.v z (OpVal.moveI (.inl z) z) z z ?_))
    have u21 := grd_c hh
    replace hh := grd_t hh
    refine TL.isSl (i := 1) z (fun hs120 _ _ => ?_)
    refine TL.v z (OpVal.indexN z Tryd.underlying48 sz5 z z hs120 (by omega)) z z (TL.front 1 z z ?_)
    have hn121 : (l110.set k112 (1 : UInt8)).length = (List.replicate x0.length (0 : UInt8)).length := by rw [List.length_set]; exact hn111
    refine TL.op z (OpOk.storeS (1 : UInt8) z sz5 z z z z encU8_len encU8_one (by omega) (by omega) ?_)
    refine TL.nil (B.n (S.n (⟨by repeat (first | exact Agr.refl _ _ | exact Agr.mask | refine Agr.upd z ?_ | refine Agr.maskIn z ?_ | refine Agr.upds z ?_), ((l110.set k112 (1 : UInt8)), ()), ⟨hh, hn121⟩, by repeat (first | exact trivial | refine ⟨z, ?_⟩), Sub.pre 1 z, z⟩)))
   ·replace hh := iteO_f h119 hh
    refine TC.skip (B.n (S.n (⟨by repeat (first | exact Agr.refl _ _ | exact Agr.mask | refine Agr.upd z ?_ | refine Agr.maskIn z ?_ | refine Agr.upds z ?_), (l110, ()), ⟨hh, hn111⟩, by repeat (first | exact trivial | refine ⟨z, ?_⟩), Sub.front 1 z z (Sub.pre 1 z), z⟩)))
  ·skip
   obtain ⟨l115, _⟩ := g
   obtain ⟨hh, hn116⟩ := hg
   try dsimp only at hn116
   show TC _ _ _ (upds (mask _ j _) []) _ [Res.rowS 5 1 encU8 (.slice a101 (List.replicate x0.length (0 : UInt8)).length c102) l115]
   dsimp only [part_key_j1] at hh
   have hn116b := hn116
   refine TC.isSl (i := 0) z (fun _ hb122 _ => ?_)
   refine TC.region (TL.v z (OpVal.succ z z z (by omega)) z z (TL.v z (OpVal.moveI (.inl z) z) z z (TL.nil (S.n ?_))))
   obtain ⟨hh, hlt123⟩ := nxt_x hR1 hh
   refine ⟨by repeat (first | exact Agr.refl _ _ | exact Agr.mask | refine Agr.upd z ?_ | refine Agr.maskIn z ?_ | refine Agr.upds z ?_), ((l115, (k112 + 1)), ()), hlt123, ⟨hh, hn116⟩, by repeat (first | exact trivial | refine ⟨z, ?_⟩), Sub.pre 1 z, z⟩
 ·replace hh := iteO_f h114 hh
  replace h114 := of_decide_eq_false h114
  refine TC.exit (S.x (S.x ?_))
  replace hh := fin_x hR1 hh
  refine TC.exitHere (S.n (TC.seq (TC.region (TL.v z (OpVal.moveSl (.inl z) z) z z (TL.isSl (i := 0) z (fun hs124 _ _ => ?_))))))
  refine TL.v z (OpVal.bytesStr (l := l110) z Tryd.underlying48 Tryd.underlying5 Tryd.underlying9 z hs124 (fun w hw => rdb_row (q := 0) z hw)) z z (TL.v z (OpVal.moveStr (.inr z) z) z z (TL.nil (S.n (TC.ofSub (Sub.pre 0 z) (TC.ret ?_)))))
  obtain rfl := Option.some.inj hh
  exact RetOk.mk' (rs := [.tmp 4]) [] z (.inl z) (RVs.tmp z RVs.nil) (List.sublist_append_left _ _) ⟨z, z, z⟩

noncomputable def part_Parts_j1 (k121 : Nat) (m125 : FM (List UInt8) Int) (l126 : List BSet) (i129 : Int) : Option (((FM (List UInt8) Int) × (List BSet) × Nat) ⊕ ((List BSet) × Int)) :=
 grd (0 ≤ i129 ∧ i129 < (l126.length : Int)) (grd ([(toU8 ((k121 : Nat) : Int))].length ≤ 1000000000000) (bnd (set_Any (nth l126 i129.toNat BSet.zero) (BSet.ofL [(toU8 ((k121 : Nat) : Int))])) (fun v52 => grd (0 ≤ i129 ∧ i129 < (l126.length : Int)) (nxt (m125, (l126.set i129.toNat v52), (k121 + 1))))))
noncomputable def part_Parts_b1 (x0 : List BSet) (m116 : FM (List UInt8) Int) (l118 : List BSet) (k121 : Nat) : Option (((FM (List UInt8) Int) × (List BSet) × Nat) ⊕ ((List BSet) × Int)) :=
 iteO (decide (((k121 : Nat) : Int) < 256)) (bnd (part_key x0 (toU8 ((k121 : Nat) : Int))) (fun v18 => iteO (!(m116.has v18)) (grd ((l118.length + [BSet.zero].length) * 32 ≤ 140737488355328) (part_Parts_j1 k121 (m116.put v18 ((l118.length : Nat) : Int)) (l118 ++ [BSet.zero]) ((l118.length : Nat) : Int))) (part_Parts_j1 k121 m116 l118 (m116.get v18 0)))) (fin (some (l118, 0)))
noncomputable def part_Parts (x0 : List BSet) : Option ((List BSet) × Int) :=
 iteO (decide (1024 < ((x0.length : Nat) : Int))) (some (([] : List BSet), 2)) (iter (fun q : (FM (List UInt8) Int) × (List BSet) × Nat => part_Parts_b1 x0 q.1 q.2.1 q.2.2) ((FM.emp : FM (List UInt8) Int), ([] : List BSet), 0))
def part_Parts_P (σ : Store) (r : (List BSet) × Int) : Value → Store → List Res → Prop := fun v σ' H' =>
 ∃ (a1 : Option Addr), ∃ (c1 : Nat),  v = .tuple #[.slice a1 r.1.length c1, .int .i64 r.2] ∧ RS σ' 4 encSet (.slice a1 r.1.length c1) r.1 ∧ H' = []
theorem part_Parts_con {σ : Store} {x0 : List BSet} {a0_0 : Option Addr} {c0_0 : Nat} (f0_0 : RS σ 4 encSet (.slice a0_0 x0.length c0_0) x0) {r : (List BSet) × Int} (hh : part_Parts x0 = some r) :
  Con Tryd.prog 48 #[.slice a0_0 x0.length c0_0] σ [] (part_Parts_P σ r) := by
 dsimp only [part_Parts] at hh
 have f0_0b := f0_0.rv.big
 refine Con.mk (n := 52) Tryd.func48 z z z (fun w0 => ?_)
 refine TC.seq (TC.region (TL.v z (OpVal.moveSl (.inr z) z) z z (TL.v z (OpVal.moveI (.inr z) z) z z (TL.nil (S.n (TC.seq (TC.seq (TC.region (TL.v z (OpVal.moveSl (.inl z) z) z z ?_)))))))))
 refine TL.v z (OpVal.lenC z Tryd.underlying115 z) z z (TL.v z (OpVal.gtr z z z) z z (TL.nil (S.n (TC.cond z (fun h101 => ?_) (fun h101 => ?_)))))
 ·replace hh := iteO_t h101 hh
  replace h101 := of_decide_eq_true h101
  refine TC.seq (TC.region (TL.v z (OpVal.moveSl (.inr z) z) z z (TL.v z (OpVal.moveI (.inr z) z) z z (TL.nil (S.n (TC.ret (S.r ?_)))))))
  obtain rfl := Option.some.inj hh
  exact RetOk.mk' (rs := [.tmp 2, .tmp 3]) [] z (.inl z) (RVs.tmp z (RVs.tmp z RVs.nil)) (List.sublist_append_left _ _) ⟨none, 0, z, (RS.nilF _ encSet encSet_len), z⟩
 ·replace hh := iteO_f h101 hh
  replace h101 := of_decide_eq_false h101
  refine TC.skip (S.n (TC.seq (TC.region (TL.op z (OpOk.makeMapB (enc := keyS) (encV := keyI) z z z (fun b102 => ?_))))))
  refine TL.v z (OpVal.moveMap (.inr z) z) z z (TL.nil (S.n (TC.seq (TC.region (TL.v z (OpVal.moveSl (.inr z) z) z z (TL.nil (S.n (TC.seq (TC.seq ?_)))))))))
  refine TC.region (TL.v z (OpVal.moveI (.inl z) z) z z (TL.nil (S.n (TC.block (TC.nilS 84 4 encSet (TC.loopG (α := ((FM (List UInt8) Int) × (List BSet) × Nat) × ((Option Addr) × Nat)) [5, 6, 7, 8, 9, 14, 15, 16, 17, 18, 19, 20, 21, 22, 23, 24, 25, 26, 27, 28, 29, 30, 31, 32, 33, 34, 35, 36, 37, 38, 39, 40, 41, 42, 43, 44, 45, 46, 47, 48, 49, 50] (fun g => [(5, .slice g.2.1 g.1.2.1.length g.2.2), (14, .int .i64 ((g.1.2.2 : Nat) : Int))]) (fun g => [Res.mapB keyS keyI (some b102) g.1.1, Res.rowS 84 4 encSet (.slice g.2.1 g.1.2.1.length g.2.2) g.1.2.1]) (fun g => σ) (fun g => iter (fun q : (FM (List UInt8) Int) × (List BSet) × Nat => part_Parts_b1 x0 q.1 q.2.1 q.2.2) g.1 = some r) (fun g => rounds (fun q : (FM (List UInt8) Int) × (List BSet) × Nat => part_Parts_b1 x0 q.1 q.2.1 q.2.2) g.1) (((FM.emp : FM (List UInt8) Int), ([] : List BSet), 0), (none, 0)) (Sub.front 1 z z (Sub.pre 2 z)) z (by repeat (first | exact trivial | refine ⟨z, ?_⟩)) hh (fun g1 j1 hg1 => ?_)))))))
  obtain ⟨⟨m116, l118, k121⟩, ⟨a119, c120⟩⟩ := g1
  have hh := hg1; clear hg1
  show TC _ _ _ (upds (mask _ j1 _) [(5, .slice a119 l118.length c120), (14, .int .i64 ((k121 : Nat) : Int))]) _ [Res.mapB keyS keyI (some b102) m116, Res.rowS 84 4 encSet (.slice a119 l118.length c120) l118]
  obtain ⟨z1, hh, hR1⟩ := iter_e hh
  dsimp only [part_Parts_b1] at hh
  refine TC.isSl (i := 1) z (fun _ hb123 _ => ?_)
  refine TC.seq (TC.region (TL.v z (OpVal.lss z z z) z z (TL.nil (S.n (TC.seq (TC.cond z (fun h124 => ?_) (fun h124 => ?_)))))))
  ·replace hh := iteO_t h124 hh
   replace h124 := of_decide_eq_true h124
   refine TC.skip (S.n (TC.seq (TC.block (TC.seq (TC.region (TL.v z (OpVal.moveI (.inl z) z) z z (TL.v z (OpVal.moveI (.inr z) z) z z (TL.nil (S.n ?_)))))))))
   refine TC.seq (TC.region (TL.v z (OpVal.moveSl (.inl z) z) z z (TL.v z (OpVal.moveI (.inl z) z) z z (TL.v z (OpVal.convU8 z Tryd.underlying3 Tryd.underlying5 z) z z ?_))))
   obtain ⟨v18, u18, hh⟩ := bnd_e hh
   refine TL.op z (OpOk.callP (part_key_con f0_0 u18) z z pf63 z z z ?_)
   refine TL.v z (OpVal.moveStr (.inr z) z) z z (TL.nil (S.n (TC.seq (TC.region (TL.v z (OpVal.moveMap (.inl z) z) z z (TL.v z (OpVal.moveStr (.inl z) z) z z (TL.v z (OpVal.of (OpVal.lookB 0 (q := v18) z Tryd.underlying136 ze3 z (i := 0) z z (keyL_str Tryd.underlying9)) (v' := .tuple #[.int .i64 (m116.get v18 0), .bool (m116.has v18)]) z) z z (TL.v z (OpVal.moveT (.inl z) z) z z (TL.v z (OpVal.extract z z z) z z ?_)))))))))
   refine TL.v z (OpVal.extract z z z) z z (TL.v z (OpVal.moveI (.inr z) z) z z (TL.v z (OpVal.moveB (.inr z) z) z z (TL.nil (S.n (TC.cutG (α := ((FM (List UInt8) Int) × (List BSet) × Int) × ((Option Addr) × Nat)) [5, 8, 27, 28, 29, 30, 31, 32, 33, 34, 35, 36, 37] (fun g => [(5, .slice g.2.1 g.1.2.1.length g.2.2), (8, .int .i64 g.1.2.2)]) (fun g => [Res.mapB keyS keyI (some b102) g.1.1, Res.rowS 84 4 encSet (.slice g.2.1 g.1.2.1.length g.2.2) g.1.2.1]) (fun g => σ) (fun g => part_Parts_j1 k121 g.1.1 g.1.2.1 g.1.2.2 = some z1) ?_ (fun g j hg => ?_))))))
   ·skip
    refine TC.seq (TC.region (TL.v z (OpVal.moveB (.inl z) z) z z (TL.v z (OpVal.not z z) z z (TL.nil (S.n (TC.cond z (fun h130 => ?_) (fun h130 => ?_)))))))
    ·replace hh := iteO_t h130 hh
     refine TC.seq (TC.region (TL.v z (OpVal.moveSl (.inl z) z) z z (TL.v z (OpVal.lenC z Tryd.underlying115 z) z z (TL.v z (OpVal.moveI (.inr z) z) z z (TL.nil (S.n (TC.seq (TC.region (TL.v z (OpVal.moveMap (.inl z) z) z z ?_)))))))))
     refine TL.v z (OpVal.moveStr (.inl z) z) z z (TL.v z (OpVal.moveI (.inl z) z) z z (TL.op z (OpOk.updB v18 ((l118.length : Nat) : Int) z Tryd.underlying136 z z z z (keyL_str Tryd.underlying9) ?_)))
     refine TL.nil (S.n (TC.region (TL.v z (OpVal.moveSl (.inl z) z) z z (TL.v z (OpVal.buildArrL z Tryd.underlying84 sz82 ze84 z) z z (TL.op z (OpOk.lit (enc := encSet) [BSet.zero] z Tryd.underlying115 sz84 ze84 z z z encSet_len (by decide) (by decide) BSet.zero z (by decide) z (by decide) encSet_one (fun a131 c132 => ?_)))))))
     refine TL.front 2 z z ?_
     have u40 := grd_c hh
     replace hh := grd_t hh
     refine TL.op z (OpOk.appendS z z Tryd.underlying115 sz84 by84 ze84 z z (by decide) z z z (.inr ⟨_, 0, z⟩) (by simpa using u40) (by decide) (fun a134 c135 => ?_))
     refine TL.v z (OpVal.moveSl (.inr z) z) z z (TL.nil (S.n (⟨by repeat (first | exact Agr.refl _ _ | exact Agr.mask | refine Agr.upd z ?_ | refine Agr.maskIn z ?_ | refine Agr.upds z ?_), (((m116.put v18 ((l118.length : Nat) : Int)), (l118 ++ [BSet.zero]), ((l118.length : Nat) : Int)), (a134, c135)), hh, by repeat (first | exact trivial | refine ⟨z, ?_⟩), Sub.front 2 z z (Sub.pre 2 z), z⟩)))
    ·replace hh := iteO_f h130 hh
     refine TC.skip (S.n (⟨by repeat (first | exact Agr.refl _ _ | exact Agr.mask | refine Agr.upd z ?_ | refine Agr.maskIn z ?_ | refine Agr.upds z ?_), ((m116, l118, (m116.get v18 0)), (a119, c120)), hh, by repeat (first | exact trivial | refine ⟨z, ?_⟩), Sub.front 1 z z (Sub.front 1 z z (Sub.pre 2 z)), z⟩))
   ·skip
    obtain ⟨⟨m125, l126, i129⟩, ⟨a127, c128⟩⟩ := g
    have hh := hg; clear hg
    show TC _ _ _ (upds (mask _ j _) [(5, .slice a127 l126.length c128), (8, .int .i64 i129)]) _ [Res.mapB keyS keyI (some b102) m125, Res.rowS 84 4 encSet (.slice a127 l126.length c128) l126]
    dsimp only [part_Parts_j1] at hh
    refine TC.isSl (i := 1) z (fun _ hb136 _ => ?_)
    have u46 := grd_c hh
    replace hh := grd_t hh
    have u51 := grd_c hh
    replace hh := grd_t hh
    obtain ⟨v52, u52, hh⟩ := bnd_e hh
    have u53 := grd_c hh
    replace hh := grd_t hh
    refine TC.draw [12] (by kernel_rfl) (TA.takeP 0 z (by kernel_rfl) (by kernel_rfl) (by kernel_rfl) z (OpVal.moveSl (.inl z) z) z z (TA.takeP 1 z (by kernel_rfl) (by kernel_rfl) (by kernel_rfl) z (OpVal.moveI (.inl z) z) z z (TA.takeP 2 z (by kernel_rfl) (by kernel_rfl) (by kernel_rfl) z (OpVal.moveSl (.inl z) z) z z (TA.takeP 3 z (by kernel_rfl) (by kernel_rfl) (by kernel_rfl) z (OpVal.moveI (.inl z) z) z z (TA.isSl (i := 1) z (fun hs143 _ _ => ?_))))))
    refine TA.take 4 z (by kernel_rfl) (by kernel_rfl) (by kernel_rfl) (by kernel_rfl) z (OpVal.index z Tryd.underlying115 sz84 z z hs143 u46.1 u46.2) z z (TA.take 5 z (by kernel_rfl) (by kernel_rfl) (by kernel_rfl) (by kernel_rfl) z (OpVal.loadOA BSet.zero z ag84 sz84 z (q := 1) z encSet_len (by omega) (by omega)) z z (TA.takeP 6 z (by kernel_rfl) (by kernel_rfl) (by kernel_rfl) z (OpVal.moveI (.inl z) z) z z (TA.takeP 7 z (by kernel_rfl) (by kernel_rfl) (by kernel_rfl) z (OpVal.convU8 z Tryd.underlying3 Tryd.underlying5 z) z z (TA.act 8 (by kernel_rfl) z z (OpOk.lit (enc := encU8) [(toU8 ((k121 : Nat) : Int))] z Tryd.underlying48 sz5 ze5 z z z encU8_len (by decide) (by decide) (0 : UInt8) z (by decide) z (by decide) encU8_one (fun a144 c145 => ⟨(fun w h => sees_of (Store.le.refl _) (fun r hr => (List.mem_cons_of_mem _ hr)) w h), ?_⟩))))))
    refine TA.act 9 (by kernel_rfl) z z (OpOk.callT (of_con _ _ _ [(toU8 ((k121 : Nat) : Int))] u51) z z pf32 z z z z ⟨(fun w h => sees_of (Store.le.refl _) (fun r hr => hr) w h), ?_⟩)
    refine TA.act 10 (by kernel_rfl) z z (OpOk.callP (set_Any_con u52) z z pf64 z z z ⟨(fun w h => sees_of (Store.le.refl _) (fun r hr => hr) w h), ?_⟩)
    refine TA.isSl (i := 1) z (fun hs147 _ _ => ?_)
    refine TA.take 11 z (by kernel_rfl) (by kernel_rfl) (by kernel_rfl) (by kernel_rfl) z (OpVal.index z Tryd.underlying115 sz84 z z hs147 u53.1 u53.2) z z (TA.front 1 z z ?_)
    have hn148 : (l126.set i129.toNat v52).length = l126.length := by rw [List.length_set]
    refine TA.last 12 (by kernel_rfl) z z z (OpOk.storeS v52 z sz84 z z z z encSet_len encSet_one (by omega) (by omega) ?_)
    refine TZ.done (by kernel_rfl) (B.n (S.n (TC.region (TL.v z (OpVal.succ z z z (by omega)) z z (TL.v z (OpVal.moveI (.inl z) z) z z ?_)))))
    rw [← hn148]
    refine TL.nil (S.n ?_)
    obtain ⟨hh, hlt149⟩ := nxt_x hR1 hh
    refine ⟨by repeat (first | exact Agr.refl _ _ | exact Agr.mask | refine Agr.upd z ?_ | refine Agr.maskIn z ?_ | refine Agr.upds z ?_), ((m125, (l126.set i129.toNat v52), (k121 + 1)), (a127, c128)), hlt149, hh, by repeat (first | exact trivial | refine ⟨z, ?_⟩), Sub.front 1 z z (Sub.pre 2 z), z⟩
  ·replace hh := iteO_f h124 hh
   replace h124 := of_decide_eq_false h124
   refine TC.exit (S.x (S.x ?_))
   replace hh := fin_x hR1 hh
   refine TC.exitHere (S.n (TC.seq (TC.region (TL.v z (OpVal.moveSl (.inl z) z) z z (TL.v z (OpVal.moveSl (.inr z) z) z z (TL.v z (OpVal.moveI (.inr z) z) z z (TL.nil (S.n (TC.front 1 z z ?_)))))))))
   refine TC.sealS encSet_len (fun τ152 hle151 hr150 => ?_)
   replace f0_0 := f0_0.mono hle151
   have hr150b := hr150.rv.big
   refine TC.ofSub (Sub.pre 0 z) (TC.ret ?_)
   obtain rfl := Option.some.inj hh
   exact RetOk.mk' (rs := [.tmp 2, .tmp 3]) [] z (.inl z) (RVs.tmp z (RVs.tmp z RVs.nil)) (List.sublist_append_left _ _) ⟨a119, c120, z, hr150, z⟩

noncomputable def part_Class_j1 (k146 : Nat) (l149 : List Int) : Option (((List Int) × Nat) ⊕ (((List Int) × Int × Nat) ⊕ ((List Int) × Int))) :=
 nxt (l149, (k146 + 1))
noncomputable def part_Class_b3 (x0 : List BSet) (k130 : Nat) (v29 : UInt8 × Bool) (l144 : List Int) (k146 : Nat) : Option (((List Int) × Nat) ⊕ (((List Int) × Int × Nat) ⊕ ((List Int) × Int))) :=
 iteO (decide (((k146 : Nat) : Int) < 256)) (iteO (!((nth x0 k130 BSet.zero).has (toU8 ((k146 : Nat) : Int)).toNat)) (part_Class_j1 k146 l144) (grd (k146 < l144.length) (iteO (decide (0 ≤ (nth l144 k146 (0 : Int)))) (fin (fin (some (([] : List Int), 1)))) (grd (k146 < l144.length) (part_Class_j1 k146 (l144.set k146 ((k130 : Nat) : Int))))))) (fin (nxt (l144, ((v29.1.toNat : Nat) : Int), (k130 + 1))))
noncomputable def part_Class_b4 (l127 : List Int) (k165 : Nat) : Option ((Nat) ⊕ ((List Int) × Int)) :=
 iteO (decide (((k165 : Nat) : Int) < (((List.replicate 256 (0 : Int)).length : Nat) : Int))) (grd (k165 < l127.length) (iteO (decide ((nth l127 k165 (0 : Int)) < 0)) (fin (some (([] : List Int), 1))) (nxt (k165 + 1)))) (fin (some (l127, 0)))
noncomputable def part_Class_b2 (x0 : List BSet) (l127 : List Int) (i129 : Int) (k130 : Nat) : Option (((List Int) × Int × Nat) ⊕ ((List Int) × Int)) :=
 iteO (decide (((k130 : Nat) : Int) < ((x0.length : Nat) : Int))) (bnd (set_First (nth x0 k130 BSet.zero)) (fun v29 => iteO (!v29.2) (fin (some (([] : List Int), 1))) (iteO (decide (((v29.1.toNat : Nat) : Int) ≤ i129)) (fin (some (([] : List Int), 1))) (iter (fun q : (List Int) × Nat => part_Class_b3 x0 k130 v29 q.1 q.2) (l127, 0))))) (fin (iter (fun q : Nat => part_Class_b4 l127 q) 0))
noncomputable def part_Class_b1 (x0 : List BSet) (l110 : List Int) (k112 : Nat) : Option (((List Int) × Nat) ⊕ ((List Int) × Int)) :=
 iteO (decide (((k112 : Nat) : Int) < (((List.replicate 256 (0 : Int)).length : Nat) : Int))) (grd (k112 < l110.length) (nxt ((l110.set k112 (-1)), (k112 + 1)))) (fin (iter (fun q : (List Int) × Int × Nat => part_Class_b2 x0 q.1 q.2.1 q.2.2) (l110, (-1), 0)))
noncomputable def part_Class (x0 : List BSet) : Option ((List Int) × Int) :=
 iter (fun q : (List Int) × Nat => part_Class_b1 x0 q.1 q.2) ((List.replicate 256 (0 : Int)), 0)
def part_Class_P (σ : Store) (r : (List Int) × Int) : Value → Store → List Res → Prop := fun v σ' H' =>
 ∃ (a1 : Option Addr), ∃ (c1 : Nat),  v = .tuple #[.slice a1 r.1.length c1, .int .i64 r.2] ∧ RS σ' 1 Go.E.encI (.slice a1 r.1.length c1) r.1 ∧ H' = []
theorem part_Class_con {σ : Store} {x0 : List BSet} {a0_0 : Option Addr} {c0_0 : Nat} (hgl : GT σ 0 encU8 deB) (f0_0 : RS σ 4 encSet (.slice a0_0 x0.length c0_0) x0) {r : (List Int) × Int} (hh : part_Class x0 = some r) :
  Con Tryd.prog 50 #[.slice a0_0 x0.length c0_0] σ [] (part_Class_P σ r) := by
 dsimp only [part_Class] at hh
 have f0_0b := f0_0.rv.big
 refine Con.mk (n := 75) Tryd.func50 z z z (fun w0 => ?_)
 refine TC.seq (TC.region (TL.v z (OpVal.moveSl (.inr z) z) z z (TL.v z (OpVal.moveI (.inr z) z) z z (TL.nil (S.n (TC.seq (TC.region (TL.op z (OpOk.makeS2 (m := 256) (enc := Go.E.encI) (0 : Int) z Tryd.underlying22 sz3 by3 ze3 z z z z (by omega) (by decide) Go.E.encI_len (by decide) z Go.E.encI_one (fun a101 c102 => ?_))))))))))
 refine TL.v z (OpVal.moveSl (.inr z) z) z z (TL.nil (S.n (TC.seq (TC.seq (TC.region (TL.v z (OpVal.moveSl (.inl z) z) z z (TL.v z (OpVal.lenC z Tryd.underlying22 z) z z (TL.v z (OpVal.moveI (.inl z) z) z z (TL.nil ?_)))))))))
 refine S.n (TC.block (TC.loopG (α := ((List Int) × Nat) × (Unit)) [5, 17, 18, 19, 20, 21, 22, 23] (fun g => [(17, .int .i64 ((g.1.2 : Nat) : Int))]) (fun g => [Res.rowS 3 1 Go.E.encI (.slice a101 (List.replicate 256 (0 : Int)).length c102) g.1.1]) (fun g => σ) (fun g => iter (fun q : (List Int) × Nat => part_Class_b1 x0 q.1 q.2) g.1 = some r ∧ g.1.1.length = (List.replicate 256 (0 : Int)).length) (fun g => rounds (fun q : (List Int) × Nat => part_Class_b1 x0 q.1 q.2) g.1) (((List.replicate 256 (0 : Int)), 0), ()) (Sub.pre 1 z) z (by repeat (first | exact trivial | refine ⟨z, ?_⟩)) ⟨hh, z⟩ (fun g1 j1 hg1 => ?_)))
 obtain ⟨⟨l110, k112⟩, _⟩ := g1
 obtain ⟨hh, hn111⟩ := hg1
 try dsimp only at hn111
 show TC _ _ _ (upds (mask _ j1 _) [(17, .int .i64 ((k112 : Nat) : Int))]) _ [Res.rowS 3 1 Go.E.encI (.slice a101 (List.replicate 256 (0 : Int)).length c102) l110]
 obtain ⟨z1, hh, hR1⟩ := iter_e hh
 dsimp only [part_Class_b1] at hh
 have hn111b := hn111
 refine TC.isSl (i := 0) z (fun _ hb113 _ => ?_)
 refine TC.seq (TC.region (TL.v z (OpVal.lss z z z) z z (TL.nil (S.n (TC.seq (TC.cond z (fun h114 => ?_) (fun h114 => ?_)))))))
 ·replace hh := iteO_t h114 hh
  replace h114 := of_decide_eq_true h114
  refine TC.skip (S.n (TC.seq (TC.block (TC.seq (TC.region (TL.v z (OpVal.moveI (.inl z) z) z z (TL.v z (OpVal.moveI (.inr z) z) z z (TL.nil (S.n ?_)))))))))
  refine TC.region (TL.v z (OpVal.moveSl (.inl z) z) z z (TL.v z (OpVal.moveI (.inl z) z) z z ?_))
  have u13 := grd_c hh
  replace hh := grd_t hh
  refine TL.isSl (i := 0) z (fun hs115 _ _ => ?_)
  refine TL.v z (OpVal.indexN z Tryd.underlying22 sz3 z z hs115 (by omega)) z z ?_
  have hn116 : (l110.set k112 (-1)).length = (List.replicate 256 (0 : Int)).length := by rw [List.length_set]; exact hn111
  refine TL.op z (OpOk.storeS (-1) z sz3 z z z z Go.E.encI_len Go.E.encI_one (by omega) (by omega) ?_)
  refine TL.nil (B.n (S.n (TC.region (TL.v z (OpVal.succ z z z (by omega)) z z (TL.v z (OpVal.moveI (.inl z) z) z z (TL.nil (S.n ?_)))))))
  obtain ⟨hh, hlt117⟩ := nxt_x hR1 hh
  refine ⟨by repeat (first | exact Agr.refl _ _ | exact Agr.mask | refine Agr.upd z ?_ | refine Agr.maskIn z ?_ | refine Agr.upds z ?_), (((l110.set k112 (-1)), (k112 + 1)), ()), hlt117, ⟨hh, hn116⟩, by repeat (first | exact trivial | refine ⟨z, ?_⟩), Sub.pre 1 z, z⟩
 ·replace hh := iteO_f h114 hh
  replace h114 := of_decide_eq_false h114
  refine TC.exit (S.x (S.x ?_))
  replace hh := fin_x hR1 hh
  refine TC.exitHere (S.n (TC.seq (TC.region (TL.v z (OpVal.moveI (.inr z) z) z z (TL.nil (S.n (TC.seq (TC.seq (TC.region ?_)))))))))
  refine TL.v z (OpVal.moveSl (.inl z) z) z z (TL.v z (OpVal.lenC z Tryd.underlying115 z) z z (TL.v z (OpVal.moveI (.inl z) z) z z (TL.nil (S.n (TC.block (TC.loopG (α := ((List Int) × Int × Nat) × (Unit)) [2, 3, 6, 7, 8, 9, 10, 11, 26, 27, 28, 29, 30, 31, 32, 33, 34, 35, 36, 37, 38, 39, 40, 41, 42, 43, 44, 45, 46, 47, 48, 49, 50, 51, 52, 53, 54, 55, 56, 57, 58, 59, 60, 61, 62, 63, 64] (fun g => [(6, .int .i64 g.1.2.1), (26, .int .i64 ((g.1.2.2 : Nat) : Int))]) (fun g => [Res.rowS 3 1 Go.E.encI (.slice a101 (List.replicate 256 (0 : Int)).length c102) g.1.1]) (fun g => σ) (fun g => iter (fun q : (List Int) × Int × Nat => part_Class_b2 x0 q.1 q.2.1 q.2.2) g.1 = some r ∧ g.1.1.length = (List.replicate 256 (0 : Int)).length) (fun g => rounds (fun q : (List Int) × Int × Nat => part_Class_b2 x0 q.1 q.2.1 q.2.2) g.1) ((l110, (-1), 0), ()) (Sub.pre 1 z) z (by repeat (first | exact trivial | refine ⟨z, ?_⟩)) ⟨hh, hn111⟩ (fun g2 j2 hg2 => ?_)))))))
  obtain ⟨⟨l127, i129, k130⟩, _⟩ := g2
  obtain ⟨hh, hn128⟩ := hg2
  try dsimp only at hn128
  show TC _ _ _ (upds (mask _ j2 _) [(6, .int .i64 i129), (26, .int .i64 ((k130 : Nat) : Int))]) _ [Res.rowS 3 1 Go.E.encI (.slice a101 (List.replicate 256 (0 : Int)).length c102) l127]
  obtain ⟨z1, hh, hR1⟩ := iter_e hh
  dsimp only [part_Class_b2] at hh
  have hn128b := hn128
  refine TC.isSl (i := 0) z (fun _ hb131 _ => ?_)
  refine TC.seq (TC.region (TL.v z (OpVal.lss z z z) z z (TL.nil (S.n (TC.seq (TC.cond z (fun h132 => ?_) (fun h132 => ?_)))))))
  ·replace hh := iteO_t h132 hh
   replace h132 := of_decide_eq_true h132
   refine TC.skip (S.n (TC.seq (TC.block (TC.seq (TC.region (TL.v z (OpVal.moveI (.inl z) z) z z (TL.v z (OpVal.indexN z Tryd.underlying115 sz84 z z f0_0.rv.sl (by omega)) z z (TL.v z (OpVal.loadSA BSet.zero z ag84 sz84 z f0_0 (by omega) (by omega)) z z (TL.op z (OpOk.alloc z ze84 z z (fun b133 => ?_)))))))))))
   refine TL.v z (OpVal.moveI (.inr z) z) z z (TL.op z (OpOk.storeAll z sz84 z z z z z z ?_))
   refine TL.nil (S.n (TC.seq (TC.region (TL.v z (OpVal.loadAll z ag84 sz84 z (i := 0) z z) z z ?_))))
   obtain ⟨v29, u29, hh⟩ := bnd_e hh
   refine TL.op z (OpOk.callP (set_First_con hgl u29) z z pf65 z z z ?_)
   refine TL.v z (OpVal.moveT (.inl z) z) z z (TL.v z (OpVal.extract z z z) z z (TL.v z (OpVal.extract z z z) z z (TL.v z (OpVal.moveI (.inr z) z) z z (TL.v z (OpVal.moveB (.inr z) z) z z (TL.nil (S.n (TC.seq (TC.seq (TC.region ?_)))))))))
   refine TL.v z (OpVal.moveB (.inl z) z) z z (TL.v z (OpVal.not z z) z z (TL.v z (OpVal.moveB (.inl z) z) z z (TL.split 38 z (fun h135 => ?_) (fun h135 => ?_))))
   ·replace hh := iteO_t h135 hh
    refine TL.goff z z z z z z z z (TL.goff z z z z z z z z (TL.goff z z z z z z z z (TL.goff z z z z z z z z (TL.v z (OpVal.pickTB z z z) z z (TL.nil (S.n (TC.cond z (fun _ => ?_) (fun h => Bool.noConfusion h))))))))
    refine TC.seq (TC.region (TL.v z (OpVal.moveSl (.inr z) z) z z (TL.v z (OpVal.moveI (.inr z) z) z z (TL.nil (S.n (TC.ofSub (Sub.pre 0 z) (TC.ret (S.r (B.r ?_)))))))))
    refine S.r (S.r ?_)
    replace hh := fin_x hR1 hh
    refine B.r (S.r ?_)
    obtain rfl := Option.some.inj hh
    exact RetOk.mk' (rs := [.tmp 2, .tmp 3]) [] z (.inl z) (RVs.tmp z (RVs.tmp z RVs.nil)) (List.sublist_append_left _ _) ⟨none, 0, z, (RS.nilF _ Go.E.encI Go.E.encI_len), z⟩
   ·replace hh := iteO_f h135 hh
    refine TL.gv z z z z z (OpVal.moveI (.inl z) z) z z (TL.gv z z z z z (OpVal.convN z Tryd.underlying5 Tryd.underlying3 z (by have := UInt8.toNat_lt v29.1; simp only [kmax]; omega)) z z (TL.gv z z z z z (OpVal.moveI (.inl z) z) z z (TL.gv z z z z z (OpVal.leq z z z) z z (TL.v z (OpVal.pickFB z z z) z z (TL.nil (S.n (TC.cond z (fun h136 => ?_) (fun h136 => ?_))))))))
    ·replace hh := iteO_t h136 hh
     replace h136 := of_decide_eq_true h136
     refine TC.seq (TC.region (TL.v z (OpVal.moveSl (.inr z) z) z z (TL.v z (OpVal.moveI (.inr z) z) z z (TL.nil (S.n (TC.ofSub (Sub.pre 0 z) (TC.ret (S.r (B.r ?_)))))))))
     refine S.r (S.r ?_)
     replace hh := fin_x hR1 hh
     refine B.r (S.r ?_)
     obtain rfl := Option.some.inj hh
     exact RetOk.mk' (rs := [.tmp 2, .tmp 3]) [] z (.inl z) (RVs.tmp z (RVs.tmp z RVs.nil)) (List.sublist_append_left _ _) ⟨none, 0, z, (RS.nilF _ Go.E.encI Go.E.encI_len), z⟩
    ·replace hh := iteO_f h136 hh
     replace h136 := of_decide_eq_false h136
     refine TC.skip (S.n (TC.seq (TC.region (TL.v z (OpVal.moveI (.inl z) z) z z (TL.v z (OpVal.convN z Tryd.underlying5 Tryd.underlying3 z (by have := UInt8.toNat_lt v29.1; simp only [kmax]; omega)) z z (TL.v z (OpVal.moveI (.inr z) z) z z (TL.nil (S.n (TC.seq ?_)))))))))
     refine TC.region (TL.v z (OpVal.moveI (.inl z) z) z z (TL.nil (S.n (TC.block (TC.loopG (α := ((List Int) × Nat) × (Unit)) [2, 3, 11, 46, 47, 48, 49, 50, 51, 52, 53, 54, 55, 56, 57, 58, 59, 60, 61, 62, 63] (fun g => [(46, .int .i64 ((g.1.2 : Nat) : Int))]) (fun g => [Res.rowS 3 1 Go.E.encI (.slice a101 (List.replicate 256 (0 : Int)).length c102) g.1.1, Res.cells b133 (setA (nth x0 k130 BSet.zero)) 84]) (fun g => σ) (fun g => iter (fun q : (List Int) × Nat => part_Class_b3 x0 k130 v29 q.1 q.2) g.1 = some z1 ∧ g.1.1.length = (List.replicate 256 (0 : Int)).length) (fun g => rounds (fun q : (List Int) × Nat => part_Class_b3 x0 k130 v29 q.1 q.2) g.1) ((l127, 0), ()) (Sub.front 1 z z (Sub.pre 2 z)) z (by repeat (first | exact trivial | refine ⟨z, ?_⟩)) ⟨hh, hn128⟩ (fun g3 j3 hg3 => ?_))))))
     obtain ⟨⟨l144, k146⟩, _⟩ := g3
     obtain ⟨hh, hn145⟩ := hg3
     try dsimp only at hn145
     show TC _ _ _ (upds (mask _ j3 _) [(46, .int .i64 ((k146 : Nat) : Int))]) _ [Res.rowS 3 1 Go.E.encI (.slice a101 (List.replicate 256 (0 : Int)).length c102) l144, Res.cells b133 (setA (nth x0 k130 BSet.zero)) 84]
     obtain ⟨z2, hh, hR2⟩ := iter_e hh
     dsimp only [part_Class_b3] at hh
     have hn145b := hn145
     refine TC.isSl (i := 0) z (fun _ hb147 _ => ?_)
     refine TC.seq (TC.region (TL.v z (OpVal.lss z z z) z z (TL.nil (S.n (TC.seq (TC.cond z (fun h148 => ?_) (fun h148 => ?_)))))))
     ·replace hh := iteO_t h148 hh
      replace h148 := of_decide_eq_true h148
      refine TC.skip (S.n (TC.cutG (α := ((List Int)) × (Unit)) [2, 3, 11, 48, 49, 50, 51, 52, 53, 54, 55, 56, 57, 58, 59, 60, 61, 62] (fun g => []) (fun g => [Res.rowS 3 1 Go.E.encI (.slice a101 (List.replicate 256 (0 : Int)).length c102) g.1, Res.cells b133 (setA (nth x0 k130 BSet.zero)) 84]) (fun g => σ) (fun g => part_Class_j1 k146 g.1 = some z2 ∧ g.1.length = (List.replicate 256 (0 : Int)).length) ?_ (fun g j hg => ?_)))
      ·skip
       refine TC.block (TC.seq (TC.region (TL.v z (OpVal.moveI (.inl z) z) z z (TL.v z (OpVal.moveI (.inr z) z) z z (TL.nil (S.n (TC.seq (TC.seq (TC.region ?_)))))))))
       refine TL.v z (OpVal.loadAll z ag84 sz84 z (i := 1) z z) z z (TL.v z (OpVal.moveI (.inl z) z) z z (TL.v z (OpVal.convU8 z Tryd.underlying3 Tryd.underlying5 z) z z (TL.op z (OpOk.callP (has_con _ (nth x0 k130 BSet.zero) (toU8 ((k146 : Nat) : Int)).toNat (BSet.isOk _) (UInt8.toNat_lt _)) z z pf66 z z z ?_))))
       refine TL.v z (OpVal.not z z) z z (TL.nil (S.n (TC.cond z (fun h151 => ?_) (fun h151 => ?_))))
       ·replace hh := iteO_t h151 hh
        refine TC.exit (S.x (TC.exitHere (S.n (⟨by repeat (first | exact Agr.refl _ _ | exact Agr.mask | refine Agr.upd z ?_ | refine Agr.maskIn z ?_ | refine Agr.upds z ?_), (l144, ()), ⟨hh, hn145⟩, by repeat (first | exact trivial | refine ⟨z, ?_⟩), Sub.front 1 z z (Sub.front 1 z z (Sub.pre 2 z)), z⟩))))
       ·replace hh := iteO_f h151 hh
        refine TC.skip (S.n (TC.seq (TC.seq (TC.region (TL.v z (OpVal.moveSl (.inl z) z) z z (TL.v z (OpVal.moveI (.inl z) z) z z ?_))))))
        have u59 := grd_c hh
        replace hh := grd_t hh
        refine TL.isSl (i := 0) z (fun hs152 _ _ => ?_)
        refine TL.v z (OpVal.indexN z Tryd.underlying22 sz3 z z hs152 (by omega)) z z (TL.v z (OpVal.loadO1 (0 : Int) z ag3 z (q := 0) z Go.E.encI_len (by omega) z) z z (TL.v z (OpVal.geq z z z) z z (TL.nil (S.n (TC.cond z (fun h153 => ?_) (fun h153 => ?_))))))
        ·replace hh := iteO_t h153 hh
         replace h153 := of_decide_eq_true h153
         refine TC.seq (TC.region (TL.v z (OpVal.moveSl (.inr z) z) z z (TL.v z (OpVal.moveI (.inr z) z) z z (TL.nil (S.n (TC.ofSub (Sub.pre 0 z) (TC.ret (S.r (B.r ?_)))))))))
         refine S.r (S.r ?_)
         replace hh := fin_x hR2 hh
         refine B.r (B.r (S.r (S.r ?_)))
         replace hh := fin_x hR1 hh
         refine B.r (S.r ?_)
         obtain rfl := Option.some.inj hh
         exact RetOk.mk' (rs := [.tmp 2, .tmp 3]) [] z (.inl z) (RVs.tmp z (RVs.tmp z RVs.nil)) (List.sublist_append_left _ _) ⟨none, 0, z, (RS.nilF _ Go.E.encI Go.E.encI_len), z⟩
        ·replace hh := iteO_f h153 hh
         replace h153 := of_decide_eq_false h153
         refine TC.skip (S.n (TC.region (TL.v z (OpVal.moveSl (.inl z) z) z z (TL.v z (OpVal.moveI (.inl z) z) z z (TL.v z (OpVal.moveI (.inl z) z) z z ?_)))))
         have u67 := grd_c hh
         replace hh := grd_t hh
         refine TL.isSl (i := 0) z (fun hs154 _ _ => ?_)
         refine TL.v z (OpVal.indexN z Tryd.underlying22 sz3 z z hs154 (by omega)) z z ?_
         have hn155 : (l144.set k146 ((k130 : Nat) : Int)).length = (List.replicate 256 (0 : Int)).length := by rw [List.length_set]; exact hn145
         refine TL.op z (OpOk.storeS ((k130 : Nat) : Int) z sz3 z z z z Go.E.encI_len Go.E.encI_one (by omega) (by omega) ?_)
         refine TL.nil (B.n (S.n (⟨by repeat (first | exact Agr.refl _ _ | exact Agr.mask | refine Agr.upd z ?_ | refine Agr.maskIn z ?_ | refine Agr.upds z ?_), ((l144.set k146 ((k130 : Nat) : Int)), ()), ⟨hh, hn155⟩, by repeat (first | exact trivial | refine ⟨z, ?_⟩), Sub.front 1 z z (Sub.front 1 z z (Sub.pre 2 z)), z⟩)))
      ·skip
       obtain ⟨l149, _⟩ := g
       obtain ⟨hh, hn150⟩ := hg
       try dsimp only at hn150
       show TC _ _ _ (upds (mask _ j _) []) _ [Res.rowS 3 1 Go.E.encI (.slice a101 (List.replicate 256 (0 : Int)).length c102) l149, Res.cells b133 (setA (nth x0 k130 BSet.zero)) 84]
       dsimp only [part_Class_j1] at hh
       have hn150b := hn150
       refine TC.isSl (i := 0) z (fun _ hb156 _ => ?_)
       refine TC.region (TL.v z (OpVal.succ z z z (by omega)) z z (TL.v z (OpVal.moveI (.inl z) z) z z (TL.nil (S.n ?_))))
       obtain ⟨hh, hlt157⟩ := nxt_x hR2 hh
       refine ⟨by repeat (first | exact Agr.refl _ _ | exact Agr.mask | refine Agr.upd z ?_ | refine Agr.maskIn z ?_ | refine Agr.upds z ?_), ((l149, (k146 + 1)), ()), hlt157, ⟨hh, hn150⟩, by repeat (first | exact trivial | refine ⟨z, ?_⟩), Sub.front 1 z z (Sub.front 1 z z (Sub.pre 2 z)), z⟩
     ·replace hh := iteO_f h148 hh
      replace h148 := of_decide_eq_false h148
      refine TC.exit (S.x (S.x ?_))
      replace hh := fin_x hR2 hh
      refine TC.exitHere (B.n (S.n (TC.region (TL.v z (OpVal.succ z z z (by omega)) z z (TL.v z (OpVal.moveI (.inl z) z) z z (TL.nil (S.n ?_)))))))
      obtain ⟨hh, hlt158⟩ := nxt_x hR1 hh
      refine ⟨by repeat (first | exact Agr.refl _ _ | exact Agr.mask | refine Agr.upd z ?_ | refine Agr.maskIn z ?_ | refine Agr.upds z ?_), ((l144, ((v29.1.toNat : Nat) : Int), (k130 + 1)), ()), hlt158, ⟨hh, hn145⟩, by repeat (first | exact trivial | refine ⟨z, ?_⟩), Sub.pre 1 z, z⟩
  ·replace hh := iteO_f h132 hh
   replace h132 := of_decide_eq_false h132
   refine TC.exit (S.x (S.x ?_))
   replace hh := fin_x hR1 hh
   refine TC.exitHere (S.n (TC.seq (TC.seq (TC.region (TL.v z (OpVal.moveSl (.inl z) z) z z (TL.v z (OpVal.lenC z Tryd.underlying22 z) z z (TL.v z (OpVal.moveI (.inl z) z) z z (TL.nil (S.n ?_)))))))))
   refine TC.block (TC.loopG (α := (Nat) × (Unit)) [2, 3, 13, 67, 68, 69, 70, 71, 72, 73] (fun g => [(67, .int .i64 ((g.1 : Nat) : Int))]) (fun g => [Res.rowS 3 1 Go.E.encI (.slice a101 (List.replicate 256 (0 : Int)).length c102) l127]) (fun g => σ) (fun g => iter (fun q : Nat => part_Class_b4 l127 q) g.1 = some r ∧ l127.length = (List.replicate 256 (0 : Int)).length) (fun g => rounds (fun q : Nat => part_Class_b4 l127 q) g.1) (0, ()) (Sub.pre 1 z) z (by repeat (first | exact trivial | refine ⟨z, ?_⟩)) ⟨hh, hn128⟩ (fun g4 j4 hg4 => ?_))
   obtain ⟨k165, _⟩ := g4
   obtain ⟨hh, hn164⟩ := hg4
   try dsimp only at hn164
   show TC _ _ _ (upds (mask _ j4 _) [(67, .int .i64 ((k165 : Nat) : Int))]) _ [Res.rowS 3 1 Go.E.encI (.slice a101 (List.replicate 256 (0 : Int)).length c102) l127]
   obtain ⟨z1, hh, hR1⟩ := iter_e hh
   dsimp only [part_Class_b4] at hh
   have hn164b := hn164
   refine TC.isSl (i := 0) z (fun _ hb166 _ => ?_)
   refine TC.seq (TC.region (TL.v z (OpVal.lss z z z) z z (TL.nil (S.n (TC.seq (TC.cond z (fun h167 => ?_) (fun h167 => ?_)))))))
   ·replace hh := iteO_t h167 hh
    replace h167 := of_decide_eq_true h167
    refine TC.skip (S.n (TC.seq (TC.block (TC.seq (TC.region ?_)))))
    have u77 := grd_c hh
    replace hh := grd_t hh
    refine TL.isSl (i := 0) z (fun hs168 _ _ => ?_)
    refine TL.v z (OpVal.indexN z Tryd.underlying22 sz3 z z hs168 (by omega)) z z (TL.v z (OpVal.loadO1 (0 : Int) z ag3 z (q := 0) z Go.E.encI_len (by omega) z) z z (TL.v z (OpVal.moveI (.inr z) z) z z (TL.nil (S.n (TC.seq (TC.region (TL.v z (OpVal.moveI (.inl z) z) z z (TL.v z (OpVal.lss z z z) z z (TL.nil ?_)))))))))
    refine S.n (TC.cond z (fun h169 => ?_) (fun h169 => ?_))
    ·replace hh := iteO_t h169 hh
     replace h169 := of_decide_eq_true h169
     refine TC.seq (TC.region (TL.v z (OpVal.moveSl (.inr z) z) z z (TL.v z (OpVal.moveI (.inr z) z) z z (TL.nil (S.n (TC.ofSub (Sub.pre 0 z) (TC.ret (B.r (S.r ?_)))))))))
     refine S.r ?_
     replace hh := fin_x hR1 hh
     refine B.r (S.r ?_)
     obtain rfl := Option.some.inj hh
     exact RetOk.mk' (rs := [.tmp 2, .tmp 3]) [] z (.inl z) (RVs.tmp z (RVs.tmp z RVs.nil)) (List.sublist_append_left _ _) ⟨none, 0, z, (RS.nilF _ Go.E.encI Go.E.encI_len), z⟩
    ·replace hh := iteO_f h169 hh
     replace h169 := of_decide_eq_false h169
     refine TC.skip (B.n (S.n (TC.region (TL.v z (OpVal.succ z z z (by omega)) z z (TL.v z (OpVal.moveI (.inl z) z) z z (TL.nil (S.n ?_)))))))
     obtain ⟨hh, hlt170⟩ := nxt_x hR1 hh
     refine ⟨by repeat (first | exact Agr.refl _ _ | exact Agr.mask | refine Agr.upd z ?_ | refine Agr.maskIn z ?_ | refine Agr.upds z ?_), ((k165 + 1), ()), hlt170, ⟨hh, hn164⟩, by repeat (first | exact trivial | refine ⟨z, ?_⟩), Sub.pre 1 z, z⟩
   ·replace hh := iteO_f h167 hh
    replace h167 := of_decide_eq_false h167
    refine TC.exit (S.x (S.x ?_))
    replace hh := fin_x hR1 hh
    refine TC.exitHere (S.n (TC.seq (TC.region (TL.v z (OpVal.moveSl (.inl z) z) z z (TL.v z (OpVal.moveSl (.inr z) z) z z (TL.v z (OpVal.moveI (.inr z) z) z z (TL.nil (S.n ?_))))))))
    rw [← hn164]
    refine TC.sealS Go.E.encI_len (fun τ173 hle172 hr171 => ?_)
    replace f0_0 := f0_0.mono hle172
    replace hgl := hgl.mono hle172
    have hr171b := hr171.rv.big
    refine TC.ret ?_
    obtain rfl := Option.some.inj hh
    exact RetOk.mk' (rs := [.tmp 2, .tmp 3]) [] z (.inl z) (RVs.tmp z (RVs.tmp z RVs.nil)) (List.sublist_append_left _ _) ⟨a101, c102, z, hr171, z⟩

noncomputable def part_Sets_j1 (x0 : List Int) (k116 : Nat) (l122 : List BSet) : Option (((List BSet) × Nat) ⊕ ((List BSet) × Int)) :=
 grd (0 ≤ (nth x0 k116 (0 : Int)) ∧ (nth x0 k116 (0 : Int)) < (l122.length : Int)) (grd ([(toU8 ((k116 : Nat) : Int))].length ≤ 1000000000000) (bnd (set_Any (nth l122 ((nth x0 k116 (0 : Int)).toNat) BSet.zero) (BSet.ofL [(toU8 ((k116 : Nat) : Int))])) (fun v47 => grd (0 ≤ (nth x0 k116 (0 : Int)) ∧ (nth x0 k116 (0 : Int)) < (l122.length : Int)) (nxt ((l122.set ((nth x0 k116 (0 : Int)).toNat) v47), (k116 + 1))))))
noncomputable def part_Sets_b1 (x0 : List Int) (l113 : List BSet) (k116 : Nat) : Option (((List BSet) × Nat) ⊕ ((List BSet) × Int)) :=
 iteO (decide (((k116 : Nat) : Int) < ((x0.length : Nat) : Int))) (iteO (decide ((nth x0 k116 (0 : Int)) < 0)) (fin (some (([] : List BSet), 1))) (iteO (decide (((l113.length : Nat) : Int) < (nth x0 k116 (0 : Int)))) (fin (some (([] : List BSet), 1))) (iteO (decide ((nth x0 k116 (0 : Int)) = ((l113.length : Nat) : Int))) (grd ((l113.length + [BSet.zero].length) * 32 ≤ 140737488355328) (part_Sets_j1 x0 k116 (l113 ++ [BSet.zero]))) (part_Sets_j1 x0 k116 l113)))) (fin (some (l113, 0)))
noncomputable def part_Sets (x0 : List Int) : Option ((List BSet) × Int) :=
 iteO (decide (((x0.length : Nat) : Int) ≠ 256)) (some (([] : List BSet), 1)) (iter (fun q : (List BSet) × Nat => part_Sets_b1 x0 q.1 q.2) (([] : List BSet), 0))
def part_Sets_P (σ : Store) (r : (List BSet) × Int) : Value → Store → List Res → Prop := fun v σ' H' =>
 ∃ (a1 : Option Addr), ∃ (c1 : Nat),  v = .tuple #[.slice a1 r.1.length c1, .int .i64 r.2] ∧ RS σ' 4 encSet (.slice a1 r.1.length c1) r.1 ∧ H' = []
theorem part_Sets_con {σ : Store} {x0 : List Int} {a0_0 : Option Addr} {c0_0 : Nat} (f0_0 : RS σ 1 Go.E.encI (.slice a0_0 x0.length c0_0) x0) {r : (List BSet) × Int} (hh : part_Sets x0 = some r) :
  Con Tryd.prog 59 #[.slice a0_0 x0.length c0_0] σ [] (part_Sets_P σ r) := by
 dsimp only [part_Sets] at hh
 have f0_0b := f0_0.rv.big
 refine Con.mk (n := 47) Tryd.func59 z z z (fun w0 => ?_)
 refine TC.seq (TC.region (TL.v z (OpVal.moveSl (.inr z) z) z z (TL.v z (OpVal.moveI (.inr z) z) z z (TL.nil (S.n (TC.seq (TC.seq (TC.region (TL.v z (OpVal.moveSl (.inl z) z) z z ?_)))))))))
 refine TL.v z (OpVal.lenC z Tryd.underlying22 z) z z (TL.v z (OpVal.neq z z z) z z (TL.nil (S.n (TC.cond z (fun h101 => ?_) (fun h101 => ?_)))))
 ·replace hh := iteO_t h101 hh
  replace h101 := of_decide_eq_true h101
  refine TC.seq (TC.region (TL.v z (OpVal.moveSl (.inr z) z) z z (TL.v z (OpVal.moveI (.inr z) z) z z (TL.nil (S.n (TC.ret (S.r ?_)))))))
  obtain rfl := Option.some.inj hh
  exact RetOk.mk' (rs := [.tmp 2, .tmp 3]) [] z (.inl z) (RVs.tmp z (RVs.tmp z RVs.nil)) (List.sublist_append_left _ _) ⟨none, 0, z, (RS.nilF _ encSet encSet_len), z⟩
 ·replace hh := iteO_f h101 hh
  replace h101 := of_decide_eq_false h101
  refine TC.skip (S.n (TC.seq (TC.region (TL.v z (OpVal.moveSl (.inr z) z) z z (TL.nil (S.n (TC.seq (TC.seq (TC.region ?_)))))))))
  refine TL.v z (OpVal.moveSl (.inl z) z) z z (TL.v z (OpVal.lenC z Tryd.underlying22 z) z z (TL.v z (OpVal.moveI (.inl z) z) z z (TL.nil (S.n (TC.block (TC.nilS 84 4 encSet (TC.loopG (α := ((List BSet) × Nat) × ((Option Addr) × Nat)) [2, 3, 4, 5, 6, 12, 13, 14, 15, 16, 17, 18, 19, 20, 21, 22, 23, 24, 25, 26, 27, 28, 29, 30, 31, 32, 33, 34, 35, 36, 37, 38, 39, 40, 41, 42, 43, 44, 45] (fun g => [(4, .slice g.2.1 g.1.1.length g.2.2), (12, .int .i64 ((g.1.2 : Nat) : Int))]) (fun g => [Res.rowS 84 4 encSet (.slice g.2.1 g.1.1.length g.2.2) g.1.1]) (fun g => σ) (fun g => iter (fun q : (List BSet) × Nat => part_Sets_b1 x0 q.1 q.2) g.1 = some r) (fun g => rounds (fun q : (List BSet) × Nat => part_Sets_b1 x0 q.1 q.2) g.1) ((([] : List BSet), 0), (none, 0)) (Sub.pre 1 z) z (by repeat (first | exact trivial | refine ⟨z, ?_⟩)) hh (fun g1 j1 hg1 => ?_))))))))
  obtain ⟨⟨l113, k116⟩, ⟨a114, c115⟩⟩ := g1
  have hh := hg1; clear hg1
  show TC _ _ _ (upds (mask _ j1 _) [(4, .slice a114 l113.length c115), (12, .int .i64 ((k116 : Nat) : Int))]) _ [Res.rowS 84 4 encSet (.slice a114 l113.length c115) l113]
  obtain ⟨z1, hh, hR1⟩ := iter_e hh
  dsimp only [part_Sets_b1] at hh
  refine TC.isSl (i := 0) z (fun _ hb118 _ => ?_)
  refine TC.seq (TC.region (TL.v z (OpVal.lss z z z) z z (TL.nil (S.n (TC.seq (TC.cond z (fun h119 => ?_) (fun h119 => ?_)))))))
  ·replace hh := iteO_t h119 hh
   replace h119 := of_decide_eq_true h119
   refine TC.skip (S.n (TC.seq (TC.block (TC.seq (TC.region (TL.v z (OpVal.moveI (.inl z) z) z z (TL.v z (OpVal.indexN z Tryd.underlying22 sz3 z z f0_0.rv.sl (by omega)) z z (TL.v z (OpVal.loadS1 (0 : Int) z ag3 z f0_0 (by omega) z) z z (TL.v z (OpVal.moveI (.inr z) z) z z ?_)))))))))
   refine TL.v z (OpVal.moveI (.inr z) z) z z (TL.nil (S.n (TC.seq (TC.seq (TC.region (TL.v z (OpVal.moveI (.inl z) z) z z (TL.v z (OpVal.lss z z z) z z (TL.v z (OpVal.moveB (.inl z) z) z z (TL.split 19 z (fun h120 => ?_) (fun h120 => ?_))))))))))
   ·replace hh := iteO_t h120 hh
    replace h120 := of_decide_eq_true h120
    refine TL.goff z z z z z z z z (TL.goff z z z z z z z z (TL.goff z z z z z z z z (TL.goff z z z z z z z z (TL.v z (OpVal.pickTB z z z) z z (TL.nil (S.n (TC.cond z (fun _ => ?_) (fun h => Bool.noConfusion h))))))))
    refine TC.seq (TC.region (TL.v z (OpVal.moveSl (.inr z) z) z z (TL.v z (OpVal.moveI (.inr z) z) z z (TL.nil (S.n (TC.ofSub (Sub.pre 0 z) (TC.ret (S.r (B.r ?_)))))))))
    refine S.r (S.r ?_)
    replace hh := fin_x hR1 hh
    refine B.r (S.r ?_)
    obtain rfl := Option.some.inj hh
    exact RetOk.mk' (rs := [.tmp 2, .tmp 3]) [] z (.inl z) (RVs.tmp z (RVs.tmp z RVs.nil)) (List.sublist_append_left _ _) ⟨none, 0, z, (RS.nilF _ encSet encSet_len), z⟩
   ·replace hh := iteO_f h120 hh
    replace h120 := of_decide_eq_false h120
    refine TL.gv z z z z z (OpVal.moveI (.inl z) z) z z (TL.gv z z z z z (OpVal.moveSl (.inl z) z) z z (TL.gv z z z z z (OpVal.lenC z Tryd.underlying115 z) z z (TL.gv z z z z z (OpVal.gtr z z z) z z (TL.v z (OpVal.pickFB z z z) z z (TL.nil (S.n (TC.cond z (fun h121 => ?_) (fun h121 => ?_))))))))
    ·replace hh := iteO_t h121 hh
     replace h121 := of_decide_eq_true h121
     refine TC.seq (TC.region (TL.v z (OpVal.moveSl (.inr z) z) z z (TL.v z (OpVal.moveI (.inr z) z) z z (TL.nil (S.n (TC.ofSub (Sub.pre 0 z) (TC.ret (S.r (B.r ?_)))))))))
     refine S.r (S.r ?_)
     replace hh := fin_x hR1 hh
     refine B.r (S.r ?_)
     obtain rfl := Option.some.inj hh
     exact RetOk.mk' (rs := [.tmp 2, .tmp 3]) [] z (.inl z) (RVs.tmp z (RVs.tmp z RVs.nil)) (List.sublist_append_left _ _) ⟨none, 0, z, (RS.nilF _ encSet encSet_len), z⟩
    ·replace hh := iteO_f h121 hh
     replace h121 := of_decide_eq_false h121
     refine TC.skip (S.n (TC.cutG (α := ((List BSet)) × ((Option Addr) × Nat)) [4, 25, 26, 27, 28, 29, 30, 31, 32] (fun g => [(4, .slice g.2.1 g.1.length g.2.2)]) (fun g => [Res.rowS 84 4 encSet (.slice g.2.1 g.1.length g.2.2) g.1]) (fun g => σ) (fun g => part_Sets_j1 x0 k116 g.1 = some z1) ?_ (fun g j hg => ?_)))
     ·skip
      refine TC.seq (TC.region (TL.v z (OpVal.moveI (.inl z) z) z z (TL.v z (OpVal.moveSl (.inl z) z) z z (TL.v z (OpVal.lenC z Tryd.underlying115 z) z z (TL.v z (OpVal.eql z z z) z z (TL.nil (S.n (TC.cond z (fun h125 => ?_) (fun h125 => ?_)))))))))
      ·replace hh := iteO_t h125 hh
       replace h125 := of_decide_eq_true h125
       refine TC.region (TL.v z (OpVal.moveSl (.inl z) z) z z (TL.v z (OpVal.buildArrL z Tryd.underlying84 sz82 ze84 z) z z (TL.op z (OpOk.lit (enc := encSet) [BSet.zero] z Tryd.underlying115 sz84 ze84 z z z encSet_len (by decide) (by decide) BSet.zero z (by decide) z (by decide) encSet_one (fun a126 c127 => ?_)))))
       refine TL.front 1 z z ?_
       have u35 := grd_c hh
       replace hh := grd_t hh
       refine TL.op z (OpOk.appendS z z Tryd.underlying115 sz84 by84 ze84 z z (by decide) z z z (.inr ⟨_, 0, z⟩) (by simpa using u35) (by decide) (fun a129 c130 => ?_))
       refine TL.v z (OpVal.moveSl (.inr z) z) z z (TL.nil (S.n (⟨by repeat (first | exact Agr.refl _ _ | exact Agr.mask | refine Agr.upd z ?_ | refine Agr.maskIn z ?_ | refine Agr.upds z ?_), ((l113 ++ [BSet.zero]), (a129, c130)), hh, by repeat (first | exact trivial | refine ⟨z, ?_⟩), Sub.pre 1 z, z⟩)))
      ·replace hh := iteO_f h125 hh
       replace h125 := of_decide_eq_false h125
       refine TC.skip (S.n (⟨by repeat (first | exact Agr.refl _ _ | exact Agr.mask | refine Agr.upd z ?_ | refine Agr.maskIn z ?_ | refine Agr.upds z ?_), (l113, (a114, c115)), hh, by repeat (first | exact trivial | refine ⟨z, ?_⟩), Sub.pre 1 z, z⟩))
     ·skip
      obtain ⟨l122, ⟨a123, c124⟩⟩ := g
      have hh := hg; clear hg
      show TC _ _ _ (upds (mask _ j _) [(4, .slice a123 l122.length c124)]) _ [Res.rowS 84 4 encSet (.slice a123 l122.length c124) l122]
      dsimp only [part_Sets_j1] at hh
      refine TC.isSl (i := 0) z (fun _ hb131 _ => ?_)
      have u41 := grd_c hh
      replace hh := grd_t hh
      have u46 := grd_c hh
      replace hh := grd_t hh
      obtain ⟨v47, u47, hh⟩ := bnd_e hh
      have u48 := grd_c hh
      replace hh := grd_t hh
      refine TC.draw [12] (by kernel_rfl) (TA.takeP 0 z (by kernel_rfl) (by kernel_rfl) (by kernel_rfl) z (OpVal.moveSl (.inl z) z) z z (TA.takeP 1 z (by kernel_rfl) (by kernel_rfl) (by kernel_rfl) z (OpVal.moveI (.inl z) z) z z (TA.takeP 2 z (by kernel_rfl) (by kernel_rfl) (by kernel_rfl) z (OpVal.moveSl (.inl z) z) z z (TA.takeP 3 z (by kernel_rfl) (by kernel_rfl) (by kernel_rfl) z (OpVal.moveI (.inl z) z) z z (TA.isSl (i := 0) z (fun hs138 _ _ => ?_))))))
      refine TA.take 4 z (by kernel_rfl) (by kernel_rfl) (by kernel_rfl) (by kernel_rfl) z (OpVal.index z Tryd.underlying115 sz84 z z hs138 u41.1 u41.2) z z (TA.take 5 z (by kernel_rfl) (by kernel_rfl) (by kernel_rfl) (by kernel_rfl) z (OpVal.loadOA BSet.zero z ag84 sz84 z (q := 0) z encSet_len (by omega) (by omega)) z z (TA.takeP 6 z (by kernel_rfl) (by kernel_rfl) (by kernel_rfl) z (OpVal.moveI (.inl z) z) z z (TA.takeP 7 z (by kernel_rfl) (by kernel_rfl) (by kernel_rfl) z (OpVal.convU8 z Tryd.underlying3 Tryd.underlying5 z) z z (TA.act 8 (by kernel_rfl) z z (OpOk.lit (enc := encU8) [(toU8 ((k116 : Nat) : Int))] z Tryd.underlying48 sz5 ze5 z z z encU8_len (by decide) (by decide) (0 : UInt8) z (by decide) z (by decide) encU8_one (fun a139 c140 => ⟨(fun w h => sees_of (Store.le.refl _) (fun r hr => (List.mem_cons_of_mem _ hr)) w h), ?_⟩))))))
      refine TA.act 9 (by kernel_rfl) z z (OpOk.callT (of_con _ _ _ [(toU8 ((k116 : Nat) : Int))] u46) z z pf32 z z z z ⟨(fun w h => sees_of (Store.le.refl _) (fun r hr => hr) w h), ?_⟩)
      refine TA.act 10 (by kernel_rfl) z z (OpOk.callP (set_Any_con u47) z z pf64 z z z ⟨(fun w h => sees_of (Store.le.refl _) (fun r hr => hr) w h), ?_⟩)
      refine TA.isSl (i := 0) z (fun hs142 _ _ => ?_)
      refine TA.take 11 z (by kernel_rfl) (by kernel_rfl) (by kernel_rfl) (by kernel_rfl) z (OpVal.index z Tryd.underlying115 sz84 z z hs142 u48.1 u48.2) z z ?_
      have hn143 : (l122.set ((nth x0 k116 (0 : Int)).toNat) v47).length = l122.length := by rw [List.length_set]
      refine TA.last 12 (by kernel_rfl) z z z (OpOk.storeS v47 z sz84 z z z z encSet_len encSet_one (by omega) (by omega) ?_)
      refine TZ.done (by kernel_rfl) (B.n (S.n (TC.region (TL.v z (OpVal.succ z z z (by omega)) z z (TL.v z (OpVal.moveI (.inl z) z) z z ?_)))))
      rw [← hn143]
      refine TL.nil (S.n ?_)
      obtain ⟨hh, hlt144⟩ := nxt_x hR1 hh
      refine ⟨by repeat (first | exact Agr.refl _ _ | exact Agr.mask | refine Agr.upd z ?_ | refine Agr.maskIn z ?_ | refine Agr.upds z ?_), (((l122.set ((nth x0 k116 (0 : Int)).toNat) v47), (k116 + 1)), (a123, c124)), hlt144, hh, by repeat (first | exact trivial | refine ⟨z, ?_⟩), Sub.pre 1 z, z⟩
  ·replace hh := iteO_f h119 hh
   replace h119 := of_decide_eq_false h119
   refine TC.exit (S.x (S.x ?_))
   replace hh := fin_x hR1 hh
   refine TC.exitHere (S.n (TC.seq (TC.region (TL.v z (OpVal.moveSl (.inl z) z) z z (TL.v z (OpVal.moveSl (.inr z) z) z z (TL.v z (OpVal.moveI (.inr z) z) z z (TL.nil (S.n (TC.sealS encSet_len (fun τ147 hle146 hr145 => ?_))))))))))
   replace f0_0 := f0_0.mono hle146
   have hr145b := hr145.rv.big
   refine TC.ret ?_
   obtain rfl := Option.some.inj hh
   exact RetOk.mk' (rs := [.tmp 2, .tmp 3]) [] z (.inl z) (RVs.tmp z (RVs.tmp z RVs.nil)) (List.sublist_append_left _ _) ⟨a114, c115, z, hr145, z⟩

noncomputable def dfa_Check_b2 (x0 : Dfa) (k110 : Nat) (k116 : Nat) : Option ((Nat) ⊕ ((Nat) ⊕ (Int))) :=
 iteO (decide (((k116 : Nat) : Int) < (((nth x0.next k110 ([] : List Int)).length : Nat) : Int))) (iteO (decide ((nth (nth x0.next k110 ([] : List Int)) k116 (0 : Int)) < 0)) (fin (fin (some 1))) (iteO (decide (((x0.next.length : Nat) : Int) ≤ (nth (nth x0.next k110 ([] : List Int)) k116 (0 : Int)))) (fin (fin (some 1))) (nxt (k116 + 1)))) (fin (nxt (k110 + 1)))
noncomputable def dfa_Check_b1 (x0 : Dfa) (v5 : (List BSet) × Int) (k110 : Nat) : Option ((Nat) ⊕ (Int)) :=
 iteO (decide (((k110 : Nat) : Int) < ((x0.next.length : Nat) : Int))) (iteO (decide ((((nth x0.next k110 ([] : List Int)).length : Nat) : Int) ≠ ((v5.1.length : Nat) : Int))) (fin (some 1)) (iter (fun q : Nat => dfa_Check_b2 x0 k110 q) 0)) (fin (some 0))
noncomputable def dfa_Check (x0 : Dfa) : Option (Int) :=
 bnd (part_Sets x0.cls) (fun v5 => iteO (decide (v5.2 ≠ 0)) (some 1) (iteO (decide (((x0.next.length : Nat) : Int) < 1)) (some 1) (iteO (decide (1024 < ((x0.next.length : Nat) : Int))) (some 1) (iteO (decide (((x0.fin.length : Nat) : Int) ≠ ((x0.next.length : Nat) : Int))) (some 1) (iter (fun q : Nat => dfa_Check_b1 x0 v5 q) 0)))))
theorem dfa_Check_con {σ : Store} {x0 : Dfa} {a0_0 : Option Addr} {c0_0 : Nat} {a0_1 : Option Addr} {c0_1 : Nat} {a0_2 : Option Addr} {c0_2 : Nat} (f0_0 : RS σ 1 Go.E.encI (.slice a0_0 x0.cls.length c0_0) x0.cls) (f0_1 : RZ σ (pkSl 1 Go.E.encI Go.E.encI_len) (.slice a0_1 x0.next.length c0_1) x0.next) (f0_2 : RS σ 1 encB (.slice a0_2 x0.fin.length c0_2) x0.fin) {r : Int} (hh : dfa_Check x0 = some r) :
  Con Tryd.prog 38 #[.agg #[.slice a0_0 x0.cls.length c0_0, .slice a0_1 x0.next.length c0_1, .slice a0_2 x0.fin.length c0_2]] σ [] (PureP (.int .i64 r) σ) := by
 dsimp only [dfa_Check] at hh
 have f0_0b := f0_0.rv.big
 have f0_1b := f0_1.big
 have f0_2b := f0_2.rv.big
 refine Con.mk (n := 63) Tryd.func38 z z z (fun w0 => ?_)
 refine TC.seq (TC.region (TL.op z (OpOk.boxA z z z z (fun b101 => ?_))))
 refine TL.v z (OpVal.moveI (.inr z) z) z z (TL.nil (S.n (TC.seq (TC.region (TL.v z (OpVal.fieldLoc z fo26_0 z) z z (TL.v z (OpVal.loadLoc z ag22 z (i := 0) z z) z z ?_))))))
 obtain ⟨v5, u5, hh⟩ := bnd_e hh
 refine TL.op z (OpOk.call (part_Sets_con f0_0 u5) z z pf59 z z z z ?_)
 rintro _ τ103 _ hle103 ⟨a103_1, c103_1, rfl, hr103_0, rfl⟩
 replace f0_0 := f0_0.mono hle103
 replace f0_1 := f0_1.mono hle103
 replace f0_2 := f0_2.mono hle103
 have hr103_0b := hr103_0.rv.big
 refine TL.v z (OpVal.moveT (.inl z) z) z z (TL.v z (OpVal.extract z z z) z z (TL.v z (OpVal.extract z z z) z z (TL.v z (OpVal.moveSl (.inr z) z) z z (TL.v z (OpVal.moveI (.inr z) z) z z (TL.nil (S.n (TC.seq (TC.region (TL.v z (OpVal.fieldLoc z fo26_1 z) z z ?_)))))))))
 refine TL.v z (OpVal.loadLoc z ag23 z (i := 0) z z) z z (TL.v z (OpVal.lenC z Tryd.underlying23 z) z z (TL.v z (OpVal.moveI (.inr z) z) z z (TL.nil (S.n (TC.seq (TC.seq (TC.region (TL.v z (OpVal.moveI (.inl z) z) z z (TL.v z (OpVal.neq z z z) z z ?_)))))))))
 refine TL.v z (OpVal.moveB (.inl z) z) z z (TL.split 21 z (fun h104 => ?_) (fun h104 => ?_))
 ·replace hh := iteO_t h104 hh
  replace h104 := of_decide_eq_true h104
  refine TL.goff z z z z z z z z (TL.goff z z z z z z z z (TL.v z (OpVal.pickTB z z z) z z (TL.v z (OpVal.moveB (.inl z) z) z z (TL.goff z z z z z z z z (TL.goff z z z z z z z z (TL.v z (OpVal.pickTB z z z) z z (TL.v z (OpVal.moveB (.inl z) z) z z (TL.goff z z z z z z z z (TL.goff z z z z z z z z ?_)))))))))
  refine TL.goff z z z z z z z z (TL.goff z z z z z z z z (TL.goff z z z z z z z z (TL.v z (OpVal.pickTB z z z) z z (TL.nil (S.n (TC.cond z (fun _ => ?_) (fun h => Bool.noConfusion h)))))))
  refine TC.seq (TC.region (TL.v z (OpVal.moveI (.inr z) z) z z (TL.nil (S.n (TC.ofSub (Sub.pre 0 z) (TC.back (TC.ret (S.r ?_))))))))
  obtain rfl := Option.some.inj hh
  exact RetOk.mk' (rs := [.tmp 2]) [] z (.inl z) (RVs.tmp z RVs.nil) (List.sublist_append_left _ _) ⟨z, z, z⟩
 ·replace hh := iteO_f h104 hh
  replace h104 := of_decide_eq_false h104
  refine TL.gv z z z z z (OpVal.moveI (.inl z) z) z z (TL.gv z z z z z (OpVal.lss z z z) z z (TL.v z (OpVal.pickFB z z z) z z (TL.v z (OpVal.moveB (.inl z) z) z z (TL.split 25 z (fun h105 => ?_) (fun h105 => ?_)))))
  ·replace hh := iteO_t h105 hh
   replace h105 := of_decide_eq_true h105
   refine TL.goff z z z z z z z z (TL.goff z z z z z z z z (TL.v z (OpVal.pickTB z z z) z z (TL.v z (OpVal.moveB (.inl z) z) z z (TL.goff z z z z z z z z (TL.goff z z z z z z z z (TL.goff z z z z z z z z (TL.goff z z z z z z z z (TL.goff z z z z z z z z (TL.v z (OpVal.pickTB z z z) z z ?_)))))))))
   refine TL.nil (S.n (TC.cond z (fun _ => ?_) (fun h => Bool.noConfusion h)))
   refine TC.seq (TC.region (TL.v z (OpVal.moveI (.inr z) z) z z (TL.nil (S.n (TC.ofSub (Sub.pre 0 z) (TC.back (TC.ret (S.r ?_))))))))
   obtain rfl := Option.some.inj hh
   exact RetOk.mk' (rs := [.tmp 2]) [] z (.inl z) (RVs.tmp z RVs.nil) (List.sublist_append_left _ _) ⟨z, z, z⟩
  ·replace hh := iteO_f h105 hh
   replace h105 := of_decide_eq_false h105
   refine TL.gv z z z z z (OpVal.moveI (.inl z) z) z z (TL.gv z z z z z (OpVal.gtr z z z) z z (TL.v z (OpVal.pickFB z z z) z z (TL.v z (OpVal.moveB (.inl z) z) z z (TL.split 29 z (fun h106 => ?_) (fun h106 => ?_)))))
   ·replace hh := iteO_t h106 hh
    replace h106 := of_decide_eq_true h106
    refine TL.goff z z z z z z z z (TL.goff z z z z z z z z (TL.goff z z z z z z z z (TL.goff z z z z z z z z (TL.goff z z z z z z z z (TL.v z (OpVal.pickTB z z z) z z (TL.nil (S.n (TC.cond z (fun _ => ?_) (fun h => Bool.noConfusion h)))))))))
    refine TC.seq (TC.region (TL.v z (OpVal.moveI (.inr z) z) z z (TL.nil (S.n (TC.ofSub (Sub.pre 0 z) (TC.back (TC.ret (S.r ?_))))))))
    obtain rfl := Option.some.inj hh
    exact RetOk.mk' (rs := [.tmp 2]) [] z (.inl z) (RVs.tmp z RVs.nil) (List.sublist_append_left _ _) ⟨z, z, z⟩
   ·replace hh := iteO_f h106 hh
    replace h106 := of_decide_eq_false h106
    refine TL.gv z z z z z (OpVal.fieldLoc z fo26_2 z) z z (TL.gv z z z z z (OpVal.loadLoc z ag24 z (i := 0) z z) z z (TL.gv z z z z z (OpVal.lenC z Tryd.underlying24 z) z z (TL.gv z z z z z (OpVal.moveI (.inl z) z) z z (TL.gv z z z z z (OpVal.neq z z z) z z (TL.v z (OpVal.pickFB z z z) z z (TL.nil (S.n (TC.cond z (fun h107 => ?_) (fun h107 => ?_)))))))))
    ·replace hh := iteO_t h107 hh
     replace h107 := of_decide_eq_true h107
     refine TC.seq (TC.region (TL.v z (OpVal.moveI (.inr z) z) z z (TL.nil (S.n (TC.ofSub (Sub.pre 0 z) (TC.back (TC.ret (S.r ?_))))))))
     obtain rfl := Option.some.inj hh
     exact RetOk.mk' (rs := [.tmp 2]) [] z (.inl z) (RVs.tmp z RVs.nil) (List.sublist_append_left _ _) ⟨z, z, z⟩
    ·replace hh := iteO_f h107 hh
     replace h107 := of_decide_eq_false h107
     refine TC.skip (S.n (TC.seq (TC.seq (TC.region (TL.v z (OpVal.fieldLoc z fo26_1 z) z z (TL.v z (OpVal.loadLoc z ag23 z (i := 0) z z) z z (TL.v z (OpVal.lenC z Tryd.underlying23 z) z z (TL.v z (OpVal.moveI (.inl z) z) z z (TL.nil ?_)))))))))
     refine S.n (TC.block (TC.loopG (α := (Nat) × (Unit)) [2, 7, 9, 39, 40, 41, 42, 43, 44, 45, 46, 47, 48, 49, 50, 51, 52, 53, 54, 55, 56, 57, 58, 59, 60, 61, 62] (fun g => [(39, .int .i64 ((g.1 : Nat) : Int))]) (fun g => []) (fun g => τ103) (fun g => iter (fun q : Nat => dfa_Check_b1 x0 v5 q) g.1 = some r) (fun g => rounds (fun q : Nat => dfa_Check_b1 x0 v5 q) g.1) (0, ()) (Sub.pre 0 z) z (by repeat (first | exact trivial | refine ⟨z, ?_⟩)) hh (fun g1 j1 hg1 => ?_)))
     obtain ⟨k110, _⟩ := g1
     have hh := hg1; clear hg1
     show TC _ _ _ (upds (mask _ j1 _) [(39, .int .i64 ((k110 : Nat) : Int))]) _ []
     obtain ⟨z1, hh, hR1⟩ := iter_e hh
     dsimp only [dfa_Check_b1] at hh
     refine TC.seq (TC.region (TL.v z (OpVal.lss z z z) z z (TL.nil (S.n (TC.seq (TC.cond z (fun h111 => ?_) (fun h111 => ?_)))))))
     ·replace hh := iteO_t h111 hh
      replace h111 := of_decide_eq_true h111
      refine TC.skip (S.n (TC.seq (TC.block (TC.seq (TC.region (TL.v z (OpVal.indexN z Tryd.underlying23 sz22 z z f0_1.isSl (by omega)) z z ?_))))))
      obtain ⟨p112, hk112, hg112⟩ := RZ.seg f0_1 k110 (by omega)
      replace hk112 : RS _ 1 Go.E.encI (.slice p112.1 (nth x0.next k110 ([] : List Int)).length p112.2) (nth x0.next k110 ([] : List Int)) := hk112
      have hk112b := hk112.rv.big
      refine TL.v z (OpVal.of (OpVal.loadSeg0 z ag22 z hg112 z) (v' := .slice p112.1 ((nth x0.next k110 ([] : List Int)).length) p112.2) z) z z (TL.v z (OpVal.moveSl (.inr z) z) z z (TL.nil (S.n (TC.seq (TC.seq (TC.region (TL.v z (OpVal.moveSl (.inl z) z) z z (TL.v z (OpVal.lenC z Tryd.underlying22 z) z z (TL.v z (OpVal.moveSl (.inl z) z) z z ?_)))))))))
      refine TL.v z (OpVal.lenC z Tryd.underlying115 z) z z (TL.v z (OpVal.neq z z z) z z (TL.nil (S.n (TC.cond z (fun h113 => ?_) (fun h113 => ?_)))))
      ·replace hh := iteO_t h113 hh
       replace h113 := of_decide_eq_true h113
       refine TC.seq (TC.region (TL.v z (OpVal.moveI (.inr z) z) z z (TL.nil (S.n (TC.back (TC.ret (S.r (B.r (S.r ?_)))))))))
       refine S.r ?_
       replace hh := fin_x hR1 hh
       refine B.r (S.r ?_)
       obtain rfl := Option.some.inj hh
       exact RetOk.mk' (rs := [.tmp 2]) [] z (.inl z) (RVs.tmp z RVs.nil) (List.sublist_append_left _ _) ⟨z, z, z⟩
      ·replace hh := iteO_f h113 hh
       replace h113 := of_decide_eq_false h113
       refine TC.skip (S.n (TC.seq (TC.region (TL.v z (OpVal.moveSl (.inl z) z) z z (TL.v z (OpVal.lenC z Tryd.underlying22 z) z z (TL.v z (OpVal.moveI (.inl z) z) z z (TL.nil (S.n (TC.block ?_)))))))))
       refine TC.loopG (α := (Nat) × (Unit)) [2, 9, 50, 51, 52, 53, 54, 55, 56, 57, 58, 59, 60, 61] (fun g => [(50, .int .i64 ((g.1 : Nat) : Int))]) (fun g => []) (fun g => τ103) (fun g => iter (fun q : Nat => dfa_Check_b2 x0 k110 q) g.1 = some z1) (fun g => rounds (fun q : Nat => dfa_Check_b2 x0 k110 q) g.1) (0, ()) (Sub.pre 0 z) z (by repeat (first | exact trivial | refine ⟨z, ?_⟩)) hh (fun g2 j2 hg2 => ?_)
       obtain ⟨k116, _⟩ := g2
       have hh := hg2; clear hg2
       show TC _ _ _ (upds (mask _ j2 _) [(50, .int .i64 ((k116 : Nat) : Int))]) _ []
       obtain ⟨z2, hh, hR2⟩ := iter_e hh
       dsimp only [dfa_Check_b2] at hh
       refine TC.seq (TC.region (TL.v z (OpVal.lss z z z) z z (TL.nil (S.n (TC.seq (TC.cond z (fun h117 => ?_) (fun h117 => ?_)))))))
       ·replace hh := iteO_t h117 hh
        replace h117 := of_decide_eq_true h117
        refine TC.skip (S.n (TC.seq (TC.block (TC.seq (TC.region (TL.v z (OpVal.indexN z Tryd.underlying22 sz3 z z hk112.rv.sl (by omega)) z z (TL.v z (OpVal.loadS1 (0 : Int) z ag3 z hk112 (by omega) z) z z (TL.v z (OpVal.moveI (.inr z) z) z z (TL.nil ?_)))))))))
        refine S.n (TC.seq (TC.region (TL.v z (OpVal.moveI (.inl z) z) z z (TL.v z (OpVal.lss z z z) z z (TL.v z (OpVal.moveB (.inl z) z) z z (TL.split 56 z (fun h118 => ?_) (fun h118 => ?_)))))))
        ·replace hh := iteO_t h118 hh
         replace h118 := of_decide_eq_true h118
         refine TL.goff z z z z z z z z (TL.goff z z z z z z z z (TL.goff z z z z z z z z (TL.v z (OpVal.pickTB z z z) z z (TL.nil (S.n (TC.cond z (fun _ => ?_) (fun h => Bool.noConfusion h)))))))
         refine TC.seq (TC.region (TL.v z (OpVal.moveI (.inr z) z) z z (TL.nil (S.n (TC.back (TC.ret (B.r (S.r (S.r ?_)))))))))
         replace hh := fin_x hR2 hh
         refine B.r (B.r (S.r (S.r ?_)))
         replace hh := fin_x hR1 hh
         refine B.r (S.r ?_)
         obtain rfl := Option.some.inj hh
         exact RetOk.mk' (rs := [.tmp 2]) [] z (.inl z) (RVs.tmp z RVs.nil) (List.sublist_append_left _ _) ⟨z, z, z⟩
        ·replace hh := iteO_f h118 hh
         replace h118 := of_decide_eq_false h118
         refine TL.gv z z z z z (OpVal.moveI (.inl z) z) z z (TL.gv z z z z z (OpVal.moveI (.inl z) z) z z (TL.gv z z z z z (OpVal.geq z z z) z z (TL.v z (OpVal.pickFB z z z) z z (TL.nil (S.n (TC.cond z (fun h119 => ?_) (fun h119 => ?_)))))))
         ·replace hh := iteO_t h119 hh
          replace h119 := of_decide_eq_true h119
          refine TC.seq (TC.region (TL.v z (OpVal.moveI (.inr z) z) z z (TL.nil (S.n (TC.back (TC.ret (B.r (S.r (S.r ?_)))))))))
          replace hh := fin_x hR2 hh
          refine B.r (B.r (S.r (S.r ?_)))
          replace hh := fin_x hR1 hh
          refine B.r (S.r ?_)
          obtain rfl := Option.some.inj hh
          exact RetOk.mk' (rs := [.tmp 2]) [] z (.inl z) (RVs.tmp z RVs.nil) (List.sublist_append_left _ _) ⟨z, z, z⟩
         ·replace hh := iteO_f h119 hh
          replace h119 := of_decide_eq_false h119
          refine TC.skip (B.n (S.n (TC.region (TL.v z (OpVal.succ z z z (by omega)) z z (TL.v z (OpVal.moveI (.inl z) z) z z (TL.nil (S.n ?_)))))))
          obtain ⟨hh, hlt120⟩ := nxt_x hR2 hh
          refine ⟨by repeat (first | exact Agr.refl _ _ | exact Agr.mask | refine Agr.upd z ?_ | refine Agr.maskIn z ?_ | refine Agr.upds z ?_), ((k116 + 1), ()), hlt120, hh, by repeat (first | exact trivial | refine ⟨z, ?_⟩), Sub.pre 0 z, z⟩
       ·replace hh := iteO_f h117 hh
        replace h117 := of_decide_eq_false h117
        refine TC.exit (S.x (S.x ?_))
        replace hh := fin_x hR2 hh
        refine TC.exitHere (B.n (S.n (TC.region (TL.v z (OpVal.succ z z z (by omega)) z z (TL.v z (OpVal.moveI (.inl z) z) z z (TL.nil (S.n ?_)))))))
        obtain ⟨hh, hlt121⟩ := nxt_x hR1 hh
        refine ⟨by repeat (first | exact Agr.refl _ _ | exact Agr.mask | refine Agr.upd z ?_ | refine Agr.maskIn z ?_ | refine Agr.upds z ?_), ((k110 + 1), ()), hlt121, hh, by repeat (first | exact trivial | refine ⟨z, ?_⟩), Sub.pre 0 z, z⟩
     ·replace hh := iteO_f h111 hh
      replace h111 := of_decide_eq_false h111
      refine TC.exit (S.x (S.x ?_))
      replace hh := fin_x hR1 hh
      refine TC.exitHere (S.n (TC.seq (TC.region (TL.v z (OpVal.moveI (.inr z) z) z z (TL.nil (S.n (TC.back (TC.ret ?_))))))))
      obtain rfl := Option.some.inj hh
      exact RetOk.mk' (rs := [.tmp 2]) [] z (.inl z) (RVs.tmp z RVs.nil) (List.sublist_append_left _ _) ⟨z, z, z⟩

noncomputable def dfa_unlike_j1 (k120 : Nat) (m124 : FM BSet Int) (l125 : List BSet) : Option (((FM BSet Int) × (List BSet) × Nat) ⊕ ((List BSet))) :=
 nxt (m124, l125, (k120 + 1))
noncomputable def dfa_unlike_b1 (x0 : List Arrow) (m115 : FM BSet Int) (l117 : List BSet) (k120 : Nat) : Option (((FM BSet Int) × (List BSet) × Nat) ⊕ ((List BSet))) :=
 iteO (decide (((k120 : Nat) : Int) < ((x0.length : Nat) : Int))) (iteO (!(m115.has ((nth x0 k120 Arrow.zero).set))) (grd ((l117.length + [(nth x0 k120 Arrow.zero).set].length) * 32 ≤ 140737488355328) (dfa_unlike_j1 k120 (m115.put ((nth x0 k120 Arrow.zero).set) ((l117.length : Nat) : Int)) (l117 ++ [(nth x0 k120 Arrow.zero).set]))) (dfa_unlike_j1 k120 m115 l117)) (fin (some l117))
noncomputable def dfa_unlike (x0 : List Arrow) : Option ((List BSet)) :=
 iter (fun q : (FM BSet Int) × (List BSet) × Nat => dfa_unlike_b1 x0 q.1 q.2.1 q.2.2) ((FM.emp : FM BSet Int), ([] : List BSet), 0)
def dfa_unlike_P (σ : Store) (r : (List BSet)) : Value → Store → List Res → Prop := fun v σ' H' =>
 ∃ (a1 : Option Addr), ∃ (c1 : Nat),  v = .slice a1 r.length c1 ∧ RS σ' 4 encSet (.slice a1 r.length c1) r ∧ H' = []
theorem dfa_unlike_con {σ : Store} {x0 : List Arrow} {a0_0 : Option Addr} {c0_0 : Nat} (f0_0 : RS σ 6 encE (.slice a0_0 x0.length c0_0) x0) {r : (List BSet)} (hh : dfa_unlike x0 = some r) :
  Con Tryd.prog 49 #[.slice a0_0 x0.length c0_0] σ [] (dfa_unlike_P σ r) := by
 dsimp only [dfa_unlike] at hh
 have f0_0b := f0_0.rv.big
 refine Con.mk (n := 37) Tryd.func49 z z z (fun w0 => ?_)
 refine TC.seq (TC.region (TL.v z (OpVal.moveSl (.inr z) z) z z (TL.nil (S.n (TC.seq (TC.region (TL.op z (OpOk.makeMapB (enc := setV) (encV := keyI) z z z (fun b101 => ?_)))))))))
 refine TL.v z (OpVal.moveMap (.inr z) z) z z (TL.nil (S.n (TC.seq (TC.region (TL.v z (OpVal.moveSl (.inr z) z) z z (TL.nil (S.n (TC.seq (TC.seq ?_)))))))))
 refine TC.region (TL.v z (OpVal.moveSl (.inl z) z) z z (TL.v z (OpVal.lenC z Tryd.underlying76 z) z z (TL.v z (OpVal.moveI (.inl z) z) z z (TL.nil (S.n (TC.block (TC.nilS 84 4 encSet (TC.loopG (α := ((FM BSet Int) × (List BSet) × Nat) × ((Option Addr) × Nat)) [4, 6, 7, 8, 12, 13, 14, 15, 16, 17, 18, 19, 20, 21, 22, 23, 24, 25, 26, 27, 28, 29, 30, 31, 32, 33, 34, 35] (fun g => [(4, .slice g.2.1 g.1.2.1.length g.2.2), (12, .int .i64 ((g.1.2.2 : Nat) : Int))]) (fun g => [Res.mapB setV keyI (some b101) g.1.1, Res.rowS 84 4 encSet (.slice g.2.1 g.1.2.1.length g.2.2) g.1.2.1]) (fun g => σ) (fun g => iter (fun q : (FM BSet Int) × (List BSet) × Nat => dfa_unlike_b1 x0 q.1 q.2.1 q.2.2) g.1 = some r) (fun g => rounds (fun q : (FM BSet Int) × (List BSet) × Nat => dfa_unlike_b1 x0 q.1 q.2.1 q.2.2) g.1) (((FM.emp : FM BSet Int), ([] : List BSet), 0), (none, 0)) (Sub.front 1 z z (Sub.pre 2 z)) z (by repeat (first | exact trivial | refine ⟨z, ?_⟩)) hh (fun g1 j1 hg1 => ?_)))))))))
 obtain ⟨⟨m115, l117, k120⟩, ⟨a118, c119⟩⟩ := g1
 have hh := hg1; clear hg1
 show TC _ _ _ (upds (mask _ j1 _) [(4, .slice a118 l117.length c119), (12, .int .i64 ((k120 : Nat) : Int))]) _ [Res.mapB setV keyI (some b101) m115, Res.rowS 84 4 encSet (.slice a118 l117.length c119) l117]
 obtain ⟨z1, hh, hR1⟩ := iter_e hh
 dsimp only [dfa_unlike_b1] at hh
 refine TC.isSl (i := 1) z (fun _ hb122 _ => ?_)
 refine TC.seq (TC.region (TL.v z (OpVal.lss z z z) z z (TL.nil (S.n (TC.seq (TC.cond z (fun h123 => ?_) (fun h123 => ?_)))))))
 ·replace hh := iteO_t h123 hh
  replace h123 := of_decide_eq_true h123
  refine TC.skip (S.n (TC.cutG (α := ((FM BSet Int) × (List BSet)) × ((Option Addr) × Nat)) [4, 6, 7, 8, 14, 15, 16, 17, 18, 19, 20, 21, 22, 23, 24, 25, 26, 27, 28, 29, 30, 31, 32, 33, 34] (fun g => [(4, .slice g.2.1 g.1.2.length g.2.2)]) (fun g => [Res.mapB setV keyI (some b101) g.1.1, Res.rowS 84 4 encSet (.slice g.2.1 g.1.2.length g.2.2) g.1.2]) (fun g => σ) (fun g => dfa_unlike_j1 k120 g.1.1 g.1.2 = some z1) ?_ (fun g j hg => ?_)))
  ·skip
   refine TC.block (TC.seq (TC.region (TL.v z (OpVal.indexN z Tryd.underlying76 sz110 z z f0_0.rv.sl (by omega)) z z (TL.v z (OpVal.loadSA Arrow.zero z ag110 sz110 z f0_0 (by omega) (by omega)) z z (TL.op z (OpOk.alloc z ze110 z z (fun b128 => ?_)))))))
   refine TL.op z (OpOk.storeAll z sz110 z z z z z z ?_)
   refine TL.nil (S.n (TC.seq (TC.region (TL.v z (OpVal.moveMap (.inl z) z) z z (TL.v z (OpVal.fieldLoc z fo110_2 z) z z (TL.v z (OpVal.loadLocA z ag84 sz84 z (i := 0) z z z) z z (TL.v z (OpVal.of (OpVal.lookB 0 (q := (nth x0 k120 Arrow.zero).set) z Tryd.underlying140 ze3 z (i := 1) z z (keyL_set Tryd.underlying84 Tryd.underlying82 ag82 sz82)) (v' := .tuple #[.int .i64 (m115.get ((nth x0 k120 Arrow.zero).set) 0), .bool (m115.has ((nth x0 k120 Arrow.zero).set))]) z) z z (TL.v z (OpVal.moveT (.inl z) z) z z (TL.v z (OpVal.extract z z z) z z ?_)))))))))
   refine TL.v z (OpVal.extract z z z) z z (TL.v z (OpVal.moveI (.inr z) z) z z (TL.v z (OpVal.moveB (.inr z) z) z z (TL.nil (S.n (TC.seq (TC.region (TL.v z (OpVal.moveB (.inl z) z) z z (TL.v z (OpVal.not z z) z z (TL.nil ?_)))))))))
   refine S.n (TC.cond z (fun h130 => ?_) (fun h130 => ?_))
   ·replace hh := iteO_t h130 hh
    refine TC.seq (TC.region (TL.v z (OpVal.moveMap (.inl z) z) z z (TL.v z (OpVal.fieldLoc z fo110_2 z) z z (TL.v z (OpVal.loadLocA z ag84 sz84 z (i := 0) z z z) z z (TL.v z (OpVal.moveSl (.inl z) z) z z (TL.v z (OpVal.lenC z Tryd.underlying115 z) z z (TL.front 1 z z (TL.op z (OpOk.updB ((nth x0 k120 Arrow.zero).set) ((l117.length : Nat) : Int) z Tryd.underlying140 z z z z (keyL_set Tryd.underlying84 Tryd.underlying82 ag82 sz82) ?_)))))))))
    refine TL.nil (S.n (TC.region (TL.v z (OpVal.moveSl (.inl z) z) z z (TL.v z (OpVal.fieldLoc z fo110_2 z) z z (TL.v z (OpVal.loadLocA z ag84 sz84 z (i := 1) z z z) z z (TL.op z (OpOk.lit (enc := encSet) [(nth x0 k120 Arrow.zero).set] z Tryd.underlying115 sz84 ze84 z z z encSet_len (by decide) (by decide) BSet.zero z (by decide) z (by decide) encSet_one (fun a131 c132 => ?_))))))))
    refine TL.front 3 z z ?_
    have u34 := grd_c hh
    replace hh := grd_t hh
    refine TL.op z (OpOk.appendS z z Tryd.underlying115 sz84 by84 ze84 z z (by decide) z z z (.inr ⟨_, 0, z⟩) (by simpa using u34) (by decide) (fun a134 c135 => ?_))
    refine TL.v z (OpVal.moveSl (.inr z) z) z z (TL.nil (B.n (S.n (⟨by repeat (first | exact Agr.refl _ _ | exact Agr.mask | refine Agr.upd z ?_ | refine Agr.maskIn z ?_ | refine Agr.upds z ?_), (((m115.put ((nth x0 k120 Arrow.zero).set) ((l117.length : Nat) : Int)), (l117 ++ [(nth x0 k120 Arrow.zero).set])), (a134, c135)), hh, by repeat (first | exact trivial | refine ⟨z, ?_⟩), Sub.front 2 z z (Sub.pre 2 z), z⟩))))
   ·replace hh := iteO_f h130 hh
    refine TC.skip (B.n (S.n (⟨by repeat (first | exact Agr.refl _ _ | exact Agr.mask | refine Agr.upd z ?_ | refine Agr.maskIn z ?_ | refine Agr.upds z ?_), ((m115, l117), (a118, c119)), hh, by repeat (first | exact trivial | refine ⟨z, ?_⟩), Sub.front 2 z z (Sub.front 2 z z (Sub.pre 2 z)), z⟩)))
  ·skip
   obtain ⟨⟨m124, l125⟩, ⟨a126, c127⟩⟩ := g
   have hh := hg; clear hg
   show TC _ _ _ (upds (mask _ j _) [(4, .slice a126 l125.length c127)]) _ [Res.mapB setV keyI (some b101) m124, Res.rowS 84 4 encSet (.slice a126 l125.length c127) l125]
   dsimp only [dfa_unlike_j1] at hh
   refine TC.isSl (i := 1) z (fun _ hb136 _ => ?_)
   refine TC.region (TL.v z (OpVal.succ z z z (by omega)) z z (TL.v z (OpVal.moveI (.inl z) z) z z (TL.nil (S.n ?_))))
   obtain ⟨hh, hlt137⟩ := nxt_x hR1 hh
   refine ⟨by repeat (first | exact Agr.refl _ _ | exact Agr.mask | refine Agr.upd z ?_ | refine Agr.maskIn z ?_ | refine Agr.upds z ?_), ((m124, l125, (k120 + 1)), (a126, c127)), hlt137, hh, by repeat (first | exact trivial | refine ⟨z, ?_⟩), Sub.front 1 z z (Sub.front 1 z z (Sub.pre 2 z)), z⟩
 ·replace hh := iteO_f h123 hh
  replace h123 := of_decide_eq_false h123
  refine TC.exit (S.x (S.x ?_))
  replace hh := fin_x hR1 hh
  refine TC.exitHere (S.n (TC.seq (TC.region (TL.v z (OpVal.moveSl (.inl z) z) z z (TL.v z (OpVal.moveSl (.inr z) z) z z (TL.nil (S.n (TC.front 1 z z (TC.sealS encSet_len (fun τ140 hle139 hr138 => ?_))))))))))
  replace f0_0 := f0_0.mono hle139
  have hr138b := hr138.rv.big
  refine TC.ofSub (Sub.pre 0 z) (TC.ret ?_)
  obtain rfl := Option.some.inj hh
  exact RetOk.mk' (rs := [.tmp 2]) [] z (.inl z) (RVs.tmp z RVs.nil) (List.sublist_append_left _ _) ⟨a118, c119, z, hr138, z⟩

noncomputable def dfa_behind_j1 (k133 : Nat) (l136 : List Int) : Option (((List Int) × Nat) ⊕ (((List Int) × Nat) ⊕ ((List Int)))) :=
 nxt (l136, (k133 + 1))
noncomputable def dfa_behind_b2 (x0 : List (List Arrow)) (x1 : List Int) (k117 : Nat) (v4 : UInt8 × Bool) (l130 : List Int) (k133 : Nat) : Option (((List Int) × Nat) ⊕ (((List Int) × Nat) ⊕ ((List Int)))) :=
 iteO (decide (((k133 : Nat) : Int) < (((nth x0 ((nth x1 k117 (0 : Int)).toNat) ([] : List Arrow)).length : Nat) : Int))) (iteO (((nth (nth x0 ((nth x1 k117 (0 : Int)).toNat) ([] : List Arrow)) k133 Arrow.zero).set).has v4.1.toNat) (grd ((l130.length + [(nth (nth x0 ((nth x1 k117 (0 : Int)).toNat) ([] : List Arrow)) k133 Arrow.zero).to].length) * 8 ≤ 140737488355328) (dfa_behind_j1 k133 (l130 ++ [(nth (nth x0 ((nth x1 k117 (0 : Int)).toNat) ([] : List Arrow)) k133 Arrow.zero).to]))) (dfa_behind_j1 k133 l130)) (fin (nxt (l130, (k117 + 1))))
noncomputable def dfa_behind_b1 (x1 : List Int) (x0 : List (List Arrow)) (v4 : UInt8 × Bool) (l114 : List Int) (k117 : Nat) : Option (((List Int) × Nat) ⊕ ((List Int))) :=
 iteO (decide (((k117 : Nat) : Int) < ((x1.length : Nat) : Int))) (grd (0 ≤ (nth x1 k117 (0 : Int)) ∧ (nth x1 k117 (0 : Int)) < (x0.length : Int)) (iter (fun q : (List Int) × Nat => dfa_behind_b2 x0 x1 k117 v4 q.1 q.2) (l114, 0))) (fin (some l114))
noncomputable def dfa_behind (x0 : List (List Arrow)) (x1 : List Int) (x2 : BSet) : Option ((List Int)) :=
 bnd (set_First x2) (fun v4 => iter (fun q : (List Int) × Nat => dfa_behind_b1 x1 x0 v4 q.1 q.2) (([] : List Int), 0))
def dfa_behind_P (σ : Store) (r : (List Int)) : Value → Store → List Res → Prop := fun v σ' H' =>
 ∃ (a1 : Option Addr), ∃ (c1 : Nat),  v = .slice a1 r.length c1 ∧ σ = σ' ∧ H' = [Res.rowS 3 1 Go.E.encI (.slice a1 r.length c1) r]
theorem dfa_behind_con {σ : Store} {x0 : List (List Arrow)} {a0_0 : Option Addr} {c0_0 : Nat} {x1 : List Int} {a1_0 : Option Addr} {c1_0 : Nat} {x2 : BSet} (hgl : GT σ 0 encU8 deB) (f0_0 : RZ σ (pkSl 6 encE encE_len) (.slice a0_0 x0.length c0_0) x0) (f1_0 : RS σ 1 Go.E.encI (.slice a1_0 x1.length c1_0) x1) {r : (List Int)} (hh : dfa_behind x0 x1 x2 = some r) :
  Con Tryd.prog 56 #[.slice a0_0 x0.length c0_0, .slice a1_0 x1.length c1_0, setV x2] σ [] (dfa_behind_P σ r) := by
 dsimp only [dfa_behind] at hh
 have f0_0b := f0_0.big
 have f1_0b := f1_0.rv.big
 refine Con.mk (n := 46) Tryd.func56 z z z (fun w0 => ?_)
 refine TC.seq (TC.region (TL.op z (OpOk.boxA z z z z (fun b101 => ?_))))
 refine TL.v z (OpVal.moveSl (.inr z) z) z z (TL.nil (S.n (TC.seq (TC.region (TL.v z (OpVal.loadAll z ag84 sz84 z (i := 0) z z) z z ?_)))))
 obtain ⟨v4, u4, hh⟩ := bnd_e hh
 refine TL.op z (OpOk.callP (set_First_con hgl u4) z z pf65 z z z ?_)
 refine TL.v z (OpVal.moveT (.inl z) z) z z (TL.v z (OpVal.extract z z z) z z (TL.v z (OpVal.extract z z z) z z (TL.v z (OpVal.moveI (.inr z) z) z z (TL.v z (OpVal.moveB (.inr z) z) z z (TL.nil (S.n (TC.seq (TC.region (TL.v z (OpVal.moveSl (.inr z) z) z z ?_)))))))))
 refine TL.nil (S.n (TC.seq (TC.seq (TC.region (TL.v z (OpVal.moveSl (.inl z) z) z z (TL.v z (OpVal.lenC z Tryd.underlying22 z) z z (TL.v z (OpVal.moveI (.inl z) z) z z (TL.nil (S.n ?_)))))))))
 refine TC.block (TC.nilS 3 1 Go.E.encI (TC.loopG (α := ((List Int) × Nat) × ((Option Addr) × Nat)) [9, 11, 13, 21, 22, 23, 24, 25, 26, 27, 28, 29, 30, 31, 32, 33, 34, 35, 36, 37, 38, 39, 40, 41, 42, 43, 44] (fun g => [(9, .slice g.2.1 g.1.1.length g.2.2), (21, .int .i64 ((g.1.2 : Nat) : Int))]) (fun g => [Res.rowS 3 1 Go.E.encI (.slice g.2.1 g.1.1.length g.2.2) g.1.1]) (fun g => σ) (fun g => iter (fun q : (List Int) × Nat => dfa_behind_b1 x1 x0 v4 q.1 q.2) g.1 = some r) (fun g => rounds (fun q : (List Int) × Nat => dfa_behind_b1 x1 x0 v4 q.1 q.2) g.1) ((([] : List Int), 0), (none, 0)) (Sub.pre 1 z) z (by repeat (first | exact trivial | refine ⟨z, ?_⟩)) hh (fun g1 j1 hg1 => ?_)))
 obtain ⟨⟨l114, k117⟩, ⟨a115, c116⟩⟩ := g1
 have hh := hg1; clear hg1
 show TC _ _ _ (upds (mask _ j1 _) [(9, .slice a115 l114.length c116), (21, .int .i64 ((k117 : Nat) : Int))]) _ [Res.rowS 3 1 Go.E.encI (.slice a115 l114.length c116) l114]
 obtain ⟨z1, hh, hR1⟩ := iter_e hh
 dsimp only [dfa_behind_b1] at hh
 refine TC.isSl (i := 0) z (fun _ hb119 _ => ?_)
 refine TC.seq (TC.region (TL.v z (OpVal.lss z z z) z z (TL.nil (S.n (TC.seq (TC.cond z (fun h120 => ?_) (fun h120 => ?_)))))))
 ·replace hh := iteO_t h120 hh
  replace h120 := of_decide_eq_true h120
  refine TC.skip (S.n (TC.seq (TC.block (TC.seq (TC.region (TL.v z (OpVal.indexN z Tryd.underlying22 sz3 z z f1_0.rv.sl (by omega)) z z (TL.v z (OpVal.loadS1 (0 : Int) z ag3 z f1_0 (by omega) z) z z (TL.v z (OpVal.moveI (.inr z) z) z z (TL.nil ?_)))))))))
  refine S.n (TC.seq (TC.region (TL.v z (OpVal.moveSl (.inl z) z) z z (TL.v z (OpVal.moveI (.inl z) z) z z ?_))))
  have u20 := grd_c hh
  replace hh := grd_t hh
  refine TL.v z (OpVal.index z Tryd.underlying121 sz76 z z f0_0.isSl u20.1 u20.2) z z ?_
  obtain ⟨p121, hk121, hg121⟩ := RZ.seg f0_0 ((nth x1 k117 (0 : Int)).toNat) (by omega)
  replace hk121 : RS _ 6 encE (.slice p121.1 (nth x0 ((nth x1 k117 (0 : Int)).toNat) ([] : List Arrow)).length p121.2) (nth x0 ((nth x1 k117 (0 : Int)).toNat) ([] : List Arrow)) := hk121
  have hk121b := hk121.rv.big
  refine TL.v z (OpVal.of (OpVal.loadSeg0 z ag76 z hg121 z) (v' := .slice p121.1 ((nth x0 ((nth x1 k117 (0 : Int)).toNat) ([] : List Arrow)).length) p121.2) z) z z (TL.v z (OpVal.lenC z Tryd.underlying76 z) z z (TL.v z (OpVal.moveI (.inl z) z) z z (TL.nil (S.n (TC.block (TC.loopG (α := ((List Int) × Nat) × ((Option Addr) × Nat)) [9, 13, 30, 31, 32, 33, 34, 35, 36, 37, 38, 39, 40, 41, 42, 43] (fun g => [(9, .slice g.2.1 g.1.1.length g.2.2), (30, .int .i64 ((g.1.2 : Nat) : Int))]) (fun g => [Res.rowS 3 1 Go.E.encI (.slice g.2.1 g.1.1.length g.2.2) g.1.1]) (fun g => σ) (fun g => iter (fun q : (List Int) × Nat => dfa_behind_b2 x0 x1 k117 v4 q.1 q.2) g.1 = some z1) (fun g => rounds (fun q : (List Int) × Nat => dfa_behind_b2 x0 x1 k117 v4 q.1 q.2) g.1) ((l114, 0), (a115, c116)) (Sub.pre 1 z) z (by repeat (first | exact trivial | refine ⟨z, ?_⟩)) hh (fun g2 j2 hg2 => ?_)))))))
  obtain ⟨⟨l130, k133⟩, ⟨a131, c132⟩⟩ := g2
  have hh := hg2; clear hg2
  show TC _ _ _ (upds (mask _ j2 _) [(9, .slice a131 l130.length c132), (30, .int .i64 ((k133 : Nat) : Int))]) _ [Res.rowS 3 1 Go.E.encI (.slice a131 l130.length c132) l130]
  obtain ⟨z2, hh, hR2⟩ := iter_e hh
  dsimp only [dfa_behind_b2] at hh
  refine TC.isSl (i := 0) z (fun _ hb134 _ => ?_)
  refine TC.seq (TC.region (TL.v z (OpVal.lss z z z) z z (TL.nil (S.n (TC.seq (TC.cond z (fun h135 => ?_) (fun h135 => ?_)))))))
  ·replace hh := iteO_t h135 hh
   replace h135 := of_decide_eq_true h135
   refine TC.skip (S.n (TC.cutG (α := ((List Int)) × ((Option Addr) × Nat)) [9, 13, 32, 33, 34, 35, 36, 37, 38, 39, 40, 41, 42] (fun g => [(9, .slice g.2.1 g.1.length g.2.2)]) (fun g => [Res.rowS 3 1 Go.E.encI (.slice g.2.1 g.1.length g.2.2) g.1]) (fun g => σ) (fun g => dfa_behind_j1 k133 g.1 = some z2) ?_ (fun g j hg => ?_)))
   ·skip
    refine TC.block (TC.seq (TC.region (TL.v z (OpVal.indexN z Tryd.underlying76 sz110 z z hk121.rv.sl (by omega)) z z (TL.v z (OpVal.loadSA Arrow.zero z ag110 sz110 z hk121 (by omega) (by omega)) z z (TL.op z (OpOk.alloc z ze110 z z (fun b139 => ?_)))))))
    refine TL.op z (OpOk.storeAll z sz110 z z z z z z ?_)
    refine TL.nil (S.n (TC.seq (TC.region (TL.v z (OpVal.fieldLoc z fo110_2 z) z z (TL.v z (OpVal.loadLocA z ag84 sz84 z (i := 0) z z z) z z (TL.v z (OpVal.moveI (.inl z) z) z z (TL.op z (OpOk.callP (has_con _ ((nth (nth x0 ((nth x1 k117 (0 : Int)).toNat) ([] : List Arrow)) k133 Arrow.zero).set) v4.1.toNat (BSet.isOk _) (UInt8.toNat_lt _)) z z pf66 z z z ?_))))))))
    refine TL.nil (S.n (TC.cond z (fun h141 => ?_) (fun h141 => ?_)))
    ·replace hh := iteO_t h141 hh
     refine TC.region (TL.v z (OpVal.moveSl (.inl z) z) z z (TL.v z (OpVal.fieldLoc z fo110_1 z) z z (TL.v z (OpVal.loadLoc z ag3 z (i := 0) z z) z z (TL.op z (OpOk.lit (enc := Go.E.encI) [(nth (nth x0 ((nth x1 k117 (0 : Int)).toNat) ([] : List Arrow)) k133 Arrow.zero).to] z Tryd.underlying22 sz3 ze3 z z z Go.E.encI_len (by decide) (by decide) (0 : Int) z (by decide) z (by decide) Go.E.encI_one (fun a142 c143 => ?_))))))
     refine TL.front 2 z z ?_
     have u37 := grd_c hh
     replace hh := grd_t hh
     refine TL.op z (OpOk.appendS z z Tryd.underlying22 sz3 by3 ze3 z z (by decide) z z z (.inr ⟨_, 0, z⟩) (by simpa using u37) (by decide) (fun a145 c146 => ?_))
     refine TL.v z (OpVal.moveSl (.inr z) z) z z (TL.nil (B.n (S.n (⟨by repeat (first | exact Agr.refl _ _ | exact Agr.mask | refine Agr.upd z ?_ | refine Agr.maskIn z ?_ | refine Agr.upds z ?_), ((l130 ++ [(nth (nth x0 ((nth x1 k117 (0 : Int)).toNat) ([] : List Arrow)) k133 Arrow.zero).to]), (a145, c146)), hh, by repeat (first | exact trivial | refine ⟨z, ?_⟩), Sub.pre 1 z, z⟩))))
    ·replace hh := iteO_f h141 hh
     refine TC.skip (B.n (S.n (⟨by repeat (first | exact Agr.refl _ _ | exact Agr.mask | refine Agr.upd z ?_ | refine Agr.maskIn z ?_ | refine Agr.upds z ?_), (l130, (a131, c132)), hh, by repeat (first | exact trivial | refine ⟨z, ?_⟩), Sub.front 1 z z (Sub.pre 1 z), z⟩)))
   ·skip
    obtain ⟨l136, ⟨a137, c138⟩⟩ := g
    have hh := hg; clear hg
    show TC _ _ _ (upds (mask _ j _) [(9, .slice a137 l136.length c138)]) _ [Res.rowS 3 1 Go.E.encI (.slice a137 l136.length c138) l136]
    dsimp only [dfa_behind_j1] at hh
    refine TC.isSl (i := 0) z (fun _ hb147 _ => ?_)
    refine TC.region (TL.v z (OpVal.succ z z z (by omega)) z z (TL.v z (OpVal.moveI (.inl z) z) z z (TL.nil (S.n ?_))))
    obtain ⟨hh, hlt148⟩ := nxt_x hR2 hh
    refine ⟨by repeat (first | exact Agr.refl _ _ | exact Agr.mask | refine Agr.upd z ?_ | refine Agr.maskIn z ?_ | refine Agr.upds z ?_), ((l136, (k133 + 1)), (a137, c138)), hlt148, hh, by repeat (first | exact trivial | refine ⟨z, ?_⟩), Sub.pre 1 z, z⟩
  ·replace hh := iteO_f h135 hh
   replace h135 := of_decide_eq_false h135
   refine TC.exit (S.x (S.x ?_))
   replace hh := fin_x hR2 hh
   refine TC.exitHere (B.n (S.n (TC.region (TL.v z (OpVal.succ z z z (by omega)) z z (TL.v z (OpVal.moveI (.inl z) z) z z (TL.nil (S.n ?_)))))))
   obtain ⟨hh, hlt149⟩ := nxt_x hR1 hh
   refine ⟨by repeat (first | exact Agr.refl _ _ | exact Agr.mask | refine Agr.upd z ?_ | refine Agr.maskIn z ?_ | refine Agr.upds z ?_), ((l130, (k117 + 1)), (a131, c132)), hlt149, hh, by repeat (first | exact trivial | refine ⟨z, ?_⟩), Sub.pre 1 z, z⟩
 ·replace hh := iteO_f h120 hh
  replace h120 := of_decide_eq_false h120
  refine TC.exit (S.x (S.x ?_))
  replace hh := fin_x hR1 hh
  refine TC.exitHere (S.n (TC.seq (TC.region (TL.v z (OpVal.moveSl (.inl z) z) z z (TL.v z (OpVal.moveSl (.inr z) z) z z (TL.nil (S.n (TC.ret ?_))))))))
  obtain rfl := Option.some.inj hh
  exact RetOk.mk' (rs := [.tmp 6]) [Res.rowS 3 1 Go.E.encI (.slice a115 l114.length c116) l114] z (.inl z) (RVs.tmp z RVs.nil) (List.sublist_append_left _ _) ⟨a115, c116, z, z, z⟩

noncomputable def dfa_classes_1_b1 {Sy : Type} (x1 : List BSet) (Y : Sy → Int × BSet → Option (Sy × Bool)) (k111 : Nat) (s112 : Sy) : Option ((Nat × Sy) ⊕ (Sy)) :=
 iteO (decide (((k111 : Nat) : Int) < ((x1.length : Nat) : Int))) (bnd (Y s112 (((k111 : Nat) : Int), (nth x1 k111 BSet.zero))) (fun v14 => iteO (!v14.2) (fin (some v14.1)) (nxt ((k111 + 1), v14.1)))) (fin (some s112))
noncomputable def dfa_classes_1 {Sy : Type} (Y : Sy → Int × BSet → Option (Sy × Bool)) (s0 : Sy) (x1 : List BSet) : Option (Sy) :=
 iter (fun q : Nat × Sy => dfa_classes_1_b1 x1 Y q.1 q.2) (0, s0)
theorem dfa_classes_1_con {Sy : Type} {σ : Store} {Y : Sy → Int × BSet → Option (Sy × Bool)} {s0 : Sy} {x1 : List BSet} {b1_0 : Nat} {Eb1 : Nat} {a1_1 : Option Addr} {c1_2 : Nat} (f1_3 : RS σ 4 encSet (.slice a1_1 x1.length c1_2) x1) {r : Sy} (hh : dfa_classes_1 Y s0 x1 = some r) :
  IterOk Tryd.prog 72 [loc b1_0 0] (fun (x : Int × BSet) _ vs => vs = [.int .i64 x.1, setV x.2]) Y σ [Res.cells b1_0 #[.slice a1_1 x1.length c1_2] Eb1] s0 r (fun σ' H' => H' = [Res.cells b1_0 #[.slice a1_1 x1.length c1_2] Eb1]) := by
 intro l Z ry0 hY hys
 dsimp only [dfa_classes_1] at hh
 have f1_3b := f1_3.rv.big
 refine Con.mk (n := 18) Tryd.func72 z z z (fun w0 => ?_)
 refine TC.weakR (TC.seq (TC.region (TL.v z (OpVal.loadLoc z ag115 z (i := 1) z z) z z (TL.v z (OpVal.lenC z Tryd.underlying115 z) z z (TL.v z (OpVal.moveI (.inl z) z) z z (TL.nil (S.n (TC.block (TC.loopG (α := (Nat × Sy) × (Res × Store)) [3, 4, 7, 8, 9, 10, 11, 12, 13, 14, 15, 16, 17] (fun g => [(7, .int .i64 ((g.1.1 : Nat) : Int))]) (fun g => [Res.cells b1_0 #[.slice a1_1 x1.length c1_2] Eb1, g.2.1]) (fun g => g.2.2) (fun g => iter (fun q : Nat × Sy => dfa_classes_1_b1 x1 Y q.1 q.2) g.1 = some r ∧ YR Z g.1.2 g.2.2 g.2.1 ∧ Store.le σ g.2.2) (fun g => rounds (fun q : Nat × Sy => dfa_classes_1_b1 x1 Y q.1 q.2) g.1) ((0, s0), (ry0, σ)) (Sub.front 1 z z (Sub.pre 2 z)) z (by repeat (first | exact trivial | refine ⟨z, ?_⟩)) ⟨hh, hys, (Store.le.refl _)⟩ (fun g1 j1 hg1 => ?_))))))))))
 obtain ⟨⟨k111, s112⟩, ⟨ry113, τ115⟩⟩ := g1
 obtain ⟨hh, hy114, hle116⟩ := hg1
 try dsimp only at hy114
 dsimp only at hle116
 replace hys := hys.mono hle116
 replace f1_3 := f1_3.mono hle116
 show TC _ _ _ (upds (mask _ j1 _) [(7, .int .i64 ((k111 : Nat) : Int))]) τ115 [Res.cells b1_0 #[.slice a1_1 x1.length c1_2] Eb1, ry113]
 obtain ⟨z1, hh, hR1⟩ := iter_e hh
 dsimp only [dfa_classes_1_b1] at hh
 skip
 refine TC.seq (TC.region (TL.v z (OpVal.lss z z z) z z (TL.nil (S.n (TC.seq (TC.cond z (fun h117 => ?_) (fun h117 => ?_)))))))
 ·replace hh := iteO_t h117 hh
  replace h117 := of_decide_eq_true h117
  refine TC.skip (S.n (TC.seq (TC.block (TC.seq (TC.region (TL.v z (OpVal.moveI (.inl z) z) z z (TL.v z (OpVal.indexN z Tryd.underlying115 sz84 z z f1_3.rv.sl (by omega)) z z (TL.v z (OpVal.loadSA BSet.zero z ag84 sz84 z f1_3 (by omega) (by omega)) z z (TL.op z (OpOk.alloc z ze84 z z (fun b118 => ?_)))))))))))
  refine TL.v z (OpVal.moveI (.inr z) z) z z (TL.op z (OpOk.storeAll z sz84 z z z z z z ?_))
  refine TL.nil (S.n (TC.seq (TC.region (TL.v z (OpVal.mv (.inl z)) z z (TL.v z (OpVal.moveI (.inl z) z) z z (TL.v z (OpVal.loadAll z ag84 sz84 z (i := 0) z z) z z ?_))))))
  obtain ⟨v14, u14, hh⟩ := bnd_e hh
  refine TL.front 2 z z (TL.op z (OpOk.callY hY hy114 u14 z z z z z z ?_))
  rintro τ120 ry120 hle120 hy120
  replace hys := hys.mono hle120
  replace f1_3 := f1_3.mono hle120
  refine TL.v z (OpVal.not z z) z z (TL.nil (S.n (TC.cond z (fun h121 => ?_) (fun h121 => ?_))))
  ·replace hh := iteO_t h121 hh
   refine TC.ofSub (Sub.front 2 z z (Sub.front 1 z z (Sub.pre 2 z))) (TC.ret (B.r (S.r (S.r ?_))))
   replace hh := fin_x hR1 hh
   refine B.r ?_
   obtain rfl := Option.some.inj hh
   refine ⟨_, Sub.front 1 z z (Sub.front 1 z z (Sub.pre 2 z)), ?_⟩
   exact RetOk.mk' (rs := []) [ry120, Res.cells b1_0 #[.slice a1_1 x1.length c1_2] Eb1] z (.inl z) RVs.nil (List.sublist_append_left _ _) ⟨_, _, z, hy120, z⟩
  ·replace hh := iteO_f h121 hh
   refine TC.skip (B.n (S.n (TC.region (TL.v z (OpVal.succ z z z (by omega)) z z (TL.v z (OpVal.moveI (.inl z) z) z z (TL.nil (S.n ?_)))))))
   obtain ⟨hh, hlt122⟩ := nxt_x hR1 hh
   refine ⟨by repeat (first | exact Agr.refl _ _ | exact Agr.mask | refine Agr.upd z ?_ | refine Agr.maskIn z ?_ | refine Agr.upds z ?_), (((k111 + 1), v14.1), (ry120, τ120)), hlt122, ⟨hh, hy120, (hle116.trans hle120)⟩, by repeat (first | exact trivial | refine ⟨z, ?_⟩), Sub.front 2 z z (Sub.pre 2 z), z⟩
 ·replace hh := iteO_f h117 hh
  replace h117 := of_decide_eq_false h117
  refine TC.exit (S.x (S.x ?_))
  replace hh := fin_x hR1 hh
  refine TC.exitHere ?_
  obtain rfl := Option.some.inj hh
  refine ⟨_, Sub.front 1 z z (Sub.pre 2 z), ?_⟩
  exact RetOk.mk' (rs := []) [ry113, Res.cells b1_0 #[.slice a1_1 x1.length c1_2] Eb1] z (.inr z) RVs.nil (List.sublist_append_left _ _) ⟨_, _, z, hy114, z⟩

noncomputable def dfa_classes (x0 : List BSet) : Option ((List BSet)) :=
 some x0
theorem dfa_classes_con {σ : Store} {x0 : List BSet} {a0_0 : Option Addr} {c0_0 : Nat} (f0_0 : RS σ 4 encSet (.slice a0_0 x0.length c0_0) x0) {r : (List BSet)} (hh : dfa_classes x0 = some r) :
  Con Tryd.prog 55 #[.slice a0_0 x0.length c0_0] σ [] (fun v σ' H' => ∃ (br4 : Nat), ∃ (ar1 : Option Addr), ∃ (cr2 : Nat), v = .func (.func 72) #[] #[loc br4 0] ∧ RS σ' 4 encSet (.slice ar1 r.length cr2) r ∧ H' = [Res.cells br4 #[.slice ar1 r.length cr2] 115]) := by
 dsimp only [dfa_classes] at hh
 have f0_0b := f0_0.rv.big
 refine Con.mk (n := 4) Tryd.func55 z z z (fun w0 => ?_)
 refine TC.seq (TC.region (TL.op z (OpOk.box z z z z (fun b103 => ?_))))
 refine TL.v z (OpVal.mv (.inr z)) z z (TL.nil (S.n (TC.seq (TC.region (TL.v z (OpVal.makeFn z) z z (TL.v z (OpVal.moveFn (.inr z) z) z z (TL.nil (S.n (TC.ret ?_)))))))))
 obtain rfl := Option.some.inj hh
 exact RetOk.mk' (rs := [.tmp 2]) [Res.cells b103 #[.slice a0_0 x0.length c0_0] 115] z (.inl z) (RVs.tmp z RVs.nil) (List.sublist_append_left _ _) ⟨b103, a0_0, c0_0, z, f0_0, z⟩

end Go.Proofs.YtmfclggfajopkaaDoor
end

/- S1b -/
section
/- Decompiled: an automaton that goes one way, from one that may go many. -/
set_option linter.unusedVariables false
set_option linter.unusedSimpArgs false
namespace Go.Proofs.YtmfclggfajopkaaDoor
open Go Go.E
set_option maxRecDepth 100000
private theorem ag121 : Go.E.aggOf Tryd.prog 121 = some false := by kernel_rfl
private theorem ag122 : Go.E.aggOf Tryd.prog 122 = some false := by kernel_rfl
private theorem ag26 : Go.E.aggOf Tryd.prog 26 = some true := by kernel_rfl
private theorem ag37 : Go.E.aggOf Tryd.prog 37 = some false := by kernel_rfl
private theorem by22 : Go.E.byOf Tryd.prog 22 = some 24 := by kernel_rfl
private theorem by76 : Go.E.byOf Tryd.prog 76 = some 24 := by kernel_rfl
private theorem pf48 : Go.E.plainF Tryd.prog 48 = true := by kernel_rfl
private theorem pf49 : Go.E.plainF Tryd.prog 49 = true := by kernel_rfl
private theorem pf50 : Go.E.plainF Tryd.prog 50 = true := by kernel_rfl
private theorem pf51 : Go.E.plainF Tryd.prog 51 = true := by kernel_rfl
private theorem pf52 : Go.E.plainF Tryd.prog 52 = true := by kernel_rfl
private theorem pf53 : Go.E.plainF Tryd.prog 53 = true := by kernel_rfl
private theorem pf54 : Go.E.plainF Tryd.prog 54 = true := by kernel_rfl
private theorem pf55 : Go.E.plainF Tryd.prog 55 = true := by kernel_rfl
private theorem pf56 : Go.E.plainF Tryd.prog 56 = true := by kernel_rfl
private theorem pf72 : Go.E.plainF Tryd.prog 72 = true := by kernel_rfl
private theorem pl26 : Go.E.plOf Tryd.prog 26 = some #[(0, 1), (1, 1), (2, 1)] := by kernel_rfl
private theorem sz121 : Go.E.szOf Tryd.prog 121 = some 1 := by kernel_rfl
private theorem sz122 : Go.E.szOf Tryd.prog 122 = some 1 := by kernel_rfl
private theorem sz23 : Go.E.szOf Tryd.prog 23 = some 1 := by kernel_rfl
private theorem sz24 : Go.E.szOf Tryd.prog 24 = some 1 := by kernel_rfl
private theorem sz26 : Go.E.szOf Tryd.prog 26 = some 3 := by kernel_rfl
private theorem sz37 : Go.E.szOf Tryd.prog 37 = some 1 := by kernel_rfl
private theorem ze121 : Go.E.zeroOf Tryd.prog 121 = some (.slice none 0 0) := by kernel_rfl
private theorem ze122 : Go.E.zeroOf Tryd.prog 122 = some (.pointer none) := by kernel_rfl
private theorem ze22 : Go.E.zeroOf Tryd.prog 22 = some (.slice none 0 0) := by kernel_rfl
private theorem ze26 : Go.E.zeroOf Tryd.prog 26 = some (.agg #[.slice none 0 0, .slice none 0 0, .slice none 0 0]) := by kernel_rfl
private theorem ze37 : Go.E.zeroOf Tryd.prog 37 = some (.int .i64 0) := by kernel_rfl
private theorem ze76 : Go.E.zeroOf Tryd.prog 76 = some (.slice none 0 0) := by kernel_rfl

noncomputable def dfa_Of_j1 (l130 : List (List Arrow)) (x0 : Nfa) (k134 : Nat) : Option (((List (List Arrow)) × Nat) ⊕ (Dfa × Int)) :=
 nxt ((l130.set (((nth x0.edges k134 Arrow.zero).frm).toNat) ((nth l130 (((nth x0.edges k134 Arrow.zero).frm).toNat) ([] : List Arrow)) ++ [(nth x0.edges k134 Arrow.zero)])), (k134 + 1))
noncomputable def dfa_Of_j2 (k323 : Nat) (t335 : Bool) : Option ((Bool × Nat) ⊕ ((Int × (List (List Int)) × (FM (List UInt8) Int) × (List (List Int)) × (List Bool) × Nat) ⊕ (Dfa × Int))) :=
 nxt (t335, (k323 + 1))
noncomputable def dfa_Of_r256 (l130 : List (List Arrow)) (v116 : (List Int) × Int) (i388 : Int) (l391 : List (List Int)) (m397 : FM (List UInt8) Int) (l401 : List Int) (y256_0 : Int) (y256_1 : BSet) : Option (Nat × (Int × (List (List Int)) × (FM (List UInt8) Int) × (List Int))) :=
 bnd (dfa_behind l130 v116.1 y256_1) (fun v161 => bnd (putKeep (⟨(⟨l391, m397⟩ : IStore)⟩ : ITable) v161) (fun v162 => iteO (decide (v162.2.2.1 ≠ 0)) (some (1, (v162.2.2.1, v162.2.2.2.of.rows, v162.2.2.2.of.places, l401))) (iteO (decide (1024 ≤ v162.1)) (some (1, (2, v162.2.2.2.of.rows, v162.2.2.2.of.places, l401))) (grd (0 ≤ y256_0 ∧ y256_0 < (l401.length : Int)) (some (0, (i388, v162.2.2.2.of.rows, v162.2.2.2.of.places, (l401.set y256_0.toNat v162.1))))))))
noncomputable def dfa_Of_k256 (l277 : List (List Int)) (l283 : List Bool) (t322 : Bool) (k286 : Nat) (jz : Nat) (i388 : Int) (l391 : List (List Int)) (m397 : FM (List UInt8) Int) (l401 : List Int) : Option ((Int × (List (List Int)) × (FM (List UInt8) Int) × (List (List Int)) × (List Bool) × Nat) ⊕ (Dfa × Int)) :=
 jsel jz (grd ((l277.length + [l401].length) * 24 ≤ 140737488355328) (grd ((l283.length + [t322].length) * 1 ≤ 140737488355328) (grd (k286 + 1 ≤ 9223372036854775807) (nxt (i388, l391, m397, (l277 ++ [l401]), (l283 ++ [t322]), (k286 + 1)))))) (fun j_ => jsel j_ (fin (some ((⟨([] : List Int), ([] : List (List Int)), ([] : List Bool)⟩ : Dfa), i388))) (fun _ => none))
noncomputable def dfa_Of_b4 (v116 : (List Int) × Int) (l193 : List Bool) (v13 : (List BSet) × Int) (l130 : List (List Arrow)) (i264 : Int) (l268 : List (List Int)) (m274 : FM (List UInt8) Int) (l277 : List (List Int)) (l283 : List Bool) (k286 : Nat) (t322 : Bool) (k323 : Nat) : Option ((Bool × Nat) ⊕ ((Int × (List (List Int)) × (FM (List UInt8) Int) × (List (List Int)) × (List Bool) × Nat) ⊕ (Dfa × Int))) :=
 iteO (decide (((k323 : Nat) : Int) < ((v116.1.length : Nat) : Int))) (iteO t322 (dfa_Of_j2 k323 true) (grd (0 ≤ (nth v116.1 k323 (0 : Int)) ∧ (nth v116.1 k323 (0 : Int)) < (l193.length : Int)) (dfa_Of_j2 k323 (nth l193 ((nth v116.1 k323 (0 : Int)).toNat) false)))) (fin (grd (8 * v13.1.length ≤ 281474976710656) (bnd (dfa_classes v13.1) (fun v153 => bnd (dfa_classes_1 (stepY (fun (q : Int × (List (List Int)) × (FM (List UInt8) Int) × (List Int)) (x : Int × BSet) => dfa_Of_r256 l130 v116 q.1 q.2.1 q.2.2.1 q.2.2.2 x.1 x.2)) (0, (i264, l268, m274, (List.replicate v13.1.length (0 : Int)))) v153) (fun zr256 => dfa_Of_k256 l277 l283 t322 k286 zr256.1 zr256.2.1 zr256.2.2.1 zr256.2.2.2.1 zr256.2.2.2.2)))))
noncomputable def dfa_Of_b3 (l193 : List Bool) (v13 : (List BSet) × Int) (l130 : List (List Arrow)) (v26 : (List Int) × Int) (i264 : Int) (l268 : List (List Int)) (m274 : FM (List UInt8) Int) (l277 : List (List Int)) (l283 : List Bool) (k286 : Nat) : Option ((Int × (List (List Int)) × (FM (List UInt8) Int) × (List (List Int)) × (List Bool) × Nat) ⊕ (Dfa × Int)) :=
 bnd (intern_Table_Size (⟨(⟨l268, m274⟩ : IStore)⟩ : ITable)) (fun v112 => iteO (decide (((k286 : Nat) : Int) < v112)) (bnd (intern_Table_Row (⟨(⟨l268, m274⟩ : IStore)⟩ : ITable) ((k286 : Nat) : Int)) (fun v116 => iteO (decide (v116.2 ≠ 0)) (fin (some ((⟨([] : List Int), ([] : List (List Int)), ([] : List Bool)⟩ : Dfa), v116.2))) (iter (fun q : Bool × Nat => dfa_Of_b4 v116 l193 v13 l130 i264 l268 m274 l277 l283 k286 q.1 q.2) (false, 0)))) (fin (some ((⟨v26.1, l277, l283⟩ : Dfa), 0))))
noncomputable def dfa_Of_b2 (x0 : Nfa) (v13 : (List BSet) × Int) (l130 : List (List Arrow)) (v26 : (List Int) × Int) (l193 : List Bool) (k195 : Nat) : Option (((List Bool) × Nat) ⊕ (Dfa × Int)) :=
 iteO (decide (((k195 : Nat) : Int) < ((x0.ends.length : Nat) : Int))) (grd (0 ≤ (nth x0.ends k195 (0 : Int)) ∧ (nth x0.ends k195 (0 : Int)) < (l193.length : Int)) (nxt ((l193.set ((nth x0.ends k195 (0 : Int)).toNat) true), (k195 + 1)))) (fin (bnd (intern_New) (fun v85 => bnd (intern_Table_Put (⟨(⟨v85.of.rows, v85.of.places⟩ : IStore)⟩ : ITable) x0.starts) (fun v91 => iteO (decide (v91.2.2.1 ≠ 0)) (some ((⟨([] : List Int), ([] : List (List Int)), ([] : List Bool)⟩ : Dfa), v91.2.2.1)) (iter (fun q : Int × (List (List Int)) × (FM (List UInt8) Int) × (List (List Int)) × (List Bool) × Nat => dfa_Of_b3 l193 v13 l130 v26 q.1 q.2.1 q.2.2.1 q.2.2.2.1 q.2.2.2.2.1 q.2.2.2.2.2) (0, v91.2.2.2.of.rows, v91.2.2.2.of.places, ([] : List (List Int)), ([] : List Bool), 0))))))
noncomputable def dfa_Of_b1 (x0 : Nfa) (v13 : (List BSet) × Int) (v26 : (List Int) × Int) (l130 : List (List Arrow)) (k134 : Nat) : Option (((List (List Arrow)) × Nat) ⊕ (Dfa × Int)) :=
 iteO (decide (((k134 : Nat) : Int) < ((x0.edges.length : Nat) : Int))) (grd (0 ≤ ((nth x0.edges k134 Arrow.zero).frm) ∧ ((nth x0.edges k134 Arrow.zero).frm) < (l130.length : Int)) (grd (((nth l130 (((nth x0.edges k134 Arrow.zero).frm).toNat) ([] : List Arrow)).length + [(nth x0.edges k134 Arrow.zero)].length) * 48 ≤ 140737488355328) (grd (0 ≤ ((nth x0.edges k134 Arrow.zero).frm) ∧ ((nth x0.edges k134 Arrow.zero).frm) < (l130.length : Int)) (dfa_Of_j1 l130 x0 k134)))) (fin (grd (0 ≤ x0.states ∧ 1 * x0.states.toNat ≤ 281474976710656) (iter (fun q : (List Bool) × Nat => dfa_Of_b2 x0 v13 l130 v26 q.1 q.2) ((List.replicate x0.states.toNat false), 0))))
noncomputable def dfa_Of (x0 : Nfa) : Option (Dfa × Int) :=
 iteO (decide ((errB (checkB x0)) ≠ 0)) (some ((⟨([] : List Int), ([] : List (List Int)), ([] : List Bool)⟩ : Dfa), 1)) (bnd (dfa_unlike x0.edges) (fun v12 => bnd (part_Parts v12) (fun v13 => iteO (decide (v13.2 ≠ 0)) (some ((⟨([] : List Int), ([] : List (List Int)), ([] : List Bool)⟩ : Dfa), v13.2)) (bnd (part_Class v13.1) (fun v26 => iteO (decide (v26.2 ≠ 0)) (some ((⟨([] : List Int), ([] : List (List Int)), ([] : List Bool)⟩ : Dfa), v26.2)) (grd (0 ≤ x0.states ∧ 24 * x0.states.toNat ≤ 281474976710656) (iter (fun q : (List (List Arrow)) × Nat => dfa_Of_b1 x0 v13 v26 q.1 q.2) ((List.replicate x0.states.toNat ([] : List Arrow)), 0))))))))
def dfa_Of_P (σ : Store) (r : Dfa × Int) : Value → Store → List Res → Prop := fun v σ' H' =>
 ∃ (a1 : Option Addr), ∃ (c1 : Nat), ∃ (a2 : Option Addr), ∃ (c2 : Nat), ∃ (a3 : Option Addr), ∃ (c3 : Nat),  v = .tuple #[.agg #[.slice a1 r.1.cls.length c1, .slice a2 r.1.next.length c2, .slice a3 r.1.fin.length c3], .int .i64 r.2] ∧ RS σ' 1 Go.E.encI (.slice a1 r.1.cls.length c1) r.1.cls ∧ RZ σ' (pkSl 1 Go.E.encI Go.E.encI_len) (.slice a2 r.1.next.length c2) r.1.next ∧ RS σ' 1 encB (.slice a3 r.1.fin.length c3) r.1.fin ∧ H' = []
set_option maxHeartbeats 8000000 in
theorem dfa_Of_con {σ : Store} {x0 : Nfa} {a0_0 : Option Addr} {c0_0 : Nat} {a0_1 : Option Addr} {c0_1 : Nat} {a0_2 : Option Addr} {c0_2 : Nat} (hgl : GT σ 0 encU8 deB) (f0_0 : RS σ 1 Go.E.encI (.slice a0_0 x0.starts.length c0_0) x0.starts) (f0_1 : RS σ 1 Go.E.encI (.slice a0_1 x0.ends.length c0_1) x0.ends) (f0_2 : RS σ 6 encE (.slice a0_2 x0.edges.length c0_2) x0.edges) {r : Dfa × Int} (hh : dfa_Of x0 = some r) :
  Con Tryd.prog 33 #[.agg #[.int .i64 x0.states, .slice a0_0 x0.starts.length c0_0, .slice a0_1 x0.ends.length c0_1, .slice a0_2 x0.edges.length c0_2]] σ [] (dfa_Of_P σ r) := by
 dsimp only [dfa_Of] at hh
 have f0_0b := f0_0.rv.big
 have f0_1b := f0_1.rv.big
 have f0_2b := f0_2.rv.big
 refine Con.mk (n := 177) Tryd.func33 z z z (fun w0 => ?_)
 refine TC.seq (TC.region (TL.op z (OpOk.boxA z z z z (fun b101 => ?_))))
 refine TL.op z (OpOk.alloc z ze26 z z (fun b103 => ?_))
 refine TL.op z (OpOk.alloc z ze37 z z (fun b105 => ?_))
 refine TL.nil (S.n (TC.seq (TC.seq (TC.region (TL.v z (OpVal.loadAll z ag78 sz78 z (i := 2) z z) z z (TL.op z (OpOk.callP (check_con _ x0 ⟨a0_0, c0_0, a0_1, c0_1, a0_2, c0_2⟩ ⟨f0_0, f0_1, f0_2, fun x _ => x.set.isOk⟩) z z pf43 z z z ?_)))))))
 refine TL.v z (OpVal.neq z z z) z z (TL.nil (S.n (TC.cond z (fun h107 => ?_) (fun h107 => ?_))))
 ·replace hh := iteO_t h107 hh
  replace h107 := of_decide_eq_true h107
  refine TC.seq (TC.region (TL.v z (OpVal.buildL z pl26 ze26 z) z z (TL.front 1 z z (TL.op z (OpOk.storeAll z sz26 z z z z z z ?_)))))
  refine TL.front 1 z z (TL.op z (OpOk.storeI z sz37 z z z z z ?_))
  refine TL.nil (S.n (TC.ofSub (Sub.front 1 z z (Sub.pre 2 z)) (TC.ret (S.r ?_))))
  obtain rfl := Option.some.inj hh
  exact RetOk.mk' (rs := [.cell 2 26, .cell 3 37]) [] z (.inl z) (RVs.agg ag26 sz26 z (i := 0) z z (RVs.one ag37 z (i := 1) z z RVs.nil)) (List.sublist_append_left _ _) ⟨none, 0, none, 0, none, 0, z, (RS.nilF _ Go.E.encI Go.E.encI_len), (RZ.nilF _ (pkSl 1 Go.E.encI Go.E.encI_len)), (RS.nilF _ encB encB_len), z⟩
 ·replace hh := iteO_f h107 hh
  replace h107 := of_decide_eq_false h107
  refine TC.skip (S.n (TC.seq (TC.region (TL.v z (OpVal.fieldLoc z fo78_3 z) z z (TL.v z (OpVal.loadLoc z ag76 z (i := 2) z z) z z ?_)))))
  obtain ⟨v12, u12, hh⟩ := bnd_e hh
  refine TL.op z (OpOk.call (dfa_unlike_con f0_2 u12) z z pf49 z z z z ?_)
  rintro _ τ108 _ hle108 ⟨a108_1, c108_1, rfl, hr108_0, rfl⟩
  replace f0_0 := f0_0.mono hle108
  replace f0_1 := f0_1.mono hle108
  replace f0_2 := f0_2.mono hle108
  replace hgl := hgl.mono hle108
  have hr108_0b := hr108_0.rv.big
  obtain ⟨v13, u13, hh⟩ := bnd_e hh
  refine TL.op z (OpOk.call (part_Parts_con hr108_0 u13) z z pf48 z z z z ?_)
  rintro _ τ109 _ hle109 ⟨a109_1, c109_1, rfl, hr109_0, rfl⟩
  replace f0_0 := f0_0.mono hle109
  replace f0_1 := f0_1.mono hle109
  replace f0_2 := f0_2.mono hle109
  replace hgl := hgl.mono hle109
  replace hr108_0 := hr108_0.mono hle109
  have hr109_0b := hr109_0.rv.big
  refine TL.v z (OpVal.moveT (.inl z) z) z z (TL.v z (OpVal.extract z z z) z z (TL.v z (OpVal.extract z z z) z z (TL.v z (OpVal.moveSl (.inr z) z) z z (TL.v z (OpVal.moveI (.inr z) z) z z (TL.nil (S.n (TC.seq (TC.seq (TC.region ?_)))))))))
  refine TL.v z (OpVal.moveI (.inl z) z) z z (TL.v z (OpVal.neq z z z) z z (TL.nil (S.n (TC.cond z (fun h110 => ?_) (fun h110 => ?_)))))
  ·replace hh := iteO_t h110 hh
   replace h110 := of_decide_eq_true h110
   refine TC.seq (TC.region (TL.v z (OpVal.buildL z pl26 ze26 z) z z (TL.v z (OpVal.moveI (.inl z) z) z z (TL.front 1 z z (TL.op z (OpOk.storeAll z sz26 z z z z z z ?_))))))
   refine TL.front 1 z z (TL.op z (OpOk.storeI z sz37 z z z z z ?_))
   refine TL.nil (S.n (TC.ofSub (Sub.front 1 z z (Sub.pre 2 z)) (TC.ret (S.r ?_))))
   obtain rfl := Option.some.inj hh
   exact RetOk.mk' (rs := [.cell 2 26, .cell 3 37]) [] z (.inl z) (RVs.agg ag26 sz26 z (i := 0) z z (RVs.one ag37 z (i := 1) z z RVs.nil)) (List.sublist_append_left _ _) ⟨none, 0, none, 0, none, 0, z, (RS.nilF _ Go.E.encI Go.E.encI_len), (RZ.nilF _ (pkSl 1 Go.E.encI Go.E.encI_len)), (RS.nilF _ encB encB_len), z⟩
  ·replace hh := iteO_f h110 hh
   replace h110 := of_decide_eq_false h110
   refine TC.skip (S.n (TC.seq (TC.region (TL.v z (OpVal.moveSl (.inl z) z) z z ?_))))
   obtain ⟨v26, u26, hh⟩ := bnd_e hh
   refine TL.op z (OpOk.call (part_Class_con hgl hr109_0 u26) z z pf50 z z z z ?_)
   rintro _ τ111 _ hle111 ⟨a111_1, c111_1, rfl, hr111_0, rfl⟩
   replace f0_0 := f0_0.mono hle111
   replace f0_1 := f0_1.mono hle111
   replace f0_2 := f0_2.mono hle111
   replace hgl := hgl.mono hle111
   replace hr108_0 := hr108_0.mono hle111
   replace hr109_0 := hr109_0.mono hle111
   have hr111_0b := hr111_0.rv.big
   refine TL.v z (OpVal.moveT (.inl z) z) z z (TL.v z (OpVal.extract z z z) z z (TL.v z (OpVal.extract z z z) z z (TL.v z (OpVal.moveSl (.inr z) z) z z (TL.v z (OpVal.moveI (.inr z) z) z z (TL.nil (S.n (TC.seq (TC.seq (TC.region ?_)))))))))
   refine TL.v z (OpVal.moveI (.inl z) z) z z (TL.v z (OpVal.neq z z z) z z (TL.nil (S.n (TC.cond z (fun h112 => ?_) (fun h112 => ?_)))))
   ·replace hh := iteO_t h112 hh
    replace h112 := of_decide_eq_true h112
    refine TC.seq (TC.region (TL.v z (OpVal.buildL z pl26 ze26 z) z z (TL.v z (OpVal.moveI (.inl z) z) z z (TL.front 1 z z (TL.op z (OpOk.storeAll z sz26 z z z z z z ?_))))))
    refine TL.front 1 z z (TL.op z (OpOk.storeI z sz37 z z z z z ?_))
    refine TL.nil (S.n (TC.ofSub (Sub.front 1 z z (Sub.pre 2 z)) (TC.ret (S.r ?_))))
    obtain rfl := Option.some.inj hh
    exact RetOk.mk' (rs := [.cell 2 26, .cell 3 37]) [] z (.inl z) (RVs.agg ag26 sz26 z (i := 0) z z (RVs.one ag37 z (i := 1) z z RVs.nil)) (List.sublist_append_left _ _) ⟨none, 0, none, 0, none, 0, z, (RS.nilF _ Go.E.encI Go.E.encI_len), (RZ.nilF _ (pkSl 1 Go.E.encI Go.E.encI_len)), (RS.nilF _ encB encB_len), z⟩
   ·replace hh := iteO_f h112 hh
    replace h112 := of_decide_eq_false h112
    refine TC.skip (S.n (TC.seq (TC.region (TL.v z (OpVal.fieldLoc z fo78_0 z) z z (TL.v z (OpVal.loadLoc z ag3 z (i := 2) z z) z z ?_)))))
    have u40 := grd_c hh
    replace hh := grd_t hh
    refine TL.op rfl (OpOk.makeN (q := x0.states.toNat) (E := 110) (size := 6) (enc := encE) rfl Tryd.underlying121 sz76 by76 ze76 rfl rfl (by show Value.int _ _ = _; rw [Int.toNat_of_nonneg u40.1]) (by show Value.int _ _ = _; rw [Int.toNat_of_nonneg u40.1]) (by omega) (by decide) rfl (fun a113 c114 zf115 => ?_))
    refine TL.op z (OpOk.alloc z ze121 z z (fun b117 => ?_))
    refine TL.op z (OpOk.storeSl z sz121 z z z z z ?_)
    refine TL.nil (S.n (TC.seq (TC.seq (TC.region (TL.v z (OpVal.fieldLoc z fo78_3 z) z z (TL.v z (OpVal.loadLoc z ag76 z (i := 4) z z) z z (TL.v z (OpVal.lenC z Tryd.underlying76 z) z z (TL.v z (OpVal.moveI (.inl z) z) z z (TL.nil ?_)))))))))
    refine S.n (TC.block (TC.loopG (α := ((List (List Arrow)) × Nat) × ((List (NP Arrow)))) [9, 60, 61, 62, 63, 64, 65, 66, 67, 68, 69, 70, 71, 72, 73, 74, 75, 76] (fun g => [(60, .int .i64 ((g.1.2 : Nat) : Int))]) (fun g => [Res.cells b101 #[.int .i64 x0.states, .slice a0_0 x0.starts.length c0_0, .slice a0_1 x0.ends.length c0_1, .slice a0_2 x0.edges.length c0_2] 78, Res.cells b103 #[.slice none 0 0, .slice none 0 0, .slice none 0 0] 26, Res.cells b105 #[.int .i64 0] 37, Res.cells b117 #[.slice a113 ((List.replicate x0.states.toNat ([] : List Arrow)).length) c114] 121, Res.nest 76 110 6 encE (.slice a113 (List.replicate x0.states.toNat ([] : List Arrow)).length c114) g.2]) (fun g => τ111) (fun g => iter (fun q : (List (List Arrow)) × Nat => dfa_Of_b1 x0 v13 v26 q.1 q.2) g.1 = some r ∧ g.1.1.length = (List.replicate x0.states.toNat ([] : List Arrow)).length ∧ Zn g.2 g.1.1) (fun g => rounds (fun q : (List (List Arrow)) × Nat => dfa_Of_b1 x0 v13 v26 q.1 q.2) g.1) (((List.replicate x0.states.toNat ([] : List Arrow)), 0), (List.replicate x0.states.toNat (nilN : NP Arrow))) (Sub.front 1 z z (Sub.front 1 z z (Sub.front 2 z z (Sub.front 3 z z (Sub.front 4 z z (Sub.pre 5 z)))))) z (by repeat (first | exact trivial | refine ⟨z, ?_⟩)) ⟨hh, z, zf115⟩ (fun g1 j1 hg1 => ?_)))
    obtain ⟨⟨l130, k134⟩, z132⟩ := g1
    obtain ⟨hh, hn131, zf133⟩ := hg1
    try dsimp only at hn131
    try dsimp only at zf133
    show TC _ _ _ (upds (mask _ j1 _) [(60, .int .i64 ((k134 : Nat) : Int))]) _ [Res.cells b101 #[.int .i64 x0.states, .slice a0_0 x0.starts.length c0_0, .slice a0_1 x0.ends.length c0_1, .slice a0_2 x0.edges.length c0_2] 78, Res.cells b103 #[.slice none 0 0, .slice none 0 0, .slice none 0 0] 26, Res.cells b105 #[.int .i64 0] 37, Res.cells b117 #[.slice a113 ((List.replicate x0.states.toNat ([] : List Arrow)).length) c114] 121, Res.nest 76 110 6 encE (.slice a113 (List.replicate x0.states.toNat ([] : List Arrow)).length c114) z132]
    obtain ⟨z1, hh, hR1⟩ := iter_e hh
    dsimp only [dfa_Of_b1] at hh
    have hn131b := hn131
    have zf133b := zf133.len
    refine TC.know (isSl_nest (q := 4) z zf133) (fun ⟨_, hb135⟩ => ?_)
    refine TC.seq (TC.region (TL.v z (OpVal.lss z z z) z z (TL.nil (S.n (TC.seq (TC.cond z (fun h136 => ?_) (fun h136 => ?_)))))))
    ·replace hh := iteO_t h136 hh
     replace h136 := of_decide_eq_true h136
     refine TC.skip (S.n (TC.cutG (α := (Unit) × ((List (NP Arrow)))) [9, 62, 63, 64, 65, 66, 67, 68, 69, 70, 71, 72, 73, 74, 75] (fun g => []) (fun g => [Res.cells b101 #[.int .i64 x0.states, .slice a0_0 x0.starts.length c0_0, .slice a0_1 x0.ends.length c0_1, .slice a0_2 x0.edges.length c0_2] 78, Res.cells b103 #[.slice none 0 0, .slice none 0 0, .slice none 0 0] 26, Res.cells b105 #[.int .i64 0] 37, Res.cells b117 #[.slice a113 ((List.replicate x0.states.toNat ([] : List Arrow)).length) c114] 121, Res.nest 76 110 6 encE (.slice a113 (List.replicate x0.states.toNat ([] : List Arrow)).length c114) g.2]) (fun g => τ111) (fun g => dfa_Of_j1 l130 x0 k134 = some z1 ∧ (l130.set (((nth x0.edges k134 Arrow.zero).frm).toNat) ((nth l130 (((nth x0.edges k134 Arrow.zero).frm).toNat) ([] : List Arrow)) ++ [(nth x0.edges k134 Arrow.zero)])).length = (List.replicate x0.states.toNat ([] : List Arrow)).length ∧ Zn g.2 (l130.set (((nth x0.edges k134 Arrow.zero).frm).toNat) ((nth l130 (((nth x0.edges k134 Arrow.zero).frm).toNat) ([] : List Arrow)) ++ [(nth x0.edges k134 Arrow.zero)]))) ?_ (fun g j hg => ?_)))
     ·skip
      refine TC.block (TC.seq (TC.region (TL.v z (OpVal.indexN z Tryd.underlying76 sz110 z z f0_2.rv.sl (by omega)) z z (TL.v z (OpVal.loadSA Arrow.zero z ag110 sz110 z f0_2 (by omega) (by omega)) z z (TL.op z (OpOk.alloc z ze110 z z (fun b140 => ?_)))))))
      refine TL.op z (OpOk.storeAll z sz110 z z z z z z ?_)
      refine TL.nil (S.n ?_)
      have u58 := grd_c hh
      replace hh := grd_t hh
      have u62 := grd_c hh
      replace hh := grd_t hh
      have u63 := grd_c hh
      replace hh := grd_t hh
      refine TC.drawR (Hr := [Res.cells b140 #[.int .i64 ((nth x0.edges k134 Arrow.zero).frm), .int .i64 ((nth x0.edges k134 Arrow.zero).to), .int .u64 ((((nth x0.edges k134 Arrow.zero).set).a : Nat) : Int), .int .u64 ((((nth x0.edges k134 Arrow.zero).set).b : Nat) : Int), .int .u64 ((((nth x0.edges k134 Arrow.zero).set).c : Nat) : Int), .int .u64 ((((nth x0.edges k134 Arrow.zero).set).d : Nat) : Int)] 110, Res.cells b101 #[.int .i64 x0.states, .slice a0_0 x0.starts.length c0_0, .slice a0_1 x0.ends.length c0_1, .slice a0_2 x0.edges.length c0_2] 78, Res.cells b103 #[.slice none 0 0, .slice none 0 0, .slice none 0 0] 26, Res.cells b105 #[.int .i64 0] 37, Res.cells b117 #[.slice a113 ((List.replicate x0.states.toNat ([] : List Arrow)).length) c114] 121]) (fun r hr => mem_pick [0, 1, 2, 3, 4] z hr) [] (by kernel_rfl) (TA.take 0 z (by kernel_rfl) (by kernel_rfl) (by kernel_rfl) (by kernel_rfl) z (OpVal.loadLoc z ag121 z (i := 4) z z) z z (TA.takeP 1 z (by kernel_rfl) (by kernel_rfl) (by kernel_rfl) z (OpVal.fieldLoc z fo110_0 z) z z (TA.take 2 z (by kernel_rfl) (by kernel_rfl) (by kernel_rfl) (by kernel_rfl) z (OpVal.loadLoc z ag3 z (i := 0) z z) z z (TA.take 3 z (by kernel_rfl) (by kernel_rfl) (by kernel_rfl) (by kernel_rfl) z (OpVal.loadLoc z ag121 z (i := 4) z z) z z (TA.takeP 4 z (by kernel_rfl) (by kernel_rfl) (by kernel_rfl) z (OpVal.fieldLoc z fo110_0 z) z z (TA.take 5 z (by kernel_rfl) (by kernel_rfl) (by kernel_rfl) (by kernel_rfl) z (OpVal.loadLoc z ag3 z (i := 0) z z) z z (TA.know (isSl_nest (q := 5) z zf133) (fun ⟨hs153, hs153b⟩ => ?_))))))))
      refine TA.take 6 z (by kernel_rfl) (by kernel_rfl) (by kernel_rfl) (by kernel_rfl) z (OpVal.index z Tryd.underlying121 sz76 z z hs153 u58.1 u58.2) z z (TA.take 8 z (by kernel_rfl) (by kernel_rfl) (by kernel_rfl) (by kernel_rfl) z (OpVal.loadAll z ag110 sz110 z (i := 0) z z) z z ?_)
      obtain ⟨p154, hz154, hm154⟩ := Zn.at zf133 (i := ((nth x0.edges k134 Arrow.zero).frm).toNat) (by omega)
      refine TA.actN [7, 9] (by kernel_rfl) (And.intro (Exists.intro _ (And.intro z (And.intro z (OpVal.ok (OpVal.loadN z ag76 z (q := 5) z hz154 hm154) z z ⟨(fun w h => sees_of (Store.le.refl _) (fun r hr => mem_pick [0, 1, 2, 3, 4] z hr) w h), ?_⟩)))) (And.intro (Exists.intro _ (And.intro z (And.intro z (OpOk.lit (enc := encE) [(nth x0.edges k134 Arrow.zero)] z Tryd.underlying76 sz110 ze110 z z z encE_len (by decide) (by decide) Arrow.zero z (by decide) z (by decide) encE_one (fun a155 c156 => ⟨(fun w h => sees_of (Store.le.refl _) (fun r hr => mem_pick [1, 2, 3, 4, 5] z hr) w h), ?_⟩))))) (True.intro)))
      ·skip
       refine TA.act 9 (by kernel_rfl) z z (OpOk.lit (enc := encE) [(nth x0.edges k134 Arrow.zero)] z Tryd.underlying76 sz110 ze110 z z z encE_len (by decide) (by decide) Arrow.zero z (by decide) z (by decide) encE_one (fun a158 c159 => ⟨(fun w h => sees_of (Store.le.refl _) (fun r hr => mem_pick [1, 2, 3, 4, 5] z hr) w h), ?_⟩))
       refine TA.front 6 z z (TA.by (fun w h => Reach.takeN hz154 hm154 h) (TA.act 10 (by kernel_rfl) z z (OpOk.appendS z z Tryd.underlying76 sz110 by110 ze110 z z (by decide) z z z (.inr ⟨_, 1, z⟩) (by simpa using u62) (by decide) (fun a162 c163 => ⟨(fun w h => sees_of (Store.le.refl _) (fun r hr => (List.mem_cons_of_mem _ (List.mem_cons_of_mem _ (List.mem_cons_of_mem _ hr)))) w h), ?_⟩))))
       refine TA.know (isSl_nestX (q := 1) z zf133) (fun ⟨hs164, hs164b⟩ => ?_)
       refine TA.take 11 z (by kernel_rfl) (by kernel_rfl) (by kernel_rfl) (by kernel_rfl) z (OpVal.index z Tryd.underlying121 sz76 z z hs164 u63.1 u63.2) z z (TA.front 1 z z (TA.front 1 z z ?_))
       have hn166 : (l130.set (((nth x0.edges k134 Arrow.zero).frm).toNat) ((nth l130 (((nth x0.edges k134 Arrow.zero).frm).toNat) ([] : List Arrow)) ++ [(nth x0.edges k134 Arrow.zero)])).length = (List.replicate x0.states.toNat ([] : List Arrow)).length := (List.length_set ..).trans hn131
       refine TA.act 12 (by kernel_rfl) rfl rfl (OpOk.storeX (l' := ((nth l130 (((nth x0.edges k134 Arrow.zero).frm).toNat) ([] : List Arrow)) ++ [(nth x0.edges k134 Arrow.zero)])) rfl sz76 rfl rfl rfl rfl rfl (by rw [zf133.len]; omega) zf133 (fun zf165 => ⟨(fun w h => sees_of (Store.le.refl _) (fun r hr => (List.mem_cons_of_mem _ (List.mem_cons_of_mem _ hr))) w h), ?_⟩))
       refine TA.done (by kernel_rfl) (B.n (S.n (⟨by repeat (first | exact Agr.refl _ _ | exact Agr.mask | refine Agr.upd z ?_ | refine Agr.maskIn z ?_ | refine Agr.upds z ?_), ((), (z132.set (((nth x0.edges k134 Arrow.zero).frm).toNat) (((nth l130 (((nth x0.edges k134 Arrow.zero).frm).toNat) ([] : List Arrow)) ++ [(nth x0.edges k134 Arrow.zero)]), (a162, c163)))), ⟨hh, hn166, zf165⟩, by repeat (first | exact trivial | refine ⟨z, ?_⟩), Sub.front 6 z z (Sub.front 6 z z (Sub.front 6 z z (Sub.front 6 z z (Sub.pre 5 z)))), z⟩)))
      ·skip
       obtain ⟨p167, hz167, hm167⟩ := Zn.at zf133 (i := ((nth x0.edges k134 Arrow.zero).frm).toNat) (by omega)
       refine TA.act 7 (by kernel_rfl) z z (OpVal.ok (OpVal.loadN z ag76 z (q := 6) z hz167 hm167) z z ⟨(fun w h => sees_of (Store.le.refl _) (fun r hr => mem_pick [1, 2, 3, 4, 5] z hr) w h), ?_⟩)
       refine TA.front 6 z z (TA.by (fun w h => Reach.takeN hz167 hm167 h) (TA.act 10 (by kernel_rfl) z z (OpOk.appendS z z Tryd.underlying76 sz110 by110 ze110 z z (by decide) z z z (.inr ⟨_, 1, z⟩) (by simpa using u62) (by decide) (fun a169 c170 => ⟨(fun w h => sees_of (Store.le.refl _) (fun r hr => (List.mem_cons_of_mem _ (List.mem_cons_of_mem _ (List.mem_cons_of_mem _ hr)))) w h), ?_⟩))))
       refine TA.know (isSl_nestX (q := 1) z zf133) (fun ⟨hs171, hs171b⟩ => ?_)
       refine TA.take 11 z (by kernel_rfl) (by kernel_rfl) (by kernel_rfl) (by kernel_rfl) z (OpVal.index z Tryd.underlying121 sz76 z z hs171 u63.1 u63.2) z z (TA.front 1 z z (TA.front 1 z z ?_))
       have hn173 : (l130.set (((nth x0.edges k134 Arrow.zero).frm).toNat) ((nth l130 (((nth x0.edges k134 Arrow.zero).frm).toNat) ([] : List Arrow)) ++ [(nth x0.edges k134 Arrow.zero)])).length = (List.replicate x0.states.toNat ([] : List Arrow)).length := (List.length_set ..).trans hn131
       refine TA.act 12 (by kernel_rfl) rfl rfl (OpOk.storeX (l' := ((nth l130 (((nth x0.edges k134 Arrow.zero).frm).toNat) ([] : List Arrow)) ++ [(nth x0.edges k134 Arrow.zero)])) rfl sz76 rfl rfl rfl rfl rfl (by rw [zf133.len]; omega) zf133 (fun zf172 => ⟨(fun w h => sees_of (Store.le.refl _) (fun r hr => (List.mem_cons_of_mem _ (List.mem_cons_of_mem _ hr))) w h), ?_⟩))
       refine TA.done (by kernel_rfl) (B.n (S.n (⟨by repeat (first | exact Agr.refl _ _ | exact Agr.mask | refine Agr.upd z ?_ | refine Agr.maskIn z ?_ | refine Agr.upds z ?_), ((), (z132.set (((nth x0.edges k134 Arrow.zero).frm).toNat) (((nth l130 (((nth x0.edges k134 Arrow.zero).frm).toNat) ([] : List Arrow)) ++ [(nth x0.edges k134 Arrow.zero)]), (a169, c170)))), ⟨hh, hn173, zf172⟩, by repeat (first | exact trivial | refine ⟨z, ?_⟩), Sub.front 6 z z (Sub.front 6 z z (Sub.front 6 z z (Sub.front 6 z z (Sub.pre 5 z)))), z⟩)))
     ·skip
      obtain ⟨_, z138⟩ := g
      obtain ⟨hh, hn137, zf139⟩ := hg
      try dsimp only at hn137
      try dsimp only at zf139
      show TC _ _ _ (upds (mask _ j _) []) _ [Res.cells b101 #[.int .i64 x0.states, .slice a0_0 x0.starts.length c0_0, .slice a0_1 x0.ends.length c0_1, .slice a0_2 x0.edges.length c0_2] 78, Res.cells b103 #[.slice none 0 0, .slice none 0 0, .slice none 0 0] 26, Res.cells b105 #[.int .i64 0] 37, Res.cells b117 #[.slice a113 ((List.replicate x0.states.toNat ([] : List Arrow)).length) c114] 121, Res.nest 76 110 6 encE (.slice a113 (List.replicate x0.states.toNat ([] : List Arrow)).length c114) z138]
      dsimp only [dfa_Of_j1] at hh
      have hn137b := hn137
      have zf139b := zf139.len
      refine TC.know (isSl_nest (q := 4) z zf139) (fun ⟨_, hb174⟩ => ?_)
      refine TC.region (TL.v z (OpVal.succ z z z (by omega)) z z (TL.v z (OpVal.moveI (.inl z) z) z z (TL.nil (S.n ?_))))
      obtain ⟨hh, hlt175⟩ := nxt_x hR1 hh
      refine ⟨by repeat (first | exact Agr.refl _ _ | exact Agr.mask | refine Agr.upd z ?_ | refine Agr.maskIn z ?_ | refine Agr.upds z ?_), (((l130.set (((nth x0.edges k134 Arrow.zero).frm).toNat) ((nth l130 (((nth x0.edges k134 Arrow.zero).frm).toNat) ([] : List Arrow)) ++ [(nth x0.edges k134 Arrow.zero)])), (k134 + 1)), z138), hlt175, ⟨hh, hn137, zf139⟩, by repeat (first | exact trivial | refine ⟨z, ?_⟩), Sub.front 4 z z (Sub.front 4 z z (Sub.front 4 z z (Sub.front 4 z z (Sub.front 4 z z (Sub.pre 5 z))))), z⟩
    ·replace hh := iteO_f h136 hh
     replace h136 := of_decide_eq_false h136
     refine TC.exit (S.x (S.x ?_))
     replace hh := fin_x hR1 hh
     refine TC.exitHere (S.n (TC.seq (TC.region (TL.v z (OpVal.fieldLoc z fo78_0 z) z z (TL.v z (OpVal.loadLoc z ag3 z (i := 0) z z) z z ?_)))))
     have u69 := grd_c hh
     replace hh := grd_t hh
     refine TL.op rfl (OpOk.makeS2 (m := x0.states.toNat) (enc := encB) false rfl Tryd.underlying24 sz4 by4 ze4 rfl rfl (by show Value.int _ _ = _; rw [Int.toNat_of_nonneg u69.1]) (by show Value.int _ _ = _; rw [Int.toNat_of_nonneg u69.1]) (by omega) (by decide) encB_len (by decide) rfl encB_one (fun a176 c177 => ?_))
     refine TL.v z (OpVal.moveSl (.inr z) z) z z (TL.nil (S.n (TC.seq (TC.seq (TC.region (TL.v z (OpVal.fieldLoc z fo78_2 z) z z (TL.v z (OpVal.loadLoc z ag22 z (i := 1) z z) z z (TL.v z (OpVal.lenC z Tryd.underlying22 z) z z (TL.v z (OpVal.moveI (.inl z) z) z z ?_)))))))))
     refine TL.nil (S.n (TC.block (TC.loopG (α := ((List Bool) × Nat) × (Unit)) [12, 83, 84, 85, 86, 87, 88, 89, 90] (fun g => [(83, .int .i64 ((g.1.2 : Nat) : Int))]) (fun g => [Res.cells b101 #[.int .i64 x0.states, .slice a0_0 x0.starts.length c0_0, .slice a0_1 x0.ends.length c0_1, .slice a0_2 x0.edges.length c0_2] 78, Res.cells b103 #[.slice none 0 0, .slice none 0 0, .slice none 0 0] 26, Res.cells b105 #[.int .i64 0] 37, Res.cells b117 #[.slice a113 ((List.replicate x0.states.toNat ([] : List Arrow)).length) c114] 121, Res.nest 76 110 6 encE (.slice a113 (List.replicate x0.states.toNat ([] : List Arrow)).length c114) z132, Res.rowS 4 1 encB (.slice a176 (List.replicate x0.states.toNat false).length c177) g.1.1]) (fun g => τ111) (fun g => iter (fun q : (List Bool) × Nat => dfa_Of_b2 x0 v13 l130 v26 q.1 q.2) g.1 = some r ∧ l130.length = (List.replicate x0.states.toNat ([] : List Arrow)).length ∧ Zn z132 l130 ∧ g.1.1.length = (List.replicate x0.states.toNat false).length) (fun g => rounds (fun q : (List Bool) × Nat => dfa_Of_b2 x0 v13 l130 v26 q.1 q.2) g.1) (((List.replicate x0.states.toNat false), 0), ()) (Sub.front 5 z z (Sub.front 5 z z (Sub.front 5 z z (Sub.front 5 z z (Sub.front 5 z z (Sub.pre 6 z)))))) z (by repeat (first | exact trivial | refine ⟨z, ?_⟩)) ⟨hh, hn131, zf133, z⟩ (fun g2 j2 hg2 => ?_))))
     obtain ⟨⟨l193, k195⟩, _⟩ := g2
     obtain ⟨hh, hn191, zf192, hn194⟩ := hg2
     try dsimp only at hn191
     try dsimp only at zf192
     try dsimp only at hn194
     show TC _ _ _ (upds (mask _ j2 _) [(83, .int .i64 ((k195 : Nat) : Int))]) _ [Res.cells b101 #[.int .i64 x0.states, .slice a0_0 x0.starts.length c0_0, .slice a0_1 x0.ends.length c0_1, .slice a0_2 x0.edges.length c0_2] 78, Res.cells b103 #[.slice none 0 0, .slice none 0 0, .slice none 0 0] 26, Res.cells b105 #[.int .i64 0] 37, Res.cells b117 #[.slice a113 ((List.replicate x0.states.toNat ([] : List Arrow)).length) c114] 121, Res.nest 76 110 6 encE (.slice a113 (List.replicate x0.states.toNat ([] : List Arrow)).length c114) z132, Res.rowS 4 1 encB (.slice a176 (List.replicate x0.states.toNat false).length c177) l193]
     obtain ⟨z1, hh, hR1⟩ := iter_e hh
     dsimp only [dfa_Of_b2] at hh
     have hn191b := hn191
     have zf192b := zf192.len
     have hn194b := hn194
     refine TC.know (isSl_nest (q := 4) z zf192) (fun ⟨_, hb196⟩ => ?_)
     refine TC.isSl (i := 5) z (fun _ hb197 _ => ?_)
     refine TC.seq (TC.region (TL.v z (OpVal.lss z z z) z z (TL.nil (S.n (TC.seq (TC.cond z (fun h198 => ?_) (fun h198 => ?_)))))))
     ·replace hh := iteO_t h198 hh
      replace h198 := of_decide_eq_true h198
      refine TC.skip (S.n (TC.seq (TC.block (TC.seq (TC.region (TL.v z (OpVal.indexN z Tryd.underlying22 sz3 z z f0_1.rv.sl (by omega)) z z (TL.v z (OpVal.loadS1 (0 : Int) z ag3 z f0_1 (by omega) z) z z (TL.v z (OpVal.moveI (.inr z) z) z z (TL.nil ?_)))))))))
      refine S.n (TC.region (TL.v z (OpVal.moveSl (.inl z) z) z z (TL.v z (OpVal.moveI (.inl z) z) z z ?_)))
      have u81 := grd_c hh
      replace hh := grd_t hh
      refine TL.isSl (i := 5) z (fun hs199 _ _ => ?_)
      refine TL.v z (OpVal.index z Tryd.underlying24 sz4 z z hs199 u81.1 u81.2) z z (TL.front 5 z z ?_)
      have hn200 : (l193.set ((nth x0.ends k195 (0 : Int)).toNat) true).length = (List.replicate x0.states.toNat false).length := by rw [List.length_set]; exact hn194
      refine TL.op z (OpOk.storeS true z sz4 z z z z encB_len encB_one (by omega) (by omega) ?_)
      refine TL.nil (B.n (S.n (TC.region (TL.v z (OpVal.succ z z z (by omega)) z z (TL.v z (OpVal.moveI (.inl z) z) z z (TL.nil (S.n ?_)))))))
      obtain ⟨hh, hlt201⟩ := nxt_x hR1 hh
      refine ⟨by repeat (first | exact Agr.refl _ _ | exact Agr.mask | refine Agr.upd z ?_ | refine Agr.maskIn z ?_ | refine Agr.upds z ?_), (((l193.set ((nth x0.ends k195 (0 : Int)).toNat) true), (k195 + 1)), ()), hlt201, ⟨hh, hn191, zf192, hn200⟩, by repeat (first | exact trivial | refine ⟨z, ?_⟩), Sub.front 5 z z (Sub.front 5 z z (Sub.front 5 z z (Sub.front 5 z z (Sub.front 5 z z (Sub.pre 6 z))))), z⟩
     ·replace hh := iteO_f h198 hh
      replace h198 := of_decide_eq_false h198
      refine TC.exit (S.x (S.x ?_))
      replace hh := fin_x hR1 hh
      refine TC.exitHere (S.n (TC.seq (TC.region ?_)))
      obtain ⟨v85, u85, hh⟩ := bnd_e hh
      refine TL.op z (OpOk.call (intern_New_con u85) z z pf51 z z z z ?_)
      rintro _ τ202 _ hle202 ⟨b202_1, a202_2, c202_3, z202_4, b202_6, rfl, zf202_5, rfl⟩
      replace f0_0 := f0_0.mono hle202
      replace f0_1 := f0_1.mono hle202
      replace f0_2 := f0_2.mono hle202
      replace hgl := hgl.mono hle202
      replace hr108_0 := hr108_0.mono hle202
      replace hr109_0 := hr109_0.mono hle202
      replace hr111_0 := hr111_0.mono hle202
      have zf202_5b := zf202_5.length
      refine TL.op z (OpOk.alloc z ze122 z z (fun b206 => ?_))
      refine TL.op z (OpOk.storeLoc z sz122 z z z z z ?_)
      refine TL.nil (S.n (TC.seq (TC.seq (TC.region (TL.v z (OpVal.loadLoc z ag122 z (i := 0) z z) z z (TL.v z (OpVal.fieldLoc z fo78_1 z) z z (TL.v z (OpVal.loadLoc z ag22 z (i := 4) z z) z z (TL.front 3 z z (TL.front 3 z z ?_)))))))))
      refine TL.front 3 z z ?_
      obtain ⟨v91, u91, hh⟩ := bnd_e hh
      refine TL.op z (OpOk.call (intern_Table_Put_con zf202_5 f0_0 u91) z z pf52 z z z z ?_)
      rintro _ τ208 _ hle208 ⟨a208_1, c208_2, z208_3, b208_5, rfl, zf208_4, rfl⟩
      replace f0_0 := f0_0.mono hle208
      replace f0_1 := f0_1.mono hle208
      replace f0_2 := f0_2.mono hle208
      replace hgl := hgl.mono hle208
      replace hr108_0 := hr108_0.mono hle208
      replace hr109_0 := hr109_0.mono hle208
      replace hr111_0 := hr111_0.mono hle208
      replace zf202_5 := zf202_5.mono hle208
      have zf208_4b := zf208_4.length
      refine TL.v z (OpVal.moveT (.inl z) z) z z (TL.v z (OpVal.extract z z z) z z (TL.v z (OpVal.extract z z z) z z (TL.v z (OpVal.extract z z z) z z (TL.v z (OpVal.moveI (.inr z) z) z z (TL.v z (OpVal.moveB (.inr z) z) z z (TL.v z (OpVal.moveI (.inr z) z) z z (TL.nil (S.n (TC.seq ?_)))))))))
      refine TC.region (TL.v z (OpVal.moveI (.inl z) z) z z (TL.v z (OpVal.neq z z z) z z (TL.nil (S.n (TC.cond z (fun h211 => ?_) (fun h211 => ?_))))))
      ·replace hh := iteO_t h211 hh
       replace h211 := of_decide_eq_true h211
       refine TC.seq (TC.region (TL.v z (OpVal.buildL z pl26 ze26 z) z z (TL.v z (OpVal.moveI (.inl z) z) z z (TL.front 5 z z (TL.op z (OpOk.storeAll z sz26 z z z z z z ?_))))))
       refine TL.front 6 z z (TL.op z (OpOk.storeI z sz37 z z z z z ?_))
       refine TL.nil (S.n (TC.ofSub (Sub.front 1 z z (Sub.pre 2 z)) (TC.ret (S.r ?_))))
       obtain rfl := Option.some.inj hh
       exact RetOk.mk' (rs := [.cell 2 26, .cell 3 37]) [] z (.inl z) (RVs.agg ag26 sz26 z (i := 0) z z (RVs.one ag37 z (i := 1) z z RVs.nil)) (List.sublist_append_left _ _) ⟨none, 0, none, 0, none, 0, z, (RS.nilF _ Go.E.encI Go.E.encI_len), (RZ.nilF _ (pkSl 1 Go.E.encI Go.E.encI_len)), (RS.nilF _ encB encB_len), z⟩
      ·replace hh := iteO_f h211 hh
       replace h211 := of_decide_eq_false h211
       refine TC.skip (S.n (TC.seq (TC.region (TL.v z (OpVal.moveSl (.inl z) z) z z (TL.v z (OpVal.buildL z pl26 ze26 z) z z (TL.op z (OpOk.alloc z ze26 z z (fun b212 => ?_))))))))
       refine TL.op z (OpOk.storeAll z sz26 z z z z z z ?_)
       refine TL.nil (S.n (TC.seq (TC.seq (TC.region (TL.v z (OpVal.moveI (.inr z) z) z z (TL.nil (S.n (TC.block ?_))))))))
       rw [← hn191]
       refine TC.front 9 z z (TC.seals (fun w h => Reach.sealNest encE_len zf192 h) (fun τ289 hle288 hr287 => ?_))
       replace f0_0 := f0_0.mono hle288
       replace f0_1 := f0_1.mono hle288
       replace f0_2 := f0_2.mono hle288
       replace hgl := hgl.mono hle288
       replace hr108_0 := hr108_0.mono hle288
       replace hr109_0 := hr109_0.mono hle288
       replace hr111_0 := hr111_0.mono hle288
       replace zf202_5 := zf202_5.mono hle288
       replace zf208_4 := zf208_4.mono hle288
       have hr287b := hr287.big
       refine TC.nilS 22 1 (pkSl 1 Go.E.encI Go.E.encI_len).en ?_
       have zf290 := ZOk.nil τ289 (pkSl 1 Go.E.encI Go.E.encI_len)
       refine TC.nilS 4 1 encB (TC.loopG (α := (Int × (List (List Int)) × (FM (List UInt8) Int) × (List (List Int)) × (List Bool) × Nat) × ((Option Addr) × Nat × (List (List Int × (pkSl 1 Go.E.encI Go.E.encI_len).P)) × Nat × (Option Addr) × Nat × (List (List Int × (pkSl 1 Go.E.encI Go.E.encI_len).P)) × (Option Addr) × Nat × Store)) [18, 19, 20, 21, 23, 24, 106, 107, 108, 109, 110, 111, 112, 113, 114, 115, 116, 117, 118, 119, 120, 121, 122, 123, 124, 125, 126, 127, 128, 129, 130, 131, 132, 133, 134, 135, 136, 137, 138, 139, 140, 164, 165, 166, 167, 168, 169, 170, 171, 172, 173, 174, 175] (fun g => [(18, .int .i64 ((g.1.2.2.2.2.2 : Nat) : Int))]) (fun g => [Res.cells b103 #[.slice none 0 0, .slice none 0 0, .slice none 0 0] 26, Res.cells b105 #[.int .i64 g.1.1] 37, Res.cells b117 #[.slice a113 l130.length c114] 121, Res.rowS 4 1 encB (.slice a176 (List.replicate x0.states.toNat false).length c177) l193, Res.cells b206 #[loc b202_1 0] 122, Res.cells b202_1 #[.slice g.2.1 g.1.2.1.length g.2.2.1, .map (some g.2.2.2.2.1)] 147, Res.rowS 22 1 (pkSl 1 Go.E.encI Go.E.encI_len).en (.slice g.2.1 g.1.2.1.length g.2.2.1) g.2.2.2.1, Res.mapB keyS keyI (some g.2.2.2.2.1) g.1.2.2.1, Res.cells b212 #[.slice a111_1 v26.1.length c111_1, .slice g.2.2.2.2.2.1 g.1.2.2.2.1.length g.2.2.2.2.2.2.1, .slice g.2.2.2.2.2.2.2.2.1 g.1.2.2.2.2.1.length g.2.2.2.2.2.2.2.2.2.1] 26, Res.rowS 22 1 (pkSl 1 Go.E.encI Go.E.encI_len).en (.slice g.2.2.2.2.2.1 g.1.2.2.2.1.length g.2.2.2.2.2.2.1) g.2.2.2.2.2.2.2.1, Res.rowS 4 1 encB (.slice g.2.2.2.2.2.2.2.2.1 g.1.2.2.2.2.1.length g.2.2.2.2.2.2.2.2.2.1) g.1.2.2.2.2.1]) (fun g => g.2.2.2.2.2.2.2.2.2.2) (fun g => iter (fun q : Int × (List (List Int)) × (FM (List UInt8) Int) × (List (List Int)) × (List Bool) × Nat => dfa_Of_b3 l193 v13 l130 v26 q.1 q.2.1 q.2.2.1 q.2.2.2.1 q.2.2.2.2.1 q.2.2.2.2.2) g.1 = some r ∧ RZ g.2.2.2.2.2.2.2.2.2.2 (pkSl 6 encE encE_len) (.slice a113 l130.length c114) l130 ∧ l193.length = (List.replicate x0.states.toNat false).length ∧ ZOk g.2.2.2.2.2.2.2.2.2.2 (pkSl 1 Go.E.encI Go.E.encI_len) g.2.2.2.1 g.1.2.1 ∧ ZOk g.2.2.2.2.2.2.2.2.2.2 (pkSl 1 Go.E.encI Go.E.encI_len) g.2.2.2.2.2.2.2.1 g.1.2.2.2.1 ∧ Store.le τ289 g.2.2.2.2.2.2.2.2.2.2) (fun g => rounds (fun q : Int × (List (List Int)) × (FM (List UInt8) Int) × (List (List Int)) × (List Bool) × Nat => dfa_Of_b3 l193 v13 l130 v26 q.1 q.2.1 q.2.2.1 q.2.2.2.1 q.2.2.2.2.1 q.2.2.2.2.2) g.1) ((0, v91.2.2.2.of.rows, v91.2.2.2.of.places, ([] : List (List Int)), ([] : List Bool), 0), (a208_1, c208_2, z208_3, b208_5, none, 0, [], none, 0, τ289)) (Sub.front 1 z z (Sub.front 2 z z (Sub.front 5 z z (Sub.front 5 z z (Sub.front 5 z z (Sub.front 6 z z (Sub.front 11 z z (Sub.front 11 z z (Sub.front 11 z z (Sub.front 11 z z (Sub.pre 11 z))))))))))) z (by repeat (first | exact trivial | refine ⟨z, ?_⟩)) ⟨hh, hr287, hn194, zf208_4, zf290, (Store.le.refl _)⟩ (fun g3 j3 hg3 => ?_))
       obtain ⟨⟨i264, l268, m274, l277, l283, k286⟩, ⟨a269, c270, z271, b275, a278, c279, z280, a284, c285, τ293⟩⟩ := g3
       obtain ⟨hh, hr265, hn266, zf272, zf281, hle294⟩ := hg3
       try dsimp only at hr265
       try dsimp only at hn266
       try dsimp only at zf272
       try dsimp only at zf281
       dsimp only at hle294
       replace f0_0 := f0_0.mono hle294
       replace f0_1 := f0_1.mono hle294
       replace f0_2 := f0_2.mono hle294
       replace hgl := hgl.mono hle294
       replace hr108_0 := hr108_0.mono hle294
       replace hr109_0 := hr109_0.mono hle294
       replace hr111_0 := hr111_0.mono hle294
       replace zf202_5 := zf202_5.mono hle294
       replace zf208_4 := zf208_4.mono hle294
       replace hr287 := hr287.mono hle294
       replace zf290 := zf290.mono hle294
       show TC _ _ _ (upds (mask _ j3 _) [(18, .int .i64 ((k286 : Nat) : Int))]) τ293 [Res.cells b103 #[.slice none 0 0, .slice none 0 0, .slice none 0 0] 26, Res.cells b105 #[.int .i64 i264] 37, Res.cells b117 #[.slice a113 l130.length c114] 121, Res.rowS 4 1 encB (.slice a176 (List.replicate x0.states.toNat false).length c177) l193, Res.cells b206 #[loc b202_1 0] 122, Res.cells b202_1 #[.slice a269 l268.length c270, .map (some b275)] 147, Res.rowS 22 1 (pkSl 1 Go.E.encI Go.E.encI_len).en (.slice a269 l268.length c270) z271, Res.mapB keyS keyI (some b275) m274, Res.cells b212 #[.slice a111_1 v26.1.length c111_1, .slice a278 l277.length c279, .slice a284 l283.length c285] 26, Res.rowS 22 1 (pkSl 1 Go.E.encI Go.E.encI_len).en (.slice a278 l277.length c279) z280, Res.rowS 4 1 encB (.slice a284 l283.length c285) l283]
       obtain ⟨z1, hh, hR1⟩ := iter_e hh
       dsimp only [dfa_Of_b3] at hh
       have hr265b := hr265.big
       have hn266b := hn266
       have zf272b := zf272.length
       have zf281b := zf281.length
       refine TC.isSl (i := 3) z (fun _ hb295 _ => ?_)
       refine TC.isSl (i := 6) z (fun _ hb296 _ => ?_)
       refine TC.isSl (i := 9) z (fun _ hb297 _ => ?_)
       refine TC.isSl (i := 10) z (fun _ hb298 _ => ?_)
       refine TC.seq (TC.seq (TC.region (TL.v z (OpVal.moveI (.inl z) z) z z (TL.v z (OpVal.loadLoc z ag122 z (i := 4) z z) z z (TL.front 7 z z (TL.front 7 z z (TL.front 7 z z ?_)))))))
       obtain ⟨v112, u112, hh⟩ := bnd_e hh
       refine TL.op z (OpOk.call (intern_Table_Size_con zf272 u112) z z pf53 z z z z ?_)
       rintro _ _ _ hle299 ⟨rfl, rfl, rfl⟩
       refine TL.v z (OpVal.lss z z z) z z (TL.nil (S.n (TC.cond z (fun h300 => ?_) (fun h300 => ?_))))
       ·replace hh := iteO_t h300 hh
        replace h300 := of_decide_eq_true h300
        refine TC.skip (S.n (TC.seq (TC.block (TC.seq (TC.region (TL.v z (OpVal.loadLoc z ag122 z (i := 7) z z) z z (TL.v z (OpVal.moveI (.inl z) z) z z (TL.front 2 z z (TL.front 2 z z ?_)))))))))
        refine TL.front 2 z z ?_
        obtain ⟨v116, u116, hh⟩ := bnd_e hh
        refine TL.op z (OpOk.call (intern_Table_Row_con zf272 u116) z z pf54 z z z z ?_)
        rintro _ _ _ hle301 ⟨a301_1, c301_2, rfl, rfl, rfl⟩
        refine TL.v z (OpVal.moveT (.inl z) z) z z (TL.v z (OpVal.extract z z z) z z (TL.v z (OpVal.extract z z z) z z (TL.op z (OpOk.alloc z ze22 z z (fun b303 => ?_)))))
        refine TL.op z (OpOk.storeSl z sz22 z z z z z ?_)
        refine TL.v z (OpVal.moveI (.inr z) z) z z (TL.nil (S.n (TC.seq (TC.seq (TC.region (TL.v z (OpVal.moveI (.inl z) z) z z (TL.v z (OpVal.neq z z z) z z (TL.nil (S.n ?_)))))))))
        refine TC.cond z (fun h305 => ?_) (fun h305 => ?_)
        ·replace hh := iteO_t h305 hh
         replace h305 := of_decide_eq_true h305
         refine TC.seq (TC.region (TL.v z (OpVal.buildL z pl26 ze26 z) z z (TL.v z (OpVal.moveI (.inl z) z) z z (TL.front 5 z z (TL.op z (OpOk.storeAll z sz26 z z z z z z ?_))))))
         refine TL.front 6 z z (TL.op z (OpOk.storeI z sz37 z z z z z ?_))
         refine TL.nil (S.n (TC.ofSub (Sub.front 1 z z (Sub.pre 2 z)) (TC.ret (S.r (B.r (S.r (S.r ?_)))))))
         replace hh := fin_x hR1 hh
         refine B.r (S.r ?_)
         obtain rfl := Option.some.inj hh
         exact RetOk.mk' (rs := [.cell 2 26, .cell 3 37]) [] z (.inl z) (RVs.agg ag26 sz26 z (i := 0) z z (RVs.one ag37 z (i := 1) z z RVs.nil)) (List.sublist_append_left _ _) ⟨none, 0, none, 0, none, 0, z, (RS.nilF _ Go.E.encI Go.E.encI_len), (RZ.nilF _ (pkSl 1 Go.E.encI Go.E.encI_len)), (RS.nilF _ encB encB_len), z⟩
        ·replace hh := iteO_f h305 hh
         replace h305 := of_decide_eq_false h305
         refine TC.skip (S.n (TC.seq (TC.region (TL.v z (OpVal.moveB (.inr z) z) z z (TL.nil (S.n (TC.seq (TC.seq (TC.region ?_)))))))))
         refine TL.v z (OpVal.loadLoc z ag22 z (i := 0) z z) z z (TL.v z (OpVal.lenC z Tryd.underlying22 z) z z (TL.v z (OpVal.moveI (.inl z) z) z z (TL.nil (S.n (TC.block (TC.loopG (α := (Bool × Nat) × (Store)) [21, 23, 124, 125, 126, 127, 128, 129, 130, 131, 132, 133, 134, 135] (fun g => [(21, .bool g.1.1), (124, .int .i64 ((g.1.2 : Nat) : Int))]) (fun g => [Res.cells b103 #[.slice none 0 0, .slice none 0 0, .slice none 0 0] 26, Res.cells b105 #[.int .i64 i264] 37, Res.cells b117 #[.slice a113 l130.length c114] 121, Res.rowS 4 1 encB (.slice a176 (List.replicate x0.states.toNat false).length c177) l193, Res.cells b206 #[loc b202_1 0] 122, Res.cells b202_1 #[.slice a269 l268.length c270, .map (some b275)] 147, Res.rowS 22 1 (pkSl 1 Go.E.encI Go.E.encI_len).en (.slice a269 l268.length c270) z271, Res.mapB keyS keyI (some b275) m274, Res.cells b212 #[.slice a111_1 v26.1.length c111_1, .slice a278 l277.length c279, .slice a284 l283.length c285] 26, Res.rowS 22 1 (pkSl 1 Go.E.encI Go.E.encI_len).en (.slice a278 l277.length c279) z280, Res.rowS 4 1 encB (.slice a284 l283.length c285) l283, Res.cells b303 #[.slice a301_1 v116.1.length c301_2] 22, Res.rowS 3 1 Go.E.encI (.slice a301_1 v116.1.length c301_2) v116.1]) (fun g => g.2) (fun g => iter (fun q : Bool × Nat => dfa_Of_b4 v116 l193 v13 l130 i264 l268 m274 l277 l283 k286 q.1 q.2) g.1 = some z1 ∧ l193.length = (List.replicate x0.states.toNat false).length ∧ ZOk g.2 (pkSl 1 Go.E.encI Go.E.encI_len) z271 l268 ∧ ZOk g.2 (pkSl 1 Go.E.encI Go.E.encI_len) z280 l277 ∧ Store.le τ293 g.2) (fun g => rounds (fun q : Bool × Nat => dfa_Of_b4 v116 l193 v13 l130 i264 l268 m274 l277 l283 k286 q.1 q.2) g.1) ((false, 0), τ293) (Sub.front 1 z z (Sub.front 1 z z (Sub.front 12 z z (Sub.front 12 z z (Sub.front 12 z z (Sub.front 7 z z (Sub.front 7 z z (Sub.front 7 z z (Sub.front 12 z z (Sub.front 12 z z (Sub.front 12 z z (Sub.front 12 z z (Sub.front 12 z z (Sub.pre 13 z)))))))))))))) z (by repeat (first | exact trivial | refine ⟨z, ?_⟩)) ⟨hh, hn266, zf272, zf281, (Store.le.refl _)⟩ (fun g4 j4 hg4 => ?_)))))))
         obtain ⟨⟨t322, k323⟩, τ324⟩ := g4
         obtain ⟨hh, hn319, zf320, zf321, hle325⟩ := hg4
         try dsimp only at hn319
         try dsimp only at zf320
         try dsimp only at zf321
         dsimp only at hle325
         replace f0_0 := f0_0.mono hle325
         replace f0_1 := f0_1.mono hle325
         replace f0_2 := f0_2.mono hle325
         replace hgl := hgl.mono hle325
         replace hr108_0 := hr108_0.mono hle325
         replace hr109_0 := hr109_0.mono hle325
         replace hr111_0 := hr111_0.mono hle325
         replace zf202_5 := zf202_5.mono hle325
         replace zf208_4 := zf208_4.mono hle325
         replace hr287 := hr287.mono hle325
         replace zf290 := zf290.mono hle325
         replace hr265 := hr265.mono hle325
         replace zf272 := zf272.mono hle325
         replace zf281 := zf281.mono hle325
         show TC _ _ _ (upds (mask _ j4 _) [(21, .bool t322), (124, .int .i64 ((k323 : Nat) : Int))]) τ324 [Res.cells b103 #[.slice none 0 0, .slice none 0 0, .slice none 0 0] 26, Res.cells b105 #[.int .i64 i264] 37, Res.cells b117 #[.slice a113 l130.length c114] 121, Res.rowS 4 1 encB (.slice a176 (List.replicate x0.states.toNat false).length c177) l193, Res.cells b206 #[loc b202_1 0] 122, Res.cells b202_1 #[.slice a269 l268.length c270, .map (some b275)] 147, Res.rowS 22 1 (pkSl 1 Go.E.encI Go.E.encI_len).en (.slice a269 l268.length c270) z271, Res.mapB keyS keyI (some b275) m274, Res.cells b212 #[.slice a111_1 v26.1.length c111_1, .slice a278 l277.length c279, .slice a284 l283.length c285] 26, Res.rowS 22 1 (pkSl 1 Go.E.encI Go.E.encI_len).en (.slice a278 l277.length c279) z280, Res.rowS 4 1 encB (.slice a284 l283.length c285) l283, Res.cells b303 #[.slice a301_1 v116.1.length c301_2] 22, Res.rowS 3 1 Go.E.encI (.slice a301_1 v116.1.length c301_2) v116.1]
         obtain ⟨z2, hh, hR2⟩ := iter_e hh
         dsimp only [dfa_Of_b4] at hh
         have hn319b := hn319
         have zf320b := zf320.length
         have zf321b := zf321.length
         refine TC.isSl (i := 3) z (fun _ hb326 _ => ?_)
         refine TC.isSl (i := 6) z (fun _ hb327 _ => ?_)
         refine TC.isSl (i := 9) z (fun _ hb328 _ => ?_)
         refine TC.isSl (i := 10) z (fun _ hb329 _ => ?_)
         refine TC.isSl (i := 12) z (fun _ hb330 _ => ?_)
         refine TC.seq (TC.region (TL.v z (OpVal.lss z z z) z z (TL.nil (S.n (TC.seq (TC.cond z (fun h331 => ?_) (fun h331 => ?_)))))))
         ·replace hh := iteO_t h331 hh
          replace h331 := of_decide_eq_true h331
          refine TC.skip (S.n (TC.cutG (α := (Bool) × (Store)) [21, 23, 126, 127, 128, 129, 130, 131, 132, 133, 134] (fun g => [(21, .bool g.1)]) (fun g => [Res.cells b103 #[.slice none 0 0, .slice none 0 0, .slice none 0 0] 26, Res.cells b105 #[.int .i64 i264] 37, Res.cells b117 #[.slice a113 l130.length c114] 121, Res.rowS 4 1 encB (.slice a176 (List.replicate x0.states.toNat false).length c177) l193, Res.cells b206 #[loc b202_1 0] 122, Res.cells b202_1 #[.slice a269 l268.length c270, .map (some b275)] 147, Res.rowS 22 1 (pkSl 1 Go.E.encI Go.E.encI_len).en (.slice a269 l268.length c270) z271, Res.mapB keyS keyI (some b275) m274, Res.cells b212 #[.slice a111_1 v26.1.length c111_1, .slice a278 l277.length c279, .slice a284 l283.length c285] 26, Res.rowS 22 1 (pkSl 1 Go.E.encI Go.E.encI_len).en (.slice a278 l277.length c279) z280, Res.rowS 4 1 encB (.slice a284 l283.length c285) l283, Res.cells b303 #[.slice a301_1 v116.1.length c301_2] 22, Res.rowS 3 1 Go.E.encI (.slice a301_1 v116.1.length c301_2) v116.1]) (fun g => g.2) (fun g => dfa_Of_j2 k323 g.1 = some z2 ∧ l193.length = (List.replicate x0.states.toNat false).length ∧ ZOk g.2 (pkSl 1 Go.E.encI Go.E.encI_len) z271 l268 ∧ ZOk g.2 (pkSl 1 Go.E.encI Go.E.encI_len) z280 l277 ∧ Store.le τ324 g.2) ?_ (fun g j hg => ?_)))
          ·skip
           refine TC.block (TC.seq (TC.region (TL.isSl (i := 12) z (fun hs336 _ _ => ?_))))
           refine TL.v z (OpVal.indexN z Tryd.underlying22 sz3 z z hs336 (by omega)) z z (TL.v z (OpVal.loadO1 (0 : Int) z ag3 z (q := 12) z Go.E.encI_len (by omega) z) z z (TL.v z (OpVal.moveI (.inr z) z) z z (TL.nil (S.n (TC.region (TL.v z (OpVal.moveB (.inl z) z) z z (TL.v z (OpVal.moveB (.inl z) z) z z (TL.split 129 z (fun h337 => ?_) (fun h337 => ?_)))))))))
           ·replace hh := iteO_t h337 hh
            refine TL.goff z z z z z z z z (TL.goff z z z z z z z z (TL.goff z z z z z z z z (TL.goff z z z z z z z z (TL.v z (OpVal.pickTB z z z) z z (TL.v z (OpVal.moveB (.inr z) z) z z (TL.nil (B.n (S.n (⟨by repeat (first | exact Agr.refl _ _ | exact Agr.mask | refine Agr.upd z ?_ | refine Agr.maskIn z ?_ | refine Agr.upds z ?_), (true, τ324), ⟨hh, hn319, zf320, zf321, (Store.le.refl _)⟩, by repeat (first | exact trivial | refine ⟨z, ?_⟩), Sub.front 12 z z (Sub.front 12 z z (Sub.front 12 z z (Sub.front 12 z z (Sub.front 12 z z (Sub.front 12 z z (Sub.front 12 z z (Sub.front 12 z z (Sub.front 12 z z (Sub.front 12 z z (Sub.front 12 z z (Sub.front 12 z z (Sub.front 12 z z (Sub.pre 13 z))))))))))))), z⟩)))))))))
           ·replace hh := iteO_f h337 hh
            refine TL.gv z z z z z (OpVal.moveSl (.inl z) z) z z (TL.gv z z z z z (OpVal.moveI (.inl z) z) z z ?_)
            have u141 := grd_c hh
            replace hh := grd_t hh
            refine TL.isSl (i := 3) z (fun hs338 _ _ => ?_)
            refine TL.gv z z z z z (OpVal.index z Tryd.underlying24 sz4 z z hs338 u141.1 u141.2) z z (TL.gv z z z z z (OpVal.loadO1 false z ag4 z (q := 3) z encB_len (by omega) z) z z (TL.v z (OpVal.pickFB z z z) z z (TL.v z (OpVal.moveB (.inr z) z) z z (TL.nil (B.n (S.n (⟨by repeat (first | exact Agr.refl _ _ | exact Agr.mask | refine Agr.upd z ?_ | refine Agr.maskIn z ?_ | refine Agr.upds z ?_), ((nth l193 ((nth v116.1 k323 (0 : Int)).toNat) false), τ324), ⟨hh, hn319, zf320, zf321, (Store.le.refl _)⟩, by repeat (first | exact trivial | refine ⟨z, ?_⟩), Sub.front 12 z z (Sub.front 12 z z (Sub.front 12 z z (Sub.front 12 z z (Sub.front 12 z z (Sub.front 12 z z (Sub.front 12 z z (Sub.front 12 z z (Sub.front 12 z z (Sub.front 12 z z (Sub.front 12 z z (Sub.front 12 z z (Sub.front 12 z z (Sub.pre 13 z))))))))))))), z⟩)))))))
          ·skip
           obtain ⟨t335, τ339⟩ := g
           obtain ⟨hh, hn332, zf333, zf334, hle340⟩ := hg
           try dsimp only at hn332
           try dsimp only at zf333
           try dsimp only at zf334
           dsimp only at hle340
           replace f0_0 := f0_0.mono hle340
           replace f0_1 := f0_1.mono hle340
           replace f0_2 := f0_2.mono hle340
           replace hgl := hgl.mono hle340
           replace hr108_0 := hr108_0.mono hle340
           replace hr109_0 := hr109_0.mono hle340
           replace hr111_0 := hr111_0.mono hle340
           replace zf202_5 := zf202_5.mono hle340
           replace zf208_4 := zf208_4.mono hle340
           replace hr287 := hr287.mono hle340
           replace zf290 := zf290.mono hle340
           replace hr265 := hr265.mono hle340
           replace zf272 := zf272.mono hle340
           replace zf281 := zf281.mono hle340
           replace zf320 := zf320.mono hle340
           replace zf321 := zf321.mono hle340
           show TC _ _ _ (upds (mask _ j _) [(21, .bool t335)]) τ339 [Res.cells b103 #[.slice none 0 0, .slice none 0 0, .slice none 0 0] 26, Res.cells b105 #[.int .i64 i264] 37, Res.cells b117 #[.slice a113 l130.length c114] 121, Res.rowS 4 1 encB (.slice a176 (List.replicate x0.states.toNat false).length c177) l193, Res.cells b206 #[loc b202_1 0] 122, Res.cells b202_1 #[.slice a269 l268.length c270, .map (some b275)] 147, Res.rowS 22 1 (pkSl 1 Go.E.encI Go.E.encI_len).en (.slice a269 l268.length c270) z271, Res.mapB keyS keyI (some b275) m274, Res.cells b212 #[.slice a111_1 v26.1.length c111_1, .slice a278 l277.length c279, .slice a284 l283.length c285] 26, Res.rowS 22 1 (pkSl 1 Go.E.encI Go.E.encI_len).en (.slice a278 l277.length c279) z280, Res.rowS 4 1 encB (.slice a284 l283.length c285) l283, Res.cells b303 #[.slice a301_1 v116.1.length c301_2] 22, Res.rowS 3 1 Go.E.encI (.slice a301_1 v116.1.length c301_2) v116.1]
           dsimp only [dfa_Of_j2] at hh
           have hn332b := hn332
           have zf333b := zf333.length
           have zf334b := zf334.length
           refine TC.isSl (i := 3) z (fun _ hb341 _ => ?_)
           refine TC.isSl (i := 6) z (fun _ hb342 _ => ?_)
           refine TC.isSl (i := 9) z (fun _ hb343 _ => ?_)
           refine TC.isSl (i := 10) z (fun _ hb344 _ => ?_)
           refine TC.isSl (i := 12) z (fun _ hb345 _ => ?_)
           refine TC.region (TL.v z (OpVal.succ z z z (by omega)) z z (TL.v z (OpVal.moveI (.inl z) z) z z (TL.nil (S.n ?_))))
           obtain ⟨hh, hlt346⟩ := nxt_x hR2 hh
           refine ⟨by repeat (first | exact Agr.refl _ _ | exact Agr.mask | refine Agr.upd z ?_ | refine Agr.maskIn z ?_ | refine Agr.upds z ?_), ((t335, (k323 + 1)), τ339), hlt346, ⟨hh, hn332, zf333, zf334, (hle325.trans hle340)⟩, by repeat (first | exact trivial | refine ⟨z, ?_⟩), Sub.front 12 z z (Sub.front 12 z z (Sub.front 12 z z (Sub.front 12 z z (Sub.front 12 z z (Sub.front 12 z z (Sub.front 12 z z (Sub.front 12 z z (Sub.front 12 z z (Sub.front 12 z z (Sub.front 12 z z (Sub.front 12 z z (Sub.front 12 z z (Sub.pre 13 z))))))))))))), z⟩
         ·replace hh := iteO_f h331 hh
          replace h331 := of_decide_eq_false h331
          refine TC.exit (S.x (S.x ?_))
          replace hh := fin_x hR2 hh
          refine TC.exitHere (S.n (TC.seq (TC.region (TL.v z (OpVal.moveSl (.inl z) z) z z (TL.v z (OpVal.lenC z Tryd.underlying115 z) z z ?_)))))
          have u149 := grd_c hh
          replace hh := grd_t hh
          refine TL.op z (OpOk.makeS2 (enc := Go.E.encI) (0 : Int) z Tryd.underlying22 sz3 by3 ze3 z z z z (by omega) (by decide) Go.E.encI_len (by decide) z Go.E.encI_one (fun a347 c348 => ?_))
          refine TL.op z (OpOk.alloc z ze22 z z (fun b350 => ?_))
          refine TL.op z (OpOk.storeSl z sz22 z z z z z ?_)
          refine TL.nil (S.n (TC.seq (TC.seq (TC.region (TL.v z (OpVal.moveSl (.inl z) z) z z ?_)))))
          obtain ⟨v153, u153, hh⟩ := bnd_e hh
          refine TL.op z (OpOk.call (dfa_classes_con hr109_0 u153) z z pf55 z z z z ?_)
          rintro _ τ352 _ hle352 ⟨b352_4, a352_1, c352_2, rfl, f352_3, rfl⟩
          replace f0_0 := f0_0.mono hle352
          replace f0_1 := f0_1.mono hle352
          replace f0_2 := f0_2.mono hle352
          replace hgl := hgl.mono hle352
          replace hr108_0 := hr108_0.mono hle352
          replace hr109_0 := hr109_0.mono hle352
          replace hr111_0 := hr111_0.mono hle352
          replace zf202_5 := zf202_5.mono hle352
          replace zf208_4 := zf208_4.mono hle352
          replace hr287 := hr287.mono hle352
          replace zf290 := zf290.mono hle352
          replace hr265 := hr265.mono hle352
          replace zf272 := zf272.mono hle352
          replace zf281 := zf281.mono hle352
          replace zf320 := zf320.mono hle352
          replace zf321 := zf321.mono hle352
          have f352_3b := f352_3.rv.big
          refine TL.nil (S.n (TC.block (TC.front 15 z z (TC.sealS Go.E.encI_len (fun τ405 hle404 hr403 => ?_)))))
          replace f0_0 := f0_0.mono hle404
          replace f0_1 := f0_1.mono hle404
          replace f0_2 := f0_2.mono hle404
          replace hgl := hgl.mono hle404
          replace hr108_0 := hr108_0.mono hle404
          replace hr109_0 := hr109_0.mono hle404
          replace hr111_0 := hr111_0.mono hle404
          replace zf202_5 := zf202_5.mono hle404
          replace zf208_4 := zf208_4.mono hle404
          replace hr287 := hr287.mono hle404
          replace zf290 := zf290.mono hle404
          replace hr265 := hr265.mono hle404
          replace zf272 := zf272.mono hle404
          replace zf281 := zf281.mono hle404
          replace zf320 := zf320.mono hle404
          replace zf321 := zf321.mono hle404
          replace f352_3 := f352_3.mono hle404
          have hr403b := hr403.rv.big
          refine TC.ofSub (Sub.front 2 z z (Sub.front 2 z z (Sub.front 14 z z (Sub.front 14 z z (Sub.front 14 z z (Sub.front 14 z z (Sub.front 14 z z (Sub.front 14 z z (Sub.front 14 z z (Sub.front 14 z z (Sub.front 14 z z (Sub.front 14 z z (Sub.front 14 z z (Sub.front 14 z z (Sub.pre 15 z))))))))))))))) ?_
          obtain ⟨zr256, hz256, hh⟩ := bnd_e hh
          obtain ⟨jz256, ⟨i388, l391, m397, l401⟩⟩ := zr256
          dsimp only at hh
          refine TC.rangeG (A := (fun (x : Int × BSet) _ vs => vs = [.int .i64 x.1, setV x.2])) [.ret] (fun (q : Int × (List (List Int)) × (FM (List UInt8) Int) × (List Int)) (x : Int × BSet) => dfa_Of_r256 l130 v116 q.1 q.2.1 q.2.2.1 q.2.2.2 x.1 x.2) (fun (q : Int × (List (List Int)) × (FM (List UInt8) Int) × (List Int)) (τ406 : Store) Hs => ∃ (a392 : Option Addr), ∃ (c393 : Nat), ∃ (z394 : List (List Int × (pkSl 1 Go.E.encI Go.E.encI_len).P)), ∃ (b398 : Nat), Hs = [Res.cells b103 #[.slice none 0 0, .slice none 0 0, .slice none 0 0] 26, Res.cells b105 #[.int .i64 q.1] 37, Res.cells b117 #[.slice a113 l130.length c114] 121, Res.rowS 4 1 encB (.slice a176 (List.replicate x0.states.toNat false).length c177) l193, Res.cells b206 #[loc b202_1 0] 122, Res.cells b202_1 #[.slice a392 q.2.1.length c393, .map (some b398)] 147, Res.rowS 22 1 (pkSl 1 Go.E.encI Go.E.encI_len).en (.slice a392 q.2.1.length c393) z394, Res.mapB keyS keyI (some b398) q.2.2.1, Res.cells b212 #[.slice a111_1 v26.1.length c111_1, .slice a278 l277.length c279, .slice a284 l283.length c285] 26, Res.rowS 22 1 (pkSl 1 Go.E.encI Go.E.encI_len).en (.slice a278 l277.length c279) z280, Res.rowS 4 1 encB (.slice a284 l283.length c285) l283, Res.cells b303 #[.slice a301_1 v116.1.length c301_2] 22, Res.cells b350 #[.slice a347 ((List.replicate v13.1.length (0 : Int)).length) c348] 22, Res.rowS 3 1 Go.E.encI (.slice a347 (List.replicate v13.1.length (0 : Int)).length c348) q.2.2.2] ∧ l193.length = (List.replicate x0.states.toNat false).length ∧ ZOk τ406 (pkSl 1 Go.E.encI Go.E.encI_len) z394 q.2.1 ∧ ZOk τ406 (pkSl 1 Go.E.encI Go.E.encI_len) z280 l277 ∧ RS τ406 1 Go.E.encI (.slice a301_1 v116.1.length c301_2) v116.1 ∧ q.2.2.2.length = (List.replicate v13.1.length (0 : Int)).length) (s := (i264, l268, m274, (List.replicate v13.1.length (0 : Int)))) rfl pf72 rfl rfl (by rintro _ _ _ _ ⟨a392, c393, z394, b398, rfl, hn389, zf395, zf399, hr400, hn402⟩ hle_; exact ⟨a392, c393, z394, b398, rfl, hn389, zf395.mono hle_, zf399.mono hle_, hr400.mono hle_, hn402⟩) ⟨a269, c270, z271, b275, rfl, hn319, zf320, zf321, hr403, rfl⟩ (fun _ _ _ h_ => by subst h_; rfl) (dfa_classes_1_con f352_3 hz256) ?_ ?_
          ·clear hh hz256
           rintro l_ _ _ _ τ406 ⟨i388, l391, m397, l401⟩ ⟨y256_0, y256_1⟩ z256 _ _ hh hle407 rfl ⟨a392, c393, z394, b398, rfl, hn389, zf395, zf399, hr400, hn402⟩
           dsimp only [dfa_Of_r256] at hh
           replace f0_0 := f0_0.mono hle407
           replace f0_1 := f0_1.mono hle407
           replace f0_2 := f0_2.mono hle407
           replace hgl := hgl.mono hle407
           replace hr108_0 := hr108_0.mono hle407
           replace hr109_0 := hr109_0.mono hle407
           replace hr111_0 := hr111_0.mono hle407
           replace zf202_5 := zf202_5.mono hle407
           replace zf208_4 := zf208_4.mono hle407
           replace hr287 := hr287.mono hle407
           replace zf290 := zf290.mono hle407
           replace hr265 := hr265.mono hle407
           replace zf272 := zf272.mono hle407
           replace zf281 := zf281.mono hle407
           replace zf320 := zf320.mono hle407
           replace zf321 := zf321.mono hle407
           replace f352_3 := f352_3.mono hle407
           replace hr403 := hr403.mono hle407
           have hn389b := hn389
           have zf395b := zf395.length
           have zf399b := zf399.length
           have hr400b := hr400.rv.big
           have hn402b := hn402
           show TC _ _ _ (upds _ [(142, setV y256_1), (141, .int .i64 y256_0)]) τ406 [Res.cells b103 #[.slice none 0 0, .slice none 0 0, .slice none 0 0] 26, Res.cells b105 #[.int .i64 i388] 37, Res.cells b117 #[.slice a113 l130.length c114] 121, Res.rowS 4 1 encB (.slice a176 (List.replicate x0.states.toNat false).length c177) l193, Res.cells b206 #[loc b202_1 0] 122, Res.cells b202_1 #[.slice a392 l391.length c393, .map (some b398)] 147, Res.rowS 22 1 (pkSl 1 Go.E.encI Go.E.encI_len).en (.slice a392 l391.length c393) z394, Res.mapB keyS keyI (some b398) m397, Res.cells b212 #[.slice a111_1 v26.1.length c111_1, .slice a278 l277.length c279, .slice a284 l283.length c285] 26, Res.rowS 22 1 (pkSl 1 Go.E.encI Go.E.encI_len).en (.slice a278 l277.length c279) z280, Res.rowS 4 1 encB (.slice a284 l283.length c285) l283, Res.cells b303 #[.slice a301_1 v116.1.length c301_2] 22, Res.cells b350 #[.slice a347 ((List.replicate v13.1.length (0 : Int)).length) c348] 22, Res.rowS 3 1 Go.E.encI (.slice a347 (List.replicate v13.1.length (0 : Int)).length c348) l401]
           refine TC.isSl (i := 3) z (fun _ hb408 _ => ?_)
           refine TC.isSl (i := 6) z (fun _ hb409 _ => ?_)
           refine TC.isSl (i := 9) z (fun _ hb410 _ => ?_)
           refine TC.isSl (i := 10) z (fun _ hb411 _ => ?_)
           refine TC.isSl (i := 13) z (fun _ hb412 _ => ?_)
           refine TC.seq (TC.region (TL.v z (OpVal.moveI (.inr z) z) z z (TL.nil (S.n (TC.region (TL.op z (OpOk.alloc z ze84 z z (fun b413 => ?_))))))))
           refine TL.op z (OpOk.storeAll z sz84 z z z z z z ?_)
           refine TL.nil (asg_n (fun _ _ _ => ?_))
           refine TC.block (TC.seq ?_)
           obtain ⟨v161, u161, hh⟩ := bnd_e hh
           obtain ⟨v162, u162, hh⟩ := bnd_e hh
           refine TC.drawR (Hr := [Res.cells b413 (setA y256_1) 84, Res.cells b103 #[.slice none 0 0, .slice none 0 0, .slice none 0 0] 26, Res.cells b105 #[.int .i64 i388] 37, Res.cells b117 #[.slice a113 l130.length c114] 121, Res.rowS 4 1 encB (.slice a176 (List.replicate x0.states.toNat false).length c177) l193, Res.cells b206 #[loc b202_1 0] 122, Res.cells b212 #[.slice a111_1 v26.1.length c111_1, .slice a278 l277.length c279, .slice a284 l283.length c285] 26, Res.rowS 22 1 (pkSl 1 Go.E.encI Go.E.encI_len).en (.slice a278 l277.length c279) z280, Res.rowS 4 1 encB (.slice a284 l283.length c285) l283, Res.cells b303 #[.slice a301_1 v116.1.length c301_2] 22, Res.cells b350 #[.slice a347 ((List.replicate v13.1.length (0 : Int)).length) c348] 22, Res.rowS 3 1 Go.E.encI (.slice a347 (List.replicate v13.1.length (0 : Int)).length c348) l401]) (fun r hr => mem_pick [0, 1, 2, 3, 4, 5, 9, 10, 11, 12, 13, 14] z hr) [] (by kernel_rfl) (TA.take 0 z (by kernel_rfl) (by kernel_rfl) (by kernel_rfl) (by kernel_rfl) z (OpVal.loadLoc z ag122 z (i := 5) z z) z z (TA.take 1 z (by kernel_rfl) (by kernel_rfl) (by kernel_rfl) (by kernel_rfl) z (OpVal.loadLoc z ag121 z (i := 3) z z) z z (TA.take 2 z (by kernel_rfl) (by kernel_rfl) (by kernel_rfl) (by kernel_rfl) z (OpVal.loadLoc z ag22 z (i := 9) z z) z z (TA.take 3 z (by kernel_rfl) (by kernel_rfl) (by kernel_rfl) (by kernel_rfl) z (OpVal.loadAll z ag84 sz84 z (i := 0) z z) z z (TA.act 4 (by kernel_rfl) z z (OpOk.call (dfa_behind_con hgl hr265 hr400 u161) z z pf56 z z z z ?_))))))
           rintro _ _ _ hle420 ⟨a420_1, c420_1, rfl, rfl, rfl⟩
           refine ⟨(fun w h => sees_of (Store.le.refl _) (fun r hr => mem_pick [1, 2, 3, 4, 5, 6, 10, 11, 12, 13, 14, 15] z hr) w h), ?_⟩
           refine TA.front 9 z z (TA.front 9 z z (TA.front 9 z z (TA.act 5 (by kernel_rfl) z z (OpOk.call (putKeep_con zf395 u162) z z pf52 z z z z ?_))))
           rintro _ τ422 _ hle422 ⟨a422_1, c422_2, z422_3, b422_5, rfl, zf422_4, rfl⟩
           replace f0_0 := f0_0.mono hle422
           replace f0_1 := f0_1.mono hle422
           replace f0_2 := f0_2.mono hle422
           replace hgl := hgl.mono hle422
           replace hr108_0 := hr108_0.mono hle422
           replace hr109_0 := hr109_0.mono hle422
           replace hr111_0 := hr111_0.mono hle422
           replace zf202_5 := zf202_5.mono hle422
           replace zf208_4 := zf208_4.mono hle422
           replace hr287 := hr287.mono hle422
           replace zf290 := zf290.mono hle422
           replace hr265 := hr265.mono hle422
           replace zf272 := zf272.mono hle422
           replace zf281 := zf281.mono hle422
           replace zf320 := zf320.mono hle422
           replace zf321 := zf321.mono hle422
           replace f352_3 := f352_3.mono hle422
           replace hr403 := hr403.mono hle422
           replace zf395 := zf395.mono hle422
           replace zf399 := zf399.mono hle422
           replace hr400 := hr400.mono hle422
           have zf422_4b := zf422_4.length
           refine ⟨(fun w h => sees_of hle422 (fun r hr => (List.mem_cons_of_mem _ (List.mem_cons_of_mem _ (List.mem_cons_of_mem _ (List.mem_cons_of_mem _ hr))))) w h), ?_⟩
           refine TA.takeP 6 z (by kernel_rfl) (by kernel_rfl) (by kernel_rfl) z (OpVal.moveT (.inl z) z) z z (TA.takeP 7 z (by kernel_rfl) (by kernel_rfl) (by kernel_rfl) z (OpVal.extract z z z) z z (TA.takeP 8 z (by kernel_rfl) (by kernel_rfl) (by kernel_rfl) z (OpVal.extract z z z) z z (TA.takeP 9 z (by kernel_rfl) (by kernel_rfl) (by kernel_rfl) z (OpVal.extract z z z) z z (TA.takeP 10 z (by kernel_rfl) (by kernel_rfl) (by kernel_rfl) z (OpVal.moveI (.inr z) z) z z (TA.takeP 11 z (by kernel_rfl) (by kernel_rfl) (by kernel_rfl) z (OpVal.moveB (.inr z) z) z z (TA.takeP 12 z (by kernel_rfl) (by kernel_rfl) (by kernel_rfl) z (OpVal.moveI (.inr z) z) z z (TA.done (by kernel_rfl) (S.n (TC.seq ?_)))))))))
           refine TC.seq (TC.region (TL.v z (OpVal.moveI (.inl z) z) z z (TL.v z (OpVal.neq z z z) z z (TL.nil (S.n (TC.cond z (fun h425 => ?_) (fun h425 => ?_)))))))
           ·replace hh := iteO_t h425 hh
            replace h425 := of_decide_eq_true h425
            refine TC.seq (TC.region (TL.v z (OpVal.buildL z pl26 ze26 z) z z (TL.v z (OpVal.moveI (.inl z) z) z z (TL.front 5 z z (TL.op z (OpOk.storeAll z sz26 z z z z z z ?_))))))
            refine TL.front 6 z z (TL.op z (OpOk.storeI z sz37 z z z z z ?_))
            refine TL.nil (S.n (TC.ret (S.r (B.r ?_))))
            obtain rfl := Option.some.inj hh
            exact rnd_r 0 z ⟨z, _, Sub.front 15 z z (Sub.front 15 z z (Sub.front 15 z z (Sub.front 15 z z (Sub.front 15 z z (Sub.front 15 z z (Sub.front 10 z z (Sub.front 10 z z (Sub.front 10 z z (Sub.front 15 z z (Sub.front 15 z z (Sub.front 15 z z (Sub.front 12 z z (Sub.front 13 z z (Sub.pre 14 z)))))))))))))), ⟨a422_1, c422_2, z422_3, b422_5, z, hn389, zf422_4, zf399, hr400, hn402⟩⟩
           ·replace hh := iteO_f h425 hh
            replace h425 := of_decide_eq_false h425
            refine TC.skip (S.n (TC.seq (TC.seq (TC.region (TL.v z (OpVal.moveI (.inl z) z) z z (TL.v z (OpVal.geq z z z) z z (TL.nil (S.n (TC.cond z (fun h426 => ?_) (fun h426 => ?_))))))))))
            ·replace hh := iteO_t h426 hh
             replace h426 := of_decide_eq_true h426
             refine TC.seq (TC.region (TL.v z (OpVal.buildL z pl26 ze26 z) z z (TL.front 5 z z (TL.op z (OpOk.storeAll z sz26 z z z z z z ?_)))))
             refine TL.front 6 z z (TL.op z (OpOk.storeI z sz37 z z z z z ?_))
             refine TL.nil (S.n (TC.ret (S.r (B.r ?_))))
             obtain rfl := Option.some.inj hh
             exact rnd_r 0 z ⟨z, _, Sub.front 15 z z (Sub.front 15 z z (Sub.front 15 z z (Sub.front 15 z z (Sub.front 15 z z (Sub.front 15 z z (Sub.front 10 z z (Sub.front 10 z z (Sub.front 10 z z (Sub.front 15 z z (Sub.front 15 z z (Sub.front 15 z z (Sub.front 12 z z (Sub.front 13 z z (Sub.pre 14 z)))))))))))))), ⟨a422_1, c422_2, z422_3, b422_5, z, hn389, zf422_4, zf399, hr400, hn402⟩⟩
            ·replace hh := iteO_f h426 hh
             replace h426 := of_decide_eq_false h426
             refine TC.skip (S.n (TC.region (TL.v z (OpVal.loadLoc z ag22 z (i := 14) z z) z z (TL.v z (OpVal.moveI (.inl z) z) z z (TL.v z (OpVal.moveI (.inl z) z) z z ?_)))))
             have u184 := grd_c hh
             replace hh := grd_t hh
             refine TL.isSl (i := 15) z (fun hs427 _ _ => ?_)
             refine TL.v z (OpVal.index z Tryd.underlying22 sz3 z z hs427 u184.1 u184.2) z z (TL.front 15 z z ?_)
             have hn428 : (l401.set y256_0.toNat v162.1).length = (List.replicate v13.1.length (0 : Int)).length := by rw [List.length_set]; exact hn402
             refine TL.op z (OpOk.storeS v162.1 z sz3 z z z z Go.E.encI_len Go.E.encI_one (by omega) (by omega) ?_)
             refine TL.nil (B.n ?_)
             obtain rfl := Option.some.inj hh
             exact rnd_n ⟨z, _, Sub.front 15 z z (Sub.front 15 z z (Sub.front 15 z z (Sub.front 15 z z (Sub.front 15 z z (Sub.front 8 z z (Sub.front 8 z z (Sub.front 8 z z (Sub.front 15 z z (Sub.front 15 z z (Sub.front 15 z z (Sub.front 15 z z (Sub.front 15 z z (Sub.pre 14 z))))))))))))), ⟨a422_1, c422_2, z422_3, b422_5, z, hn389, zf422_4, zf399, hr400, hn428⟩⟩
          ·rintro τ406 _ _ hle407 ⟨a392, c393, z394, b398, rfl, hn389, zf395, zf399, hr400, hn402⟩ ⟨rfl⟩
           replace f0_0 := f0_0.mono hle407
           replace f0_1 := f0_1.mono hle407
           replace f0_2 := f0_2.mono hle407
           replace hgl := hgl.mono hle407
           replace hr108_0 := hr108_0.mono hle407
           replace hr109_0 := hr109_0.mono hle407
           replace hr111_0 := hr111_0.mono hle407
           replace zf202_5 := zf202_5.mono hle407
           replace zf208_4 := zf208_4.mono hle407
           replace hr287 := hr287.mono hle407
           replace zf290 := zf290.mono hle407
           replace hr265 := hr265.mono hle407
           replace zf272 := zf272.mono hle407
           replace zf281 := zf281.mono hle407
           replace zf320 := zf320.mono hle407
           replace zf321 := zf321.mono hle407
           replace f352_3 := f352_3.mono hle407
           replace hr403 := hr403.mono hle407
           have hn389b := hn389
           have zf395b := zf395.length
           have zf399b := zf399.length
           have hr400b := hr400.rv.big
           have hn402b := hn402
           dsimp only [dfa_Of_k256] at hh
           show jmpQ _ _ _ _ _ τ406 [Res.cells b103 #[.slice none 0 0, .slice none 0 0, .slice none 0 0] 26, Res.cells b105 #[.int .i64 i388] 37, Res.cells b117 #[.slice a113 l130.length c114] 121, Res.rowS 4 1 encB (.slice a176 (List.replicate x0.states.toNat false).length c177) l193, Res.cells b206 #[loc b202_1 0] 122, Res.cells b202_1 #[.slice a392 l391.length c393, .map (some b398)] 147, Res.rowS 22 1 (pkSl 1 Go.E.encI Go.E.encI_len).en (.slice a392 l391.length c393) z394, Res.mapB keyS keyI (some b398) m397, Res.cells b212 #[.slice a111_1 v26.1.length c111_1, .slice a278 l277.length c279, .slice a284 l283.length c285] 26, Res.rowS 22 1 (pkSl 1 Go.E.encI Go.E.encI_len).en (.slice a278 l277.length c279) z280, Res.rowS 4 1 encB (.slice a284 l283.length c285) l283, Res.cells b303 #[.slice a301_1 v116.1.length c301_2] 22, Res.cells b350 #[.slice a347 ((List.replicate v13.1.length (0 : Int)).length) c348] 22, Res.rowS 3 1 Go.E.encI (.slice a347 (List.replicate v13.1.length (0 : Int)).length c348) l401, Res.cells b352_4 #[.slice a352_1 v153.length c352_2] 115]
           refine jmp_split hh ?_ ?_ <;> clear hh
           ·intro hh
            refine B.n (S.n (TC.seq (TC.region (TL.v z (OpVal.fieldLoc z fo26_1 z) z z (TL.v z (OpVal.loadLoc z ag23 z (i := 8) z z) z z (TL.v z (OpVal.loadLoc z ag22 z (i := 12) z z) z z ?_))))))
            rw [← hn402]
            refine TL.front 13 z z (TL.sealS Go.E.encI_len (fun τ433 hle432 hr431 => ?_))
            replace f0_0 := f0_0.mono hle432
            replace f0_1 := f0_1.mono hle432
            replace f0_2 := f0_2.mono hle432
            replace hgl := hgl.mono hle432
            replace hr108_0 := hr108_0.mono hle432
            replace hr109_0 := hr109_0.mono hle432
            replace hr111_0 := hr111_0.mono hle432
            replace zf202_5 := zf202_5.mono hle432
            replace zf208_4 := zf208_4.mono hle432
            replace hr287 := hr287.mono hle432
            replace zf290 := zf290.mono hle432
            replace hr265 := hr265.mono hle432
            replace zf272 := zf272.mono hle432
            replace zf281 := zf281.mono hle432
            replace zf320 := zf320.mono hle432
            replace zf321 := zf321.mono hle432
            replace f352_3 := f352_3.mono hle432
            replace hr403 := hr403.mono hle432
            replace zf395 := zf395.mono hle432
            replace zf399 := zf399.mono hle432
            replace hr400 := hr400.mono hle432
            have hr431b := hr431.rv.big
            have zf434 : ZOk _ (pkSl 1 Go.E.encI Go.E.encI_len) ([(l401, (a347, c348))] : List (List Int × (pkSl 1 Go.E.encI Go.E.encI_len).P)) [l401] := ZOk.cons (hr431) (ZOk.nil _ _)
            refine TL.op z (OpOk.litZ zf434 z Tryd.underlying23 sz22 z ze22 z z z (by decide) (by decide) z (by decide) z (by decide) (fun a429 c430 => ?_))
            refine TL.front 10 z z ?_
            have u190 := grd_c hh
            replace hh := grd_t hh
            refine TL.op z (OpOk.appendZ (k := (pkSl 1 Go.E.encI Go.E.encI_len)) zf399 zf434 z z Tryd.underlying23 sz22 by22 ze22 z z (by decide) z z z (.inr ⟨_, 0, z⟩) (by simpa using u190) (by decide) (fun a436 c437 zf438 => ?_))
            refine TL.v z (OpVal.fieldLoc z fo26_1 z) z z (TL.front 10 z z (TL.op z (OpOk.storeSl z sz23 z z z z z ?_)))
            refine TL.nil (S.n (TC.region (TL.v z (OpVal.fieldLoc z fo26_2 z) z z (TL.v z (OpVal.loadLoc z ag24 z (i := 0) z z) z z (TL.v z (OpVal.moveB (.inl z) z) z z (TL.op z (OpOk.lit (enc := encB) [t322] z Tryd.underlying24 sz4 ze4 z z z encB_len (by decide) (by decide) false z (by decide) z (by decide) encB_one (fun a439 c440 => ?_))))))))
            refine TL.front 12 z z ?_
            have u197 := grd_c hh
            replace hh := grd_t hh
            refine TL.op z (OpOk.appendS z z Tryd.underlying24 sz4 by4 ze4 z z (by decide) z z z (.inr ⟨_, 0, z⟩) (by simpa using u197) (by decide) (fun a442 c443 => ?_))
            refine TL.v z (OpVal.fieldLoc z fo26_2 z) z z (TL.front 2 z z (TL.op z (OpOk.storeSl z sz24 z z z z z ?_)))
            refine TL.nil (B.n (S.n (TC.region (TL.v z (OpVal.moveI (.inl z) z) z z ?_))))
            have u201 := grd_c hh
            replace hh := grd_t hh
            refine TL.v z (OpVal.succ z z z (by omega)) z z (TL.v z (OpVal.moveI (.inr z) z) z z (TL.nil (S.n ?_)))
            obtain ⟨hh, hlt444⟩ := nxt_x hR1 hh
            refine ⟨by repeat (first | exact Agr.refl _ _ | exact Agr.mask | refine Agr.upd z ?_ | refine Agr.maskIn z ?_ | refine Agr.upds z ?_), ((i388, l391, m397, (l277 ++ [l401]), (l283 ++ [t322]), (k286 + 1)), (a392, c393, z394, b398, a436, c437, (z280 ++ ([(l401, (a347, c348))] : List (List Int × (pkSl 1 Go.E.encI Go.E.encI_len).P))), a442, c443, τ433)), hlt444, ⟨hh, hr265, hn389, zf395, zf438, (((((hle294.trans hle325).trans hle352).trans hle404).trans hle407).trans hle432)⟩, by repeat (first | exact trivial | refine ⟨z, ?_⟩), Sub.front 1 z z (Sub.front 3 z z (Sub.front 2 z z (Sub.front 12 z z (Sub.front 12 z z (Sub.front 12 z z (Sub.front 12 z z (Sub.front 12 z z (Sub.front 12 z z (Sub.front 12 z z (Sub.front 12 z z (Sub.pre 11 z))))))))))), z⟩
           ·intro m_ c_ hh hc_
            refine jl_split hh hc_ ?_ ?_ <;> clear hh hc_
            ·intro hh
             refine TC.ofSub (Sub.front 1 z z (Sub.front 1 z z (Sub.pre 2 z))) (TC.ret (B.r (S.r (B.r (S.r (S.r ?_))))))
             replace hh := fin_x hR1 hh
             refine B.r (S.r ?_)
             obtain rfl := Option.some.inj hh
             exact RetOk.mk' (rs := [.cell 2 26, .cell 3 37]) [] z (.inl z) (RVs.agg ag26 sz26 z (i := 0) z z (RVs.one ag37 z (i := 1) z z RVs.nil)) (List.sublist_append_left _ _) ⟨none, 0, none, 0, none, 0, z, (RS.nilF _ Go.E.encI Go.E.encI_len), (RZ.nilF _ (pkSl 1 Go.E.encI Go.E.encI_len)), (RS.nilF _ encB encB_len), z⟩
            ·intro m_ hh hc_
             exact jl_nil hc_
       ·replace hh := iteO_f h300 hh
        replace h300 := of_decide_eq_false h300
        refine TC.exit (S.x (S.x ?_))
        replace hh := fin_x hR1 hh
        refine TC.exitHere (S.n (TC.seq (TC.region (TL.v z (OpVal.loadAll z ag26 sz26 z (i := 8) z z) z z (TL.front 3 z z (TL.op z (OpOk.storeAll z sz26 z z z z z z ?_)))))))
        refine TL.front 4 z z (TL.op z (OpOk.storeI z sz37 z z z z z ?_))
        refine TL.nil (S.n (TC.front 9 z z (TC.sealZ zf281 (fun τ447 hle446 hr445 => ?_))))
        replace f0_0 := f0_0.mono hle446
        replace f0_1 := f0_1.mono hle446
        replace f0_2 := f0_2.mono hle446
        replace hgl := hgl.mono hle446
        replace hr108_0 := hr108_0.mono hle446
        replace hr109_0 := hr109_0.mono hle446
        replace hr111_0 := hr111_0.mono hle446
        replace zf202_5 := zf202_5.mono hle446
        replace zf208_4 := zf208_4.mono hle446
        replace hr287 := hr287.mono hle446
        replace zf290 := zf290.mono hle446
        replace hr265 := hr265.mono hle446
        replace zf272 := zf272.mono hle446
        replace zf281 := zf281.mono hle446
        have hr445b := hr445.big
        refine TC.front 9 z z (TC.sealS encB_len (fun τ450 hle449 hr448 => ?_))
        replace f0_0 := f0_0.mono hle449
        replace f0_1 := f0_1.mono hle449
        replace f0_2 := f0_2.mono hle449
        replace hgl := hgl.mono hle449
        replace hr108_0 := hr108_0.mono hle449
        replace hr109_0 := hr109_0.mono hle449
        replace hr111_0 := hr111_0.mono hle449
        replace zf202_5 := zf202_5.mono hle449
        replace zf208_4 := zf208_4.mono hle449
        replace hr287 := hr287.mono hle449
        replace zf290 := zf290.mono hle449
        replace hr265 := hr265.mono hle449
        replace zf272 := zf272.mono hle449
        replace zf281 := zf281.mono hle449
        replace hr445 := hr445.mono hle449
        have hr448b := hr448.rv.big
        refine TC.ofSub (Sub.front 1 z z (Sub.pre 2 z)) (TC.ret ?_)
        obtain rfl := Option.some.inj hh
        exact RetOk.mk' (rs := [.cell 2 26, .cell 3 37]) [] z (.inl z) (RVs.agg ag26 sz26 z (i := 0) z z (RVs.one ag37 z (i := 1) z z RVs.nil)) (List.sublist_append_left _ _) ⟨a111_1, c111_1, a278, c279, a284, c285, z, hr111_0, hr445, hr448, z⟩

end Go.Proofs.YtmfclggfajopkaaDoor
end

/- Data2 -/
section
/- More plain data, and how they lie in cells. No program, no condition. -/
set_option linter.unusedVariables false
set_option linter.unusedSimpArgs false
namespace Go.E
open Go

structure Tip where
  state : Int
  out : List UInt8
  deriving DecidableEq
def Tip.zero : Tip := ⟨0, []⟩
structure Arc where
  frm : Int
  to : Int
  set : BSet
  out : List UInt8
  copy : Bool
  deriving DecidableEq
def Arc.zero : Arc := ⟨0, 0, BSet.zero, [], false⟩
structure FPair where
  state : Int
  out : List UInt8
  deriving DecidableEq
def FPair.zero : FPair := ⟨0, []⟩
structure Span where
  frm : Int
  to : Int
  deriving DecidableEq
def Span.zero : Span := ⟨0, 0⟩
def encSpan (x : Span) : List Value := [.int .i64 x.frm, .int .i64 x.to]
theorem encSpan_len (x : Span) : (encSpan x).length = 2 := rfl
theorem encSpan_one : ∀ x, ∀ u ∈ encSpan x, u.oneCell' = true := fun x u hu => by
  simp [encSpan] at hu
  rcases hu with rfl | rfl <;> rfl
/-- A transducer. -/
structure Fst where
  states : Int
  starts : List Tip
  ends : List Tip
  arcs : List Arc
  deriving DecidableEq
def Fst.zero : Fst := ⟨0, [], [], []⟩
end Go.E
end

/- Data6 -/
section
/- More of the program's data: transducers that go one way, rules, pieces. No program, no condition. -/
set_option linter.unusedVariables false
set_option linter.unusedSimpArgs false
namespace Go.E
open Go

structure Seq where
  front : List UInt8
  next : List (List Int)
  outs : List (List (List UInt8))
  fin : List Bool
  tail : List (List UInt8)
def Seq.zero : Seq := ⟨[], [], [], [], []⟩
structure SeqP where
  a1 : Option Addr
  c1 : Nat
  a2 : Option Addr
  c2 : Nat
  a3 : Option Addr
  c3 : Nat
  a4 : Option Addr
  c4 : Nat
def SeqP.zero : SeqP := ⟨none, 0, none, 0, none, 0, none, 0⟩
structure RSeq (σ : Store) (x : Seq) (p : SeqP) : Prop where
  n : RZ σ (pkSl 1 Go.E.encI encI_len) (.slice p.a1 x.next.length p.c1) x.next
  o : RZ σ (pkSl 1 encS encS_len) (.slice p.a2 x.outs.length p.c2) x.outs
  e : RS σ 1 encB (.slice p.a3 x.fin.length p.c3) x.fin
  t : RS σ 1 encS (.slice p.a4 x.tail.length p.c4) x.tail
def Seq.enc (x : Seq) (p : SeqP) : List Value := [.string (bs x.front), .slice p.a1 x.next.length p.c1, .slice p.a2 x.outs.length p.c2, .slice p.a3 x.fin.length p.c3, .slice p.a4 x.tail.length p.c4]
structure Rule where
  of : Dfa
  left : Dfa
  right : Dfa
  out : List UInt8
  mapped : Bool
  by' : Seq
def Rule.zero : Rule := ⟨Dfa.zero, Dfa.zero, Dfa.zero, [], false, Seq.zero⟩
structure RuleP where
  of : DfaP
  left : DfaP
  right : DfaP
  by' : SeqP
def RuleP.zero : RuleP := ⟨DfaP.zero, DfaP.zero, DfaP.zero, SeqP.zero⟩
structure RRule (σ : Store) (x : Rule) (p : RuleP) : Prop where
  o : RDfa σ x.of p.of
  l : RDfa σ x.left p.left
  r : RDfa σ x.right p.right
  b : RSeq σ x.by' p.by'
/-- A strings.Builder's bytes. -/
structure SB where
  buf : List UInt8
structure Turned where
  b : SB
  at' : List Span
structure How where
  r : Rule
structure Piece where
  text : List UInt8
  at' : List Span
def Piece.zero : Piece := ⟨[], []⟩
end Go.E
end
