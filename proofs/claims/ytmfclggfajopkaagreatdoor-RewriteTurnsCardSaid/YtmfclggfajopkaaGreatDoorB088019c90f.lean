/- Parts of a proof, one behind the other: what a machine reaches, functions decompiled, plain lemmas. Conditions stand with each lemma. -/
import Derived.Test.YtmfclggfajopkaaGreatDoorB4db771c510
import Derived.Test.YtmfclggfajopkaaGreatDoorBef79dd66ab
import Derived.Test.YtmfclggfajopkaaGreatDoorB1df7b7a9b5
import Derived.Test.YtmfclggfajopkaaGreatDoorB68856a2be5
import Derived.KernelRfl

/- R8 -/
section
/- Decompiled: what laws on rules need. -/
set_option linter.unusedVariables false
set_option linter.unusedSimpArgs false
namespace Go.Proofs.YtmfclggfajopkaaGreatDoor
open Go Go.E
set_option maxRecDepth 100000
private theorem ag26 : Go.E.aggOf Tryz.prog 26 = some true := by kernel_rfl
private theorem ag34 : Go.E.aggOf Tryz.prog 34 = some false := by kernel_rfl
private theorem ag36 : Go.E.aggOf Tryz.prog 36 = some true := by kernel_rfl
private theorem ag9 : Go.E.aggOf Tryz.prog 9 = some false := by kernel_rfl
private theorem fo36_0 : Go.E.foOf Tryz.prog 36 0 = some 0 := by kernel_rfl
private theorem fo36_1 : Go.E.foOf Tryz.prog 36 1 = some 1 := by kernel_rfl
private theorem pf15 : Go.E.plainF Tryz.prog 15 = true := by kernel_rfl
private theorem pf38 : Go.E.plainF Tryz.prog 38 = true := by kernel_rfl
private theorem pf39 : Go.E.plainF Tryz.prog 39 = true := by kernel_rfl
private theorem pf40 : Go.E.plainF Tryz.prog 40 = true := by kernel_rfl
private theorem pf41 : Go.E.plainF Tryz.prog 41 = true := by kernel_rfl
private theorem pf42 : Go.E.plainF Tryz.prog 42 = true := by kernel_rfl
private theorem pf45 : Go.E.plainF Tryz.prog 45 = true := by kernel_rfl
private theorem pf8 : Go.E.plainF Tryz.prog 8 = true := by kernel_rfl
private theorem pl26 : Go.E.plOf Tryz.prog 26 = some #[(0, 1), (1, 1), (2, 1)] := by kernel_rfl
private theorem pl32 : Go.E.plOf Tryz.prog 32 = some #[(0, 3), (3, 3), (6, 3), (9, 1), (10, 1), (11, 5)] := by kernel_rfl
private theorem pl36 : Go.E.plOf Tryz.prog 36 = some #[(0, 1), (1, 1)] := by kernel_rfl
private theorem pl56 : Go.E.plOf Tryz.prog 56 = some #[(0, 1), (1, 1)] := by kernel_rfl
private theorem sz22 : Go.E.szOf Tryz.prog 22 = some 1 := by kernel_rfl
private theorem sz26 : Go.E.szOf Tryz.prog 26 = some 3 := by kernel_rfl
private theorem sz36 : Go.E.szOf Tryz.prog 36 = some 2 := by kernel_rfl
private theorem sz56 : Go.E.szOf Tryz.prog 56 = some 2 := by kernel_rfl
private theorem ze22 : Go.E.zeroOf Tryz.prog 22 = some (.slice none 0 0) := by kernel_rfl
private theorem ze26 : Go.E.zeroOf Tryz.prog 26 = some (.agg #[.slice none 0 0, .slice none 0 0, .slice none 0 0]) := by kernel_rfl
private theorem ze32 : Go.E.zeroOf Tryz.prog 32 = some (.agg #[.slice none 0 0, .slice none 0 0, .slice none 0 0, .slice none 0 0, .slice none 0 0, .slice none 0 0, .slice none 0 0, .slice none 0 0, .slice none 0 0, .string ByteArray.empty, .bool false, .string ByteArray.empty, .slice none 0 0, .slice none 0 0, .slice none 0 0, .slice none 0 0]) := by kernel_rfl
private theorem ze36 : Go.E.zeroOf Tryz.prog 36 = some (.agg #[.string ByteArray.empty, .slice none 0 0]) := by kernel_rfl
private theorem ze5 : Go.E.zeroOf Tryz.prog 5 = some (.int .u8 0) := by kernel_rfl
private theorem ze56 : Go.E.zeroOf Tryz.prog 56 = some (.agg #[.int .i64 0, .int .i64 0]) := by kernel_rfl

noncomputable def whittlelaw24_all : Option (Dfa) :=
 some (⟨(List.replicate 256 (0 : Int)), [[0]], [true]⟩ : Dfa)
def whittlelaw24_all_P (σ : Store) (r : Dfa) : Value → Store → List Res → Prop := fun v σ' H' =>
 ∃ (a1 : Option Addr), ∃ (c1 : Nat), ∃ (a2 : Option Addr), ∃ (c2 : Nat), ∃ (a3 : Option Addr), ∃ (c3 : Nat),  v = .agg #[.slice a1 r.cls.length c1, .slice a2 r.next.length c2, .slice a3 r.fin.length c3] ∧ RS σ' 1 Go.E.encI (.slice a1 r.cls.length c1) r.cls ∧ RZ σ' (pkSl 1 Go.E.encI Go.E.encI_len) (.slice a2 r.next.length c2) r.next ∧ RS σ' 1 encB (.slice a3 r.fin.length c3) r.fin ∧ H' = []
theorem whittlelaw24_all_con {σ : Store}   {r : Dfa} (hh : whittlelaw24_all = some r) :
  Con Tryz.prog 42 #[] σ [] (whittlelaw24_all_P σ r) := by
 dsimp only [whittlelaw24_all] at hh
 refine Con.mk (n := 6) Tryz.func42 z z z (fun w0 => ?_)
 refine TC.a (TL.op z (OpOk.alloc z ze26 z z (fun b101 => ?_)))
 refine TL.en (TC.a (TL.op z (OpOk.makeS2 (m := 256) (enc := Go.E.encI) (0 : Int) z Tryz.underlying22 sz3 by3 ze3 z z z z (by omega) (by decide) Go.E.encI_len (by decide) z Go.E.encI_one (fun a103 c104 => ?_))))
 refine TL.op z (OpOk.lit (enc := Go.E.encI) [0] z Tryz.underlying22 sz3 ze3 z z z Go.E.encI_len (by decide) (by decide) (0 : Int) z (by decide) z (by decide) Go.E.encI_one (fun a106 c107 => ?_))
 refine TL.sealS Go.E.encI_len (fun τ113 hle112 hr111 => ?_)
 have hr111b := hr111.rv.big
 have zf114 : ZOk _ (pkSl 1 Go.E.encI Go.E.encI_len) ([([0], (a106, c107))] : List (List Int × (pkSl 1 Go.E.encI Go.E.encI_len).P)) [[0]] := ZOk.cons (hr111) (ZOk.nil _ _)
 refine TL.op z (OpOk.litZ zf114 z Tryz.underlying23 sz22 z ze22 z z z (by decide) (by decide) z (by decide) z (by decide) (fun a109 c110 => ?_))
 refine TL.op z (OpOk.lit (enc := encB) [true] z Tryz.underlying24 sz4 ze4 z z z encB_len (by decide) (by decide) false z (by decide) z (by decide) encB_one (fun a116 c117 => ?_))
 refine TL.v z (OpVal.buildL z pl26 ze26 z) z z (TL.front 3 z z (TL.op z (OpOk.storeAll z sz26 z z z z z z ?_)))
 refine TL.en (TC.front 3 z z (TC.sealS Go.E.encI_len (fun τ121 hle120 hr119 => ?_)))
 replace hr111 := hr111.mono hle120
 replace zf114 := zf114.mono hle120
 have hr119b := hr119.rv.big
 refine TC.front 2 z z (TC.sealZ zf114 (fun τ124 hle123 hr122 => ?_))
 replace hr111 := hr111.mono hle123
 replace zf114 := zf114.mono hle123
 replace hr119 := hr119.mono hle123
 have hr122b := hr122.big
 refine TC.front 1 z z (TC.sealS encB_len (fun τ127 hle126 hr125 => ?_))
 replace hr111 := hr111.mono hle126
 replace zf114 := zf114.mono hle126
 replace hr119 := hr119.mono hle126
 replace hr122 := hr122.mono hle126
 have hr125b := hr125.rv.big
 refine TC.ret ?_
 obtain rfl := so hh
 exact RetOk.mk' (rs := [.cell 0 26]) [] z (.inl z) (RVs.agg ag26 sz26 z (i := 0) z z RVs.nil) (List.sublist_append_left _ _) ⟨a103, c104, a109, c110, a116, c117, z, hr119, hr122, hr125, z⟩

noncomputable def whittleref24_Same (x0 : Piece) (x1 : Piece) : Option (Bool) :=
 iteO (decide (x0.text = x1.text)) (bnd (whittleref04_Same x0.at' x1.at') (fun v14 => some v14)) (some false)
theorem whittleref24_Same_con {σ : Store} {x0 : Piece} {a0_0 : Option Addr} {c0_0 : Nat} {x1 : Piece} {a1_0 : Option Addr} {c1_0 : Nat} (f0_0 : RS σ 2 encSpan (.slice a0_0 x0.at'.length c0_0) x0.at') (f1_0 : RS σ 2 encSpan (.slice a1_0 x1.at'.length c1_0) x1.at') {r : Bool} (hh : whittleref24_Same x0 x1 = some r) :
  Con Tryz.prog 15 #[.agg #[.string (bs x0.text), .slice a0_0 x0.at'.length c0_0], .agg #[.string (bs x1.text), .slice a1_0 x1.at'.length c1_0]] σ [] (PureP (.bool r) σ) := by
 dsimp only [whittleref24_Same] at hh
 have f0_0b := f0_0.rv.big
 have f1_0b := f1_0.rv.big
 refine Con.mk (n := 17) Tryz.func15 z z z (fun w0 => ?_)
 refine TC.a (TL.op z (OpOk.boxA z z z z (fun b101 => ?_)))
 refine TL.op z (OpOk.boxA z z z z (fun b103 => ?_))
 refine TL.b z (.inr z) z z z (TL.en (TC.a (TL.v z (OpVal.fieldLoc z fo36_0 z) z z (TL.v z (OpVal.loadLoc z ag9 z (i := 1) z z) z z (TL.v z (OpVal.fieldLoc z fo36_0 z) z z (TL.v z (OpVal.loadLoc z ag9 z (i := 0) z z) z z (TL.v z (OpVal.eqlBs z z z) z z (TL.b z (.inl z) z z z (TL.split 10 z (fun h105 => ?_) (fun h105 => ?_))))))))))
 ·replace hh := iteO_t h105 hh
  replace h105 := of_decide_eq_true h105
  refine TL.gv z z z z z (OpVal.fieldLoc z fo36_1 z) z z (TL.gv z z z z z (OpVal.loadLoc z ag34 z (i := 1) z z) z z (TL.gv z z z z z (OpVal.fieldLoc z fo36_1 z) z z (TL.gv z z z z z (OpVal.loadLoc z ag34 z (i := 0) z z) z z ?_)))
  obtain ⟨v14, u14, hh⟩ := bnd_e hh
  refine TL.gon z z z z z (OpOk.callP (whittleref04_Same_con f0_0 f1_0 u14) z z pf45 z z z ?_)
  refine TL.v z (OpVal.pickTB z z z) z z (TL.b z (.inr z) z z z (TL.en (TC.ofSub (Sub.pre 0 z) (TC.ret ?_))))
  obtain rfl := so hh
  exact r1 4
 ·replace hh := iteO_f h105 hh
  replace h105 := of_decide_eq_false h105
  refine TL.goff z z z z z z z z (TL.goff z z z z z z z z (TL.goff z z z z z z z z (TL.goff z z z z z z z z (TL.goff z z z z z z z z (TL.v z (OpVal.pickFB z z z) z z (TL.b z (.inr z) z z z (TL.en (TC.ofSub (Sub.pre 0 z) (TC.ret ?_)))))))))
  obtain rfl := so hh
  exact r1 4

noncomputable def whittlelaw24_awake_j1 (v13 : Dfa × Int) (s113 : List UInt8) (l114 : List Span) (i118 : Int) : Option (Bool) :=
 iteO (decide ((starX (setN (BSet.ofL [(97 : UInt8)]))) = 0)) (iteO (decide (v13.2 = (starX (setN (BSet.ofL [(97 : UInt8)]))))) (iteO (decide (i118 = (starX (setN (BSet.ofL [(97 : UInt8)]))))) (bnd (whittleref24_Same (⟨s113, l114⟩ : Piece) (⟨([98, 120, 99] : List UInt8), [(⟨0, 1⟩ : Span), (⟨1, 3⟩ : Span), (⟨3, 4⟩ : Span)]⟩ : Piece)) (fun v53 => some v53)) (some false)) (some false)) (some false)
noncomputable def whittlelaw24_awake : Option (Bool) :=
 grd ([(97 : UInt8)].length ≤ 1000000000000) (bnd (dfa_Of (starR (setN (BSet.ofL [(97 : UInt8)])))) (fun v13 => bnd (whittlelaw24_all) (fun v21 => bnd (whittlelaw24_all) (fun v22 => bnd (rewrite_Turn (⟨v13.1, v21, v22, ([120] : List UInt8), false, (⟨([] : List UInt8), ([] : List (List Int)), ([] : List (List (List UInt8))), ([] : List Bool), ([] : List (List UInt8))⟩ : Seq)⟩ : Rule) ([98, 97, 97, 99] : List UInt8)) (fun v24 => whittlelaw24_awake_j1 v13 v24.1.text v24.1.at' v24.2)))))
theorem whittlelaw24_awake_con {σ : Store}  (hgl : GT σ 0 encU8 deB) {r : Bool} (hh : whittlelaw24_awake = some r) :
  Con Tryz.prog 12 #[] σ [] (PureP (.bool r) σ) := by
 dsimp only [whittlelaw24_awake] at hh
 refine Con.mk (n := 50) Tryz.func12 z z z (fun w0 => ?_)
 refine TC.a (TL.b z (.inr z) z z z (TL.en (TC.a (TL.op z (OpOk.lit (enc := encU8) [(97 : UInt8)] z Tryz.underlying66 sz5 ze5 z z z encU8_len (by decide) (by decide) (0 : UInt8) z (by decide) z (by decide) encU8_one (fun a101 c102 => ?_))))))
 have u3 := grd_c hh
 replace hh := grd_t hh
 refine TL.op z (OpOk.callT (of_con _ _ _ [(97 : UInt8)] u3) z z pf40 z z z z ?_)
 refine TL.op z (OpOk.call (set_con _ (BSet.ofL [(97 : UInt8)]) (BSet.isOk _)) z z pf39 z z z z ?_)
 rintro _ τ104 _ hle104 ⟨p104, rfl, hn104, rfl⟩
 replace hgl := hgl.mono hle104
 have hn104sb := hn104.s.rv.big
 have hn104eb := hn104.e.rv.big
 have hn104db := hn104.d.rv.big
 refine TL.op z (OpOk.call (star_con _ (setN (BSet.ofL [(97 : UInt8)])) ⟨p104.a1, p104.c1, p104.a2, p104.c2, p104.a3, p104.c3⟩ ⟨hn104.s, hn104.e, hn104.d, fun x _ => x.set.isOk⟩) z z pf38 z z z z ?_)
 rintro _ τ105 _ hle105 ⟨p105, rfl, hn105, rfl⟩
 replace hgl := hgl.mono hle105
 replace hn104 := hn104.mono hle105
 have hn105sb := hn105.s.rv.big
 have hn105eb := hn105.e.rv.big
 have hn105db := hn105.d.rv.big
 refine TL.v z (OpVal.moveT (.inl z) z) z z (TL.v z (OpVal.extract z z z) z z (TL.v z (OpVal.extract z z z) z z (TL.op z (OpOk.alloc z ze80 z z (fun b106 => ?_)))))
 refine TL.op z (OpOk.storeAll z sz80 z z z z z z ?_)
 refine TL.a z (.inr z) z z z (TL.en (TC.a (TL.v z (OpVal.loadAll z ag80 sz80 z (i := 0) z z) z z ?_)))
 obtain ⟨v13, u13, hh⟩ := bnd_e hh
 refine TL.op z (OpOk.call (dfa_Of_con (x0 := (starR (setN (BSet.ofL [(97 : UInt8)])))) hgl hn105.s hn105.e hn105.d u13) z z pf41 z z z z ?_)
 rintro _ τ108 _ hle108 ⟨a108_1, c108_1, a108_2, c108_2, a108_3, c108_3, rfl, hr108_0, hr108_1, hr108_2, rfl⟩
 replace hgl := hgl.mono hle108
 replace hn104 := hn104.mono hle108
 replace hn105 := hn105.mono hle108
 have hr108_0b := hr108_0.rv.big
 have hr108_1b := hr108_1.big
 have hr108_2b := hr108_2.rv.big
 refine TL.v z (OpVal.moveT (.inl z) z) z z (TL.v z (OpVal.extract z z z) z z (TL.v z (OpVal.extract z z z) z z (TL.op z (OpOk.alloc z ze26 z z (fun b109 => ?_)))))
 refine TL.op z (OpOk.storeAll z sz26 z z z z z z ?_)
 refine TL.a z (.inr z) z z z (TL.en (TC.cutG (α := ((List UInt8) × (List Span) × Int) × (Nat × (Option Addr) × Nat × Store)) [5, 6, 20, 21, 22, 23, 24, 25, 26, 27] (fun g => [(5, loc g.2.1 0), (6, .int .i64 g.1.2.2)]) (fun g => [Res.cells g.2.1 #[.string (bs g.1.1), .slice g.2.2.1 g.1.2.1.length g.2.2.2.1] 36]) (fun g => g.2.2.2.2) (fun g => whittlelaw24_awake_j1 v13 g.1.1 g.1.2.1 g.1.2.2 = some r ∧ RS g.2.2.2.2 2 encSpan (.slice g.2.2.1 g.1.2.1.length g.2.2.2.1) g.1.2.1 ∧ Store.le τ108 g.2.2.2.2) ?_ (fun g j hg => ?_)))
 ·skip
  obtain ⟨v21, u21, hh⟩ := bnd_e hh
  obtain ⟨v22, u22, hh⟩ := bnd_e hh
  obtain ⟨v24, u24, hh⟩ := bnd_e hh
  refine TC.draw [7, 9, 10] (by kernel_rfl) (TA.b 0 z (OpVal.loadAll z ag26 sz26 z (i := 0) z z) z (TA.actN [1, 8] (by kernel_rfl) (an z z (OpOk.call (whittlelaw24_all_con u21) z z pf42 z z z z ?_) (an z z (OpOk.alloc z ze36 z z (fun b125 => (k1 ?_))) (True.intro)))))
  ·skip
   rintro _ τ124 _ hle124 ⟨a124_1, c124_1, a124_2, c124_2, a124_3, c124_3, rfl, hr124_0, hr124_1, hr124_2, rfl⟩
   replace hgl := hgl.mono hle124
   replace hn104 := hn104.mono hle124
   replace hn105 := hn105.mono hle124
   replace hr108_0 := hr108_0.mono hle124
   replace hr108_1 := hr108_1.mono hle124
   replace hr108_2 := hr108_2.mono hle124
   have hr124_0b := hr124_0.rv.big
   have hr124_1b := hr124_1.big
   have hr124_2b := hr124_2.rv.big
   refine kl 0 hle124 (TA.actN [2, 8] (by kernel_rfl) (an z z (OpOk.call (whittlelaw24_all_con u22) z z pf42 z z z z ?_) (an z z (OpOk.alloc z ze36 z z (fun b128 => (kl 1 hle124 ?_))) (True.intro))))
   ·skip
    rintro _ τ127 _ hle127 ⟨a127_1, c127_1, a127_2, c127_2, a127_3, c127_3, rfl, hr127_0, hr127_1, hr127_2, rfl⟩
    replace hgl := hgl.mono hle127
    replace hn104 := hn104.mono hle127
    replace hn105 := hn105.mono hle127
    replace hr108_0 := hr108_0.mono hle127
    replace hr108_1 := hr108_1.mono hle127
    replace hr108_2 := hr108_2.mono hle127
    replace hr124_0 := hr124_0.mono hle127
    replace hr124_1 := hr124_1.mono hle127
    replace hr124_2 := hr124_2.mono hle127
    have hr127_0b := hr127_0.rv.big
    have hr127_1b := hr127_1.big
    have hr127_2b := hr127_2.rv.big
    refine kl 0 (hle124.trans hle127) (TA.a 3 z (OpVal.buildL z pl32 ze32 z) z (TA.actN [4, 8] (by kernel_rfl) (an z z (OpOk.call (rewrite_Turn_con (x0 := (⟨v13.1, v21, v22, ([120] : List UInt8), false, (⟨([] : List UInt8), ([] : List (List Int)), ([] : List (List (List UInt8))), ([] : List Bool), ([] : List (List UInt8))⟩ : Seq)⟩ : Rule)) hr108_0 hr108_1 hr108_2 hr124_0 hr124_1 hr124_2 hr127_0 hr127_1 hr127_2 (RZ.nilF _ (pkSl 1 Go.E.encI Go.E.encI_len)) (RZ.nilF _ (pkSl 1 Go.E.encS Go.E.encS_len)) (RS.nilF _ encB encB_len) (RS.nilF _ Go.E.encS Go.E.encS_len) u24) z z pf8 z z z z ?_) (an z z (OpOk.alloc z ze36 z z (fun b131 => (kl 1 (hle124.trans hle127) ?_))) (True.intro)))))
    ·skip
     rintro _ τ130 _ hle130 ⟨a130_1, c130_1, rfl, hr130_0, rfl⟩
     replace hgl := hgl.mono hle130
     replace hn104 := hn104.mono hle130
     replace hn105 := hn105.mono hle130
     replace hr108_0 := hr108_0.mono hle130
     replace hr108_1 := hr108_1.mono hle130
     replace hr108_2 := hr108_2.mono hle130
     replace hr124_0 := hr124_0.mono hle130
     replace hr124_1 := hr124_1.mono hle130
     replace hr124_2 := hr124_2.mono hle130
     replace hr127_0 := hr127_0.mono hle130
     replace hr127_1 := hr127_1.mono hle130
     replace hr127_2 := hr127_2.mono hle130
     have hr130_0b := hr130_0.rv.big
     refine kl 0 ((hle124.trans hle127).trans hle130) (TA.a 5 z (OpVal.moveT (.inl z) z) z (TA.a 6 z (OpVal.extract z z z) z (TA.a 7 z (OpVal.extract z z z) z (TA.ac 8 z (OpOk.alloc z ze36 z z (fun b133 => (kl 1 ((hle124.trans hle127).trans hle130) ?_)))))))
     refine TA.last 9 (by kernel_rfl) z z z (OpOk.storeAll z sz36 z z z z z z ?_)
     exact TZ.v 10 (by kernel_rfl) z z z (OpVal.moveI (.inr z) z) z z (TZ.done (by kernel_rfl) (S.n (cf ((v24.1.text, v24.1.at', v24.2), (b133, a130_1, c130_1, τ130)) ⟨hh, hr130_0, ((hle124.trans hle127).trans hle130)⟩ (Sub.pre 1 z))))
    ·skip
     refine TA.ac 4 z (OpOk.call (rewrite_Turn_con (x0 := (⟨v13.1, v21, v22, ([120] : List UInt8), false, (⟨([] : List UInt8), ([] : List (List Int)), ([] : List (List (List UInt8))), ([] : List Bool), ([] : List (List UInt8))⟩ : Seq)⟩ : Rule)) hr108_0 hr108_1 hr108_2 hr124_0 hr124_1 hr124_2 hr127_0 hr127_1 hr127_2 (RZ.nilF _ (pkSl 1 Go.E.encI Go.E.encI_len)) (RZ.nilF _ (pkSl 1 Go.E.encS Go.E.encS_len)) (RS.nilF _ encB encB_len) (RS.nilF _ Go.E.encS Go.E.encS_len) u24) z z pf8 z z z z ?_)
     rintro _ τ135 _ hle135 ⟨a135_1, c135_1, rfl, hr135_0, rfl⟩
     replace hgl := hgl.mono hle135
     replace hn104 := hn104.mono hle135
     replace hn105 := hn105.mono hle135
     replace hr108_0 := hr108_0.mono hle135
     replace hr108_1 := hr108_1.mono hle135
     replace hr108_2 := hr108_2.mono hle135
     replace hr124_0 := hr124_0.mono hle135
     replace hr124_1 := hr124_1.mono hle135
     replace hr124_2 := hr124_2.mono hle135
     replace hr127_0 := hr127_0.mono hle135
     replace hr127_1 := hr127_1.mono hle135
     replace hr127_2 := hr127_2.mono hle135
     have hr135_0b := hr135_0.rv.big
     refine kl 1 ((hle124.trans hle127).trans hle135) (TA.a 5 z (OpVal.moveT (.inl z) z) z (TA.a 6 z (OpVal.extract z z z) z (TA.a 7 z (OpVal.extract z z z) z (TA.last 9 (by kernel_rfl) z z z (OpOk.storeAll z sz36 z z z z z z ?_)))))
     exact TZ.v 10 (by kernel_rfl) z z z (OpVal.moveI (.inr z) z) z z (TZ.done (by kernel_rfl) (S.n (cf ((v24.1.text, v24.1.at', v24.2), (b131, a135_1, c135_1, τ135)) ⟨hh, hr135_0, ((hle124.trans hle127).trans hle135)⟩ (Sub.pre 1 z))))
   ·skip
    refine TA.ac 2 z (OpOk.call (whittlelaw24_all_con u22) z z pf42 z z z z ?_)
    rintro _ τ136 _ hle136 ⟨a136_1, c136_1, a136_2, c136_2, a136_3, c136_3, rfl, hr136_0, hr136_1, hr136_2, rfl⟩
    replace hgl := hgl.mono hle136
    replace hn104 := hn104.mono hle136
    replace hn105 := hn105.mono hle136
    replace hr108_0 := hr108_0.mono hle136
    replace hr108_1 := hr108_1.mono hle136
    replace hr108_2 := hr108_2.mono hle136
    replace hr124_0 := hr124_0.mono hle136
    replace hr124_1 := hr124_1.mono hle136
    replace hr124_2 := hr124_2.mono hle136
    have hr136_0b := hr136_0.rv.big
    have hr136_1b := hr136_1.big
    have hr136_2b := hr136_2.rv.big
    refine kl 1 (hle124.trans hle136) (TA.a 3 z (OpVal.buildL z pl32 ze32 z) z (TA.ac 4 z (OpOk.call (rewrite_Turn_con (x0 := (⟨v13.1, v21, v22, ([120] : List UInt8), false, (⟨([] : List UInt8), ([] : List (List Int)), ([] : List (List (List UInt8))), ([] : List Bool), ([] : List (List UInt8))⟩ : Seq)⟩ : Rule)) hr108_0 hr108_1 hr108_2 hr124_0 hr124_1 hr124_2 hr136_0 hr136_1 hr136_2 (RZ.nilF _ (pkSl 1 Go.E.encI Go.E.encI_len)) (RZ.nilF _ (pkSl 1 Go.E.encS Go.E.encS_len)) (RS.nilF _ encB encB_len) (RS.nilF _ Go.E.encS Go.E.encS_len) u24) z z pf8 z z z z ?_)))
    rintro _ τ137 _ hle137 ⟨a137_1, c137_1, rfl, hr137_0, rfl⟩
    replace hgl := hgl.mono hle137
    replace hn104 := hn104.mono hle137
    replace hn105 := hn105.mono hle137
    replace hr108_0 := hr108_0.mono hle137
    replace hr108_1 := hr108_1.mono hle137
    replace hr108_2 := hr108_2.mono hle137
    replace hr124_0 := hr124_0.mono hle137
    replace hr124_1 := hr124_1.mono hle137
    replace hr124_2 := hr124_2.mono hle137
    replace hr136_0 := hr136_0.mono hle137
    replace hr136_1 := hr136_1.mono hle137
    replace hr136_2 := hr136_2.mono hle137
    have hr137_0b := hr137_0.rv.big
    refine kl 1 ((hle124.trans hle136).trans hle137) (TA.a 5 z (OpVal.moveT (.inl z) z) z (TA.a 6 z (OpVal.extract z z z) z (TA.a 7 z (OpVal.extract z z z) z (TA.last 9 (by kernel_rfl) z z z (OpOk.storeAll z sz36 z z z z z z ?_)))))
    exact TZ.v 10 (by kernel_rfl) z z z (OpVal.moveI (.inr z) z) z z (TZ.done (by kernel_rfl) (S.n (cf ((v24.1.text, v24.1.at', v24.2), (b128, a137_1, c137_1, τ137)) ⟨hh, hr137_0, ((hle124.trans hle136).trans hle137)⟩ (Sub.pre 1 z))))
  ·skip
   refine TA.ac 1 z (OpOk.call (whittlelaw24_all_con u21) z z pf42 z z z z ?_)
   rintro _ τ138 _ hle138 ⟨a138_1, c138_1, a138_2, c138_2, a138_3, c138_3, rfl, hr138_0, hr138_1, hr138_2, rfl⟩
   replace hgl := hgl.mono hle138
   replace hn104 := hn104.mono hle138
   replace hn105 := hn105.mono hle138
   replace hr108_0 := hr108_0.mono hle138
   replace hr108_1 := hr108_1.mono hle138
   replace hr108_2 := hr108_2.mono hle138
   have hr138_0b := hr138_0.rv.big
   have hr138_1b := hr138_1.big
   have hr138_2b := hr138_2.rv.big
   refine kl 1 hle138 (TA.ac 2 z (OpOk.call (whittlelaw24_all_con u22) z z pf42 z z z z ?_))
   rintro _ τ139 _ hle139 ⟨a139_1, c139_1, a139_2, c139_2, a139_3, c139_3, rfl, hr139_0, hr139_1, hr139_2, rfl⟩
   replace hgl := hgl.mono hle139
   replace hn104 := hn104.mono hle139
   replace hn105 := hn105.mono hle139
   replace hr108_0 := hr108_0.mono hle139
   replace hr108_1 := hr108_1.mono hle139
   replace hr108_2 := hr108_2.mono hle139
   replace hr138_0 := hr138_0.mono hle139
   replace hr138_1 := hr138_1.mono hle139
   replace hr138_2 := hr138_2.mono hle139
   have hr139_0b := hr139_0.rv.big
   have hr139_1b := hr139_1.big
   have hr139_2b := hr139_2.rv.big
   refine kl 1 (hle138.trans hle139) (TA.a 3 z (OpVal.buildL z pl32 ze32 z) z (TA.ac 4 z (OpOk.call (rewrite_Turn_con (x0 := (⟨v13.1, v21, v22, ([120] : List UInt8), false, (⟨([] : List UInt8), ([] : List (List Int)), ([] : List (List (List UInt8))), ([] : List Bool), ([] : List (List UInt8))⟩ : Seq)⟩ : Rule)) hr108_0 hr108_1 hr108_2 hr138_0 hr138_1 hr138_2 hr139_0 hr139_1 hr139_2 (RZ.nilF _ (pkSl 1 Go.E.encI Go.E.encI_len)) (RZ.nilF _ (pkSl 1 Go.E.encS Go.E.encS_len)) (RS.nilF _ encB encB_len) (RS.nilF _ Go.E.encS Go.E.encS_len) u24) z z pf8 z z z z ?_)))
   rintro _ τ140 _ hle140 ⟨a140_1, c140_1, rfl, hr140_0, rfl⟩
   replace hgl := hgl.mono hle140
   replace hn104 := hn104.mono hle140
   replace hn105 := hn105.mono hle140
   replace hr108_0 := hr108_0.mono hle140
   replace hr108_1 := hr108_1.mono hle140
   replace hr108_2 := hr108_2.mono hle140
   replace hr138_0 := hr138_0.mono hle140
   replace hr138_1 := hr138_1.mono hle140
   replace hr138_2 := hr138_2.mono hle140
   replace hr139_0 := hr139_0.mono hle140
   replace hr139_1 := hr139_1.mono hle140
   replace hr139_2 := hr139_2.mono hle140
   have hr140_0b := hr140_0.rv.big
   refine kl 1 ((hle138.trans hle139).trans hle140) (TA.a 5 z (OpVal.moveT (.inl z) z) z (TA.a 6 z (OpVal.extract z z z) z (TA.a 7 z (OpVal.extract z z z) z (TA.last 9 (by kernel_rfl) z z z (OpOk.storeAll z sz36 z z z z z z ?_)))))
   exact TZ.v 10 (by kernel_rfl) z z z (OpVal.moveI (.inr z) z) z z (TZ.done (by kernel_rfl) (S.n (cf ((v24.1.text, v24.1.at', v24.2), (b125, a140_1, c140_1, τ140)) ⟨hh, hr140_0, ((hle138.trans hle139).trans hle140)⟩ (Sub.pre 1 z))))
 ·skip
  obtain ⟨⟨s113, l114, i118⟩, ⟨b112, a115, c116, τ141⟩⟩ := g
  obtain ⟨hh, hr117, hle142⟩ := hg
  try dsimp only at hr117
  dsimp only at hle142
  replace hgl := hgl.mono hle142
  replace hn104 := hn104.mono hle142
  replace hn105 := hn105.mono hle142
  replace hr108_0 := hr108_0.mono hle142
  replace hr108_1 := hr108_1.mono hle142
  replace hr108_2 := hr108_2.mono hle142
  show TC _ _ _ (upds (mask _ j _) [(5, loc b112 0), (6, .int .i64 i118)]) τ141 [Res.cells b112 #[.string (bs s113), .slice a115 l114.length c116] 36]
  dsimp only [whittlelaw24_awake_j1] at hh
  have hr117b := hr117.rv.big
  refine TC.a (TL.v z (OpVal.buildL z pl56 ze56 z) z z (TL.v z (OpVal.buildL z pl56 ze56 z) z z (TL.v z (OpVal.buildL z pl56 ze56 z) z z (TL.op z (OpOk.lit (enc := encSpan) [(⟨0, 1⟩ : Span), (⟨1, 3⟩ : Span), (⟨3, 4⟩ : Span)] z Tryz.underlying34 sz56 ze56 z z z encSpan_len (by decide) (by decide) Span.zero z (by decide) z (by decide) encSpan_one (fun a143 c144 => ?_))))))
  refine TL.v z (OpVal.buildL z pl36 ze36 z) z z (TL.op z (OpOk.alloc z ze36 z z (fun b146 => ?_)))
  refine TL.op z (OpOk.storeAll z sz36 z z z z z z ?_)
  refine TL.en (TC.a (TL.a z (.inl z) z z z (TL.v z (OpVal.eql z z z) z z (TL.b z (.inl z) z z z (TL.split 35 z (fun h148 => ?_) (fun h148 => ?_))))))
  ·replace hh := iteO_t h148 hh
   replace h148 := of_decide_eq_true h148
   refine TL.gv z z z z z (OpVal.moveI (.inl z) z) z z (TL.gv z z z z z (OpVal.moveI (.inl z) z) z z (TL.gv z z z z z (OpVal.eql z z z) z z (TL.v z (OpVal.pickTB z z z) z z (TL.b z (.inl z) z z z (TL.split 40 z (fun h149 => ?_) (fun h149 => ?_))))))
   ·replace hh := iteO_t h149 hh
    replace h149 := of_decide_eq_true h149
    refine TL.gv z z z z z (OpVal.moveI (.inl z) z) z z (TL.gv z z z z z (OpVal.moveI (.inl z) z) z z (TL.gv z z z z z (OpVal.eql z z z) z z (TL.v z (OpVal.pickTB z z z) z z (TL.b z (.inl z) z z z (TL.split 45 z (fun h150 => ?_) (fun h150 => ?_))))))
    ·replace hh := iteO_t h150 hh
     replace h150 := of_decide_eq_true h150
     refine TL.gv z z z z z (OpVal.loadAll z ag36 sz36 z (i := 2) z z) z z (TL.gv z z z z z (OpVal.loadAll z ag36 sz36 z (i := 0) z z) z z ?_)
     obtain ⟨v53, u53, hh⟩ := bnd_e hh
     refine TL.front 1 z z (TL.gon z z z z z (OpOk.callK (Con.lend encSpan_len (fun _ hle152 hr151 => whittleref24_Same_con (x0 := (⟨s113, l114⟩ : Piece)) (x1 := (⟨([98, 120, 99] : List UInt8), [(⟨0, 1⟩ : Span), (⟨1, 3⟩ : Span), (⟨3, 4⟩ : Span)]⟩ : Piece)) (hr117.mono hle152) hr151 u53)) z z pf15 z z z z ?_))
     refine TL.v z (OpVal.pickTB z z z) z z (TL.b z (.inr z) z z z (TL.en (TC.ofSub (Sub.pre 0 z) (TC.back (TC.ret ?_)))))
     obtain rfl := so hh
     exact r1 0
    ·replace hh := iteO_f h150 hh
     replace h150 := of_decide_eq_false h150
     refine TL.goff z z z z z z z z (TL.goff z z z z z z z z (TL.goff z z z z z z z z (TL.v z (OpVal.pickFB z z z) z z (TL.b z (.inr z) z z z (TL.en (TC.ofSub (Sub.pre 0 z) (TC.back (TC.ret ?_))))))))
     obtain rfl := so hh
     exact r1 0
   ·replace hh := iteO_f h149 hh
    replace h149 := of_decide_eq_false h149
    refine TL.goff z z z z z z z z (TL.goff z z z z z z z z (TL.goff z z z z z z z z (TL.v z (OpVal.pickFB z z z) z z (TL.b z (.inl z) z z z (TL.goff z z z z z z z z (TL.goff z z z z z z z z (TL.goff z z z z z z z z (TL.v z (OpVal.pickFB z z z) z z (TL.b z (.inr z) z z z ?_)))))))))
    refine TL.en (TC.ofSub (Sub.pre 0 z) (TC.back (TC.ret ?_)))
    obtain rfl := so hh
    exact r1 0
  ·replace hh := iteO_f h148 hh
   replace h148 := of_decide_eq_false h148
   refine TL.goff z z z z z z z z (TL.goff z z z z z z z z (TL.goff z z z z z z z z (TL.v z (OpVal.pickFB z z z) z z (TL.b z (.inl z) z z z (TL.goff z z z z z z z z (TL.goff z z z z z z z z (TL.goff z z z z z z z z (TL.v z (OpVal.pickFB z z z) z z (TL.b z (.inl z) z z z ?_)))))))))
   refine TL.goff z z z z z z z z (TL.goff z z z z z z z z (TL.goff z z z z z z z z (TL.v z (OpVal.pickFB z z z) z z (TL.b z (.inr z) z z z (TL.en (TC.ofSub (Sub.pre 0 z) (TC.back (TC.ret ?_))))))))
   obtain rfl := so hh
   exact r1 0

end Go.Proofs.YtmfclggfajopkaaGreatDoor
end

/- Cmp -/
section
/- Partial functions compared: what the one answers, the other answers. Plain lemmas; no program, no condition. -/
set_option linter.unusedVariables false
set_option linter.unusedSimpArgs false
namespace Go.E
open Go

/-- Where a answers, b answers the same. -/
class LeC {α : Type} (a b : Option α) : Prop where
  le : ∀ r, a = some r → b = some r
instance LeC.bnd {α β : Type} {a b : Option α} {f g : α → Option β} [h : LeC a b] [k : ∀ x, LeC (f x) (g x)] : LeC (Go.E.bnd a f) (Go.E.bnd b g) := ⟨fun r hr => by
  obtain ⟨x, h1, h2⟩ := bnd_e hr
  rw [bnd_some (h.le _ h1)]; exact (k x).le _ h2⟩
instance LeC.grd {α : Type} {p : Prop} [Decidable p] {a b : Option α} [h : LeC a b] : LeC (Go.E.grd p a) (Go.E.grd p b) := ⟨fun r hr => by
  rw [grd_mk (grd_c hr)]; exact h.le _ (grd_t hr)⟩
instance LeC.iteO {α : Type} {c : Bool} {a b a' b' : Option α} [h : LeC a b] [k : LeC a' b'] : LeC (Go.E.iteO c a a') (Go.E.iteO c b b') := ⟨fun r hr => by
  cases c
  · exact k.le _ hr
  · exact h.le _ hr⟩
instance LeC.fin {S α : Type} {a b : Option α} [h : LeC a b] : LeC (Go.E.fin (S := S) a) (Go.E.fin b) := ⟨fun r hr => by
  cases a with
  | none => cases hr
  | some x => rw [h.le x rfl]; exact hr⟩
instance LeC.nxt {S R : Type} {s : S} : LeC (Go.E.nxt (R := R) s) (Go.E.nxt s) := ⟨fun _ h => h⟩
instance LeC.some {α : Type} {x : α} : LeC (Option.some x) (Option.some x) := ⟨fun _ h => h⟩
instance LeC.none {α : Type} {b : Option α} : LeC Option.none b := ⟨fun _ h => by cases h⟩
/-- A loop, its rounds counted. -/
def iterX {S R : Type} (n : Nat) (f : S → Option (S ⊕ R)) (s : S) : Option R := iterN f n s
theorem iterN_LeC {S R : Type} {f g : S → Option (S ⊕ R)} (h : ∀ s, LeC (f s) (g s)) : ∀ (n : Nat) (s : S) (r : R), iterN f n s = Option.some r → iterN g n s = Option.some r
  | 0, _, _, hr => by cases hr
  | n + 1, s, r, hr => by
    rw [iterN] at hr ⊢
    cases hs : f s with
    | none => rw [hs] at hr; cases hr
    | some z =>
      rw [hs] at hr
      rw [(h s).le z hs]
      cases z with
      | inl s' => exact iterN_LeC h n s' r hr
      | inr r' => exact hr
instance LeC.iter {S R : Type} {n : Nat} {f g : S → Option (S ⊕ R)} {s : S} [h : ∀ s, LeC (f s) (g s)] : LeC (iterX n f s) (Go.E.iter g s) := ⟨fun r hr => iter_iff.2 ⟨n, iterN_LeC h n s r hr⟩⟩
instance LeC.stepY {S α : Type} {B B' : S → α → Option (Nat × S)} {p : Nat × S} {x : α} [h : ∀ s x, LeC (B s x) (B' s x)] : LeC (Go.E.stepY B p x) (Go.E.stepY B' p x) := ⟨fun r hr => by
  unfold Go.E.stepY at hr ⊢
  split at hr
  · rename_i h0
    rw [if_pos h0]
    cases hb : B p.2 x with
    | none => rw [hb] at hr; cases hr
    | some q => rw [hb] at hr; rw [(h p.2 x).le q hb]; exact hr
  · cases hr⟩
instance LeC.jsel {α : Type} {j : Nat} {a a' : Option α} {b b' : Nat → Option α} [h : LeC a a'] [k : ∀ j, LeC (b j) (b' j)] : LeC (Go.E.jsel j a b) (Go.E.jsel j a' b') := ⟨fun r hr => by
  cases j with
  | zero => exact h.le _ hr
  | succ j => exact (k j).le _ hr⟩
end Go.E
end

/- Isr -/
section
/- Sorting by putting in, for the kernel to run. Plain lemmas; no program, no condition. -/
set_option linter.unusedVariables false
set_option linter.unusedSimpArgs false
namespace Go.E
open Go

def insI (a : Int) : List Int → List Int
  | [] => [a]
  | b :: l => if a ≤ b then a :: b :: l else b :: insI a l
def isortI : List Int → List Int
  | [] => []
  | a :: l => insI a (isortI l)
theorem insI_app {a : Int} {l2 : List Int} (h2 : ∀ b ∈ l2, a ≤ b) : ∀ (l1 : List Int), (∀ b ∈ l1, ¬ a ≤ b) → insI a (l1 ++ l2) = l1 ++ a :: l2
  | [], _ => by
    cases l2 with
    | nil => rfl
    | cons b l => simp [insI, h2 b (List.mem_cons_self ..)]
  | b :: l1, h => by
    have h1 := h b (List.mem_cons_self ..)
    simp only [List.cons_append, insI, if_neg h1, insI_app h2 l1 (fun c hc => h c (List.mem_cons_of_mem _ hc))]
theorem isortI_eq : ∀ (l : List Int), isortI l = l.mergeSort fun x y => decide (x ≤ y)
  | [] => by simp [isortI]
  | a :: l => by
    have ht : ∀ a b c : Int, decide (a ≤ b) = true → decide (b ≤ c) = true → decide (a ≤ c) = true := fun a b c h k => by simp at *; omega
    have hT : ∀ a b : Int, (decide (a ≤ b) || decide (b ≤ a)) = true := fun a b => by simp; omega
    obtain ⟨l1, l2, h1, h2, h3⟩ := List.mergeSort_cons (le := fun x y => decide (x ≤ y)) ht hT a l
    have hs := List.pairwise_mergeSort (le := fun x y => decide (x ≤ y)) ht hT (a :: l)
    rw [h1] at hs ⊢
    rw [isortI, isortI_eq l, h2]
    refine insI_app (fun b hb => ?_) l1 (fun b hb => ?_)
    · have := (List.pairwise_append.1 hs).2.1
      simpa using (List.pairwise_cons.1 this).1 b hb
    · simpa using h3 b hb
end Go.E
end

/- X24 -/
section
/- The decompiled functions that dfa_Of reaches, with rounds that are counted: for the kernel to run. No condition. -/
set_option linter.unusedVariables false
set_option linter.unusedSimpArgs false
namespace Go.Proofs.YtmfclggfajopkaaGreatDoor
open Go Go.E
set_option maxRecDepth 100000
set_option synthInstance.maxHeartbeats 2000000
set_option synthInstance.maxSize 100000
set_option maxHeartbeats 4000000
def compactI_j1_x (n : Nat) (k125 : Nat) (l128 : List Int) (k130 : Nat) : Option (((List Int) × Nat × Nat) ⊕ ((Nat) ⊕ ((List Int)))) :=
  nxt (l128, k130, (k125 + 1))
instance compactI_j1_le {n : Nat} {k125 : Nat} {l128 : List Int} {k130 : Nat} : LeC (compactI_j1_x n k125 l128 k130) (compactI_j1 k125 l128 k130) := by
  unfold compactI_j1_x compactI_j1; infer_instance
def compactI_b2_x (n : Nat) (x0 : List Int) (k105 : Nat) (l122 : List Int) (k124 : Nat) (k125 : Nat) : Option (((List Int) × Nat × Nat) ⊕ ((Nat) ⊕ ((List Int)))) :=
  iteO (decide (((k125 : Nat) : Int) < (((x0.length - k105) : Nat) : Int))) (grd (k125 < (x0.length - k105)) (grd (0 ≤ (IntKind.i64.wrap (((k125 : Nat) : Int) - 1)) ∧ (IntKind.i64.wrap (((k125 : Nat) : Int) - 1)) < ((x0.length - k105) : Nat)) (iteO (decide ((nth l122 (k105 + k125) (0 : Int)) ≠ (nth l122 (k105 + (IntKind.i64.wrap (((k125 : Nat) : Int) - 1)).toNat) (0 : Int)))) (grd (k125 < (x0.length - k105)) (grd (k124 < l122.length) (compactI_j1_x n k125 (l122.set k124 (nth l122 (k105 + k125) (0 : Int))) (k124 + 1)))) (compactI_j1_x n k125 l122 k124)))) (fin (grd (k124 ≤ x0.length) (grd (k124 ≤ (l122.take k124 ++ List.replicate (l122.length - k124) (0 : Int)).length) (fin (some ((l122.take k124 ++ List.replicate (l122.length - k124) (0 : Int)).take k124))))))
instance compactI_b2_le {n : Nat} {x0 : List Int} {k105 : Nat} {l122 : List Int} {k124 : Nat} {k125 : Nat} : LeC (compactI_b2_x n x0 k105 l122 k124 k125) (compactI_b2 x0 k105 l122 k124 k125) := by
  unfold compactI_b2_x compactI_b2; infer_instance
def compactI_b1_x (n : Nat) (x0 : List Int) (k105 : Nat) : Option ((Nat) ⊕ ((List Int))) :=
  iteO (decide (((k105 : Nat) : Int) < ((x0.length : Nat) : Int))) (grd (0 ≤ (IntKind.i64.wrap (((k105 : Nat) : Int) - 1)) ∧ (IntKind.i64.wrap (((k105 : Nat) : Int) - 1)) < (x0.length : Int)) (iteO (decide ((nth x0 k105 (0 : Int)) = (nth x0 ((IntKind.i64.wrap (((k105 : Nat) : Int) - 1)).toNat) (0 : Int)))) (grd (k105 ≤ x0.length) (iterX n (fun q : (List Int) × Nat × Nat => compactI_b2_x n x0 k105 q.1 q.2.1 q.2.2) (x0, k105, 1))) (nxt (k105 + 1)))) (fin (some x0))
instance compactI_b1_le {n : Nat} {x0 : List Int} {k105 : Nat} : LeC (compactI_b1_x n x0 k105) (compactI_b1 x0 k105) := by
  unfold compactI_b1_x compactI_b1; infer_instance
def compactI_x (n : Nat) (x0 : List Int) : Option ((List Int)) :=
  iteO (decide (((x0.length : Nat) : Int) < 2)) (some x0) (iterX n (fun q : Nat => compactI_b1_x n x0 q) 1)
instance compactI_le {n : Nat} {x0 : List Int} : LeC (compactI_x n x0) (compactI x0) := by
  unfold compactI_x compactI; infer_instance
def intern_Sort_x (n : Nat) (x0 : List Int) : Option ((List Int)) :=
  grd (x0.length * 8 ≤ 140737488355328) (bnd (compactI_x n (isortI x0)) (fun v8 => some v8))
instance intern_Sort_le {n : Nat} {x0 : List Int} : LeC (intern_Sort_x n x0) (intern_Sort x0) := by
  unfold intern_Sort_x intern_Sort; simp only [isortI_eq]; infer_instance
def intern_key_b2_x (n : Nat) (x0 : List Int) (k115 : Nat) (l126 : List UInt8) (k129 : Nat) : Option (((List UInt8) × Nat) ⊕ (((List UInt8) × Nat) ⊕ ((List UInt8)))) :=
  iteO (decide (((k129 : Nat) : Int) < 8)) (grd (0 ≤ IntKind.i64.wrap (8 * ((k129 : Nat) : Int))) (grd ((l126.length + [(toU8 (((u64shr (u64of (nth x0 k115 (0 : Int))) ((IntKind.i64.wrap (8 * ((k129 : Nat) : Int))).toNat)) : Nat) : Int))].length) * 1 ≤ 140737488355328) (nxt ((l126 ++ [(toU8 (((u64shr (u64of (nth x0 k115 (0 : Int))) ((IntKind.i64.wrap (8 * ((k129 : Nat) : Int))).toNat)) : Nat) : Int))]), (k129 + 1))))) (fin (nxt (l126, (k115 + 1))))
instance intern_key_b2_le {n : Nat} {x0 : List Int} {k115 : Nat} {l126 : List UInt8} {k129 : Nat} : LeC (intern_key_b2_x n x0 k115 l126 k129) (intern_key_b2 x0 k115 l126 k129) := by
  unfold intern_key_b2_x intern_key_b2; infer_instance
def intern_key_b1_x (n : Nat) (x0 : List Int) (l112 : List UInt8) (k115 : Nat) : Option (((List UInt8) × Nat) ⊕ ((List UInt8))) :=
  iteO (decide (((k115 : Nat) : Int) < ((x0.length : Nat) : Int))) (iterX n (fun q : (List UInt8) × Nat => intern_key_b2_x n x0 k115 q.1 q.2) (l112, 0)) (fin (some l112))
instance intern_key_b1_le {n : Nat} {x0 : List Int} {l112 : List UInt8} {k115 : Nat} : LeC (intern_key_b1_x n x0 l112 k115) (intern_key_b1 x0 l112 k115) := by
  unfold intern_key_b1_x intern_key_b1; infer_instance
def intern_key_x (n : Nat) (x0 : List Int) : Option ((List UInt8)) :=
  grd (0 ≤ IntKind.i64.wrap (8 * ((x0.length : Nat) : Int)) ∧ 1 * (IntKind.i64.wrap (8 * ((x0.length : Nat) : Int))).toNat ≤ 281474976710656) (iterX n (fun q : (List UInt8) × Nat => intern_key_b1_x n x0 q.1 q.2) (([] : List UInt8), 0))
instance intern_key_le {n : Nat} {x0 : List Int} : LeC (intern_key_x n x0) (intern_key x0) := by
  unfold intern_key_x intern_key; infer_instance
def intern_store_string_find_x (n : Nat) (x0 : IStore) (x1 : List UInt8) : Option (Int × Bool) :=
  grd (x1.length ≤ 281474976710656) (some ((x0.places.get x1 0), (x0.places.has x1)))
instance intern_store_string_find_le {n : Nat} {x0 : IStore} {x1 : List UInt8} : LeC (intern_store_string_find_x n x0 x1) (intern_store_string_find x0 x1) := by
  unfold intern_store_string_find_x intern_store_string_find; infer_instance
def intern_store_string_add_x (n : Nat) (x0 : IStore) (x1 : List UInt8) (x2 : List Int) : Option (Int × IStore) :=
  grd (x1.length ≤ 281474976710656) (grd ((x0.rows.length + [x2].length) * 24 ≤ 140737488355328) (some (((x0.rows.length : Nat) : Int), (⟨(x0.rows ++ [x2]), (x0.places.put x1 ((x0.rows.length : Nat) : Int))⟩ : IStore))))
instance intern_store_string_add_le {n : Nat} {x0 : IStore} {x1 : List UInt8} {x2 : List Int} : LeC (intern_store_string_add_x n x0 x1 x2) (intern_store_string_add x0 x1 x2) := by
  unfold intern_store_string_add_x intern_store_string_add; infer_instance
def intern_New_x (n : Nat) : Option (ITable) :=
  some (⟨(⟨([] : List (List Int)), (FM.emp : FM (List UInt8) Int)⟩ : IStore)⟩ : ITable)
instance intern_New_le {n : Nat}  : LeC (intern_New_x n) (intern_New) := by
  unfold intern_New_x intern_New; infer_instance
def intern_Table_Put_x (n : Nat) (x0 : ITable) (x1 : List Int) : Option (Int × Bool × Int × ITable) :=
  bnd (intern_Sort_x n x1) (fun v10 => bnd (intern_key_x n v10) (fun v13 => bnd (intern_store_string_find_x n (⟨x0.of.rows, x0.of.places⟩ : IStore) v13) (fun v19 => iteO v19.2 (some (v19.1, false, 0, (⟨(⟨x0.of.rows, x0.of.places⟩ : IStore)⟩ : ITable))) (iteO (decide (4096 ≤ ((x0.of.rows.length : Nat) : Int))) (some (0, false, 2, (⟨(⟨x0.of.rows, x0.of.places⟩ : IStore)⟩ : ITable))) (bnd (intern_store_string_add_x n (⟨x0.of.rows, x0.of.places⟩ : IStore) v13 v10) (fun v45 => some (v45.1, true, 0, (⟨(⟨v45.2.rows, v45.2.places⟩ : IStore)⟩ : ITable))))))))
instance intern_Table_Put_le {n : Nat} {x0 : ITable} {x1 : List Int} : LeC (intern_Table_Put_x n x0 x1) (intern_Table_Put x0 x1) := by
  unfold intern_Table_Put_x intern_Table_Put; infer_instance
def intern_Table_Row_x (n : Nat) (x0 : ITable) (x1 : Int) : Option ((List Int) × Int) :=
  iteO (decide (x1 < 0)) (some (([] : List Int), 1)) (iteO (decide (((x0.of.rows.length : Nat) : Int) ≤ x1)) (some (([] : List Int), 1)) (grd (0 ≤ x1 ∧ x1 < (x0.of.rows.length : Int)) (grd ((nth x0.of.rows x1.toNat ([] : List Int)).length * 8 ≤ 140737488355328) (some ((nth x0.of.rows x1.toNat ([] : List Int)), 0)))))
instance intern_Table_Row_le {n : Nat} {x0 : ITable} {x1 : Int} : LeC (intern_Table_Row_x n x0 x1) (intern_Table_Row x0 x1) := by
  unfold intern_Table_Row_x intern_Table_Row; infer_instance
def putKeep_x (n : Nat) (x0 : ITable) (x1 : List Int) : Option (Int × Bool × Int × ITable) :=
  bnd (intern_Sort_x n x1) (fun v10 => bnd (intern_key_x n v10) (fun v13 => bnd (intern_store_string_find_x n (⟨x0.of.rows, x0.of.places⟩ : IStore) v13) (fun v19 => iteO v19.2 (some (v19.1, false, 0, (⟨(⟨x0.of.rows, x0.of.places⟩ : IStore)⟩ : ITable))) (iteO (decide (4096 ≤ ((x0.of.rows.length : Nat) : Int))) (some (0, false, 2, (⟨(⟨x0.of.rows, x0.of.places⟩ : IStore)⟩ : ITable))) (bnd (intern_store_string_add_x n (⟨x0.of.rows, x0.of.places⟩ : IStore) v13 v10) (fun v45 => some (v45.1, true, 0, (⟨(⟨v45.2.rows, v45.2.places⟩ : IStore)⟩ : ITable))))))))
instance putKeep_le {n : Nat} {x0 : ITable} {x1 : List Int} : LeC (putKeep_x n x0 x1) (putKeep x0 x1) := by
  unfold putKeep_x putKeep; infer_instance
def intern_Table_Size_x (n : Nat) (x0 : ITable) : Option (Int) :=
  some ((x0.of.rows.length : Nat) : Int)
instance intern_Table_Size_le {n : Nat} {x0 : ITable} : LeC (intern_Table_Size_x n x0) (intern_Table_Size x0) := by
  unfold intern_Table_Size_x intern_Table_Size; infer_instance
def math_bits_TrailingZeros64_x (n : Nat) (x0 : Nat) : Option (Int) :=
  iteO (decide (x0 = 0)) (some 64) (grd ((u64shr (u64mul (u64and x0 (u64of (-((x0 : Nat) : Int)))) 285870213051353865) 58) < 64) (some (((nth deB (u64shr (u64mul (u64and x0 (u64of (-((x0 : Nat) : Int)))) 285870213051353865) 58) (0 : UInt8)).toNat : Nat) : Int)))
instance math_bits_TrailingZeros64_le {n : Nat} {x0 : Nat} : LeC (math_bits_TrailingZeros64_x n x0) (math_bits_TrailingZeros64 x0) := by
  unfold math_bits_TrailingZeros64_x math_bits_TrailingZeros64; infer_instance
def set_First_b1_x (n : Nat) (x0 : BSet) (k105 : Nat) : Option ((Nat) ⊕ (UInt8 × Bool)) :=
  iteO (decide (((k105 : Nat) : Int) < 4)) (grd (k105 < 4) (iteO (decide ((BSet.word x0 k105) ≠ 0)) (bnd (math_bits_TrailingZeros64_x n (BSet.word x0 k105)) (fun v16 => fin (some ((toU8 (IntKind.i64.wrap ((IntKind.i64.wrap (64 * ((k105 : Nat) : Int))) + v16))), true)))) (nxt (k105 + 1)))) (fin (some ((0 : UInt8), false)))
instance set_First_b1_le {n : Nat} {x0 : BSet} {k105 : Nat} : LeC (set_First_b1_x n x0 k105) (set_First_b1 x0 k105) := by
  unfold set_First_b1_x set_First_b1; infer_instance
def set_First_x (n : Nat) (x0 : BSet) : Option (UInt8 × Bool) :=
  iterX n (fun q : Nat => set_First_b1_x n x0 q) 0
instance set_First_le {n : Nat} {x0 : BSet} : LeC (set_First_x n x0) (set_First x0) := by
  unfold set_First_x set_First; infer_instance
def set_Any_b1_x (n : Nat) (x1 : BSet) (z111 : BSet) (k112 : Nat) : Option ((BSet × Nat) ⊕ (BSet)) :=
  iteO (decide (((k112 : Nat) : Int) < 4)) (grd (k112 < 4) (grd (k112 < 4) (grd (k112 < 4) (grd ((u64or (BSet.word z111 k112) (BSet.word x1 k112)) < 18446744073709551616) (nxt ((BSet.setWord z111 k112 (u64or (BSet.word z111 k112) (BSet.word x1 k112))), (k112 + 1))))))) (fin (some z111))
instance set_Any_b1_le {n : Nat} {x1 : BSet} {z111 : BSet} {k112 : Nat} : LeC (set_Any_b1_x n x1 z111 k112) (set_Any_b1 x1 z111 k112) := by
  unfold set_Any_b1_x set_Any_b1; infer_instance
def set_Any_x (n : Nat) (x0 : BSet) (x1 : BSet) : Option (BSet) :=
  iterX n (fun q : BSet × Nat => set_Any_b1_x n x1 q.1 q.2) (x0, 0)
instance set_Any_le {n : Nat} {x0 : BSet} {x1 : BSet} : LeC (set_Any_x n x0 x1) (set_Any x0 x1) := by
  unfold set_Any_x set_Any; infer_instance
def part_key_j1_x (n : Nat) (k112 : Nat) (l115 : List UInt8) : Option (((List UInt8) × Nat) ⊕ ((List UInt8))) :=
  nxt (l115, (k112 + 1))
instance part_key_j1_le {n : Nat} {k112 : Nat} {l115 : List UInt8} : LeC (part_key_j1_x n k112 l115) (part_key_j1 k112 l115) := by
  unfold part_key_j1_x part_key_j1; infer_instance
def part_key_b1_x (n : Nat) (x0 : List BSet) (x1 : UInt8) (l110 : List UInt8) (k112 : Nat) : Option (((List UInt8) × Nat) ⊕ ((List UInt8))) :=
  iteO (decide (((k112 : Nat) : Int) < ((x0.length : Nat) : Int))) (iteO ((nth x0 k112 BSet.zero).has x1.toNat) (grd (k112 < l110.length) (part_key_j1_x n k112 (l110.set k112 (1 : UInt8)))) (part_key_j1_x n k112 l110)) (fin (some l110))
instance part_key_b1_le {n : Nat} {x0 : List BSet} {x1 : UInt8} {l110 : List UInt8} {k112 : Nat} : LeC (part_key_b1_x n x0 x1 l110 k112) (part_key_b1 x0 x1 l110 k112) := by
  unfold part_key_b1_x part_key_b1; infer_instance
def part_key_x (n : Nat) (x0 : List BSet) (x1 : UInt8) : Option ((List UInt8)) :=
  grd (1 * x0.length ≤ 281474976710656) (iterX n (fun q : (List UInt8) × Nat => part_key_b1_x n x0 x1 q.1 q.2) ((List.replicate x0.length (0 : UInt8)), 0))
instance part_key_le {n : Nat} {x0 : List BSet} {x1 : UInt8} : LeC (part_key_x n x0 x1) (part_key x0 x1) := by
  unfold part_key_x part_key; infer_instance
def part_Parts_j1_x (n : Nat) (k121 : Nat) (m125 : FM (List UInt8) Int) (l126 : List BSet) (i129 : Int) : Option (((FM (List UInt8) Int) × (List BSet) × Nat) ⊕ ((List BSet) × Int)) :=
  grd (0 ≤ i129 ∧ i129 < (l126.length : Int)) (grd ([(toU8 ((k121 : Nat) : Int))].length ≤ 1000000000000) (bnd (set_Any_x n (nth l126 i129.toNat BSet.zero) (BSet.ofL [(toU8 ((k121 : Nat) : Int))])) (fun v52 => grd (0 ≤ i129 ∧ i129 < (l126.length : Int)) (nxt (m125, (l126.set i129.toNat v52), (k121 + 1))))))
instance part_Parts_j1_le {n : Nat} {k121 : Nat} {m125 : FM (List UInt8) Int} {l126 : List BSet} {i129 : Int} : LeC (part_Parts_j1_x n k121 m125 l126 i129) (part_Parts_j1 k121 m125 l126 i129) := by
  unfold part_Parts_j1_x part_Parts_j1; infer_instance
def part_Parts_b1_x (n : Nat) (x0 : List BSet) (m116 : FM (List UInt8) Int) (l118 : List BSet) (k121 : Nat) : Option (((FM (List UInt8) Int) × (List BSet) × Nat) ⊕ ((List BSet) × Int)) :=
  iteO (decide (((k121 : Nat) : Int) < 256)) (bnd (part_key_x n x0 (toU8 ((k121 : Nat) : Int))) (fun v18 => iteO (!(m116.has v18)) (grd ((l118.length + [BSet.zero].length) * 32 ≤ 140737488355328) (part_Parts_j1_x n k121 (m116.put v18 ((l118.length : Nat) : Int)) (l118 ++ [BSet.zero]) ((l118.length : Nat) : Int))) (part_Parts_j1_x n k121 m116 l118 (m116.get v18 0)))) (fin (some (l118, 0)))
instance part_Parts_b1_le {n : Nat} {x0 : List BSet} {m116 : FM (List UInt8) Int} {l118 : List BSet} {k121 : Nat} : LeC (part_Parts_b1_x n x0 m116 l118 k121) (part_Parts_b1 x0 m116 l118 k121) := by
  unfold part_Parts_b1_x part_Parts_b1; infer_instance
def part_Parts_x (n : Nat) (x0 : List BSet) : Option ((List BSet) × Int) :=
  iteO (decide (1024 < ((x0.length : Nat) : Int))) (some (([] : List BSet), 2)) (iterX n (fun q : (FM (List UInt8) Int) × (List BSet) × Nat => part_Parts_b1_x n x0 q.1 q.2.1 q.2.2) ((FM.emp : FM (List UInt8) Int), ([] : List BSet), 0))
instance part_Parts_le {n : Nat} {x0 : List BSet} : LeC (part_Parts_x n x0) (part_Parts x0) := by
  unfold part_Parts_x part_Parts; infer_instance
def part_Class_j1_x (n : Nat) (k146 : Nat) (l149 : List Int) : Option (((List Int) × Nat) ⊕ (((List Int) × Int × Nat) ⊕ ((List Int) × Int))) :=
  nxt (l149, (k146 + 1))
instance part_Class_j1_le {n : Nat} {k146 : Nat} {l149 : List Int} : LeC (part_Class_j1_x n k146 l149) (part_Class_j1 k146 l149) := by
  unfold part_Class_j1_x part_Class_j1; infer_instance
def part_Class_b3_x (n : Nat) (x0 : List BSet) (k130 : Nat) (v29 : UInt8 × Bool) (l144 : List Int) (k146 : Nat) : Option (((List Int) × Nat) ⊕ (((List Int) × Int × Nat) ⊕ ((List Int) × Int))) :=
  iteO (decide (((k146 : Nat) : Int) < 256)) (iteO (!((nth x0 k130 BSet.zero).has (toU8 ((k146 : Nat) : Int)).toNat)) (part_Class_j1_x n k146 l144) (grd (k146 < l144.length) (iteO (decide (0 ≤ (nth l144 k146 (0 : Int)))) (fin (fin (some (([] : List Int), 1)))) (grd (k146 < l144.length) (part_Class_j1_x n k146 (l144.set k146 ((k130 : Nat) : Int))))))) (fin (nxt (l144, ((v29.1.toNat : Nat) : Int), (k130 + 1))))
instance part_Class_b3_le {n : Nat} {x0 : List BSet} {k130 : Nat} {v29 : UInt8 × Bool} {l144 : List Int} {k146 : Nat} : LeC (part_Class_b3_x n x0 k130 v29 l144 k146) (part_Class_b3 x0 k130 v29 l144 k146) := by
  unfold part_Class_b3_x part_Class_b3; infer_instance
def part_Class_b4_x (n : Nat) (l127 : List Int) (k165 : Nat) : Option ((Nat) ⊕ ((List Int) × Int)) :=
  iteO (decide (((k165 : Nat) : Int) < (((List.replicate 256 (0 : Int)).length : Nat) : Int))) (grd (k165 < l127.length) (iteO (decide ((nth l127 k165 (0 : Int)) < 0)) (fin (some (([] : List Int), 1))) (nxt (k165 + 1)))) (fin (some (l127, 0)))
instance part_Class_b4_le {n : Nat} {l127 : List Int} {k165 : Nat} : LeC (part_Class_b4_x n l127 k165) (part_Class_b4 l127 k165) := by
  unfold part_Class_b4_x part_Class_b4; infer_instance
def part_Class_b2_x (n : Nat) (x0 : List BSet) (l127 : List Int) (i129 : Int) (k130 : Nat) : Option (((List Int) × Int × Nat) ⊕ ((List Int) × Int)) :=
  iteO (decide (((k130 : Nat) : Int) < ((x0.length : Nat) : Int))) (bnd (set_First_x n (nth x0 k130 BSet.zero)) (fun v29 => iteO (!v29.2) (fin (some (([] : List Int), 1))) (iteO (decide (((v29.1.toNat : Nat) : Int) ≤ i129)) (fin (some (([] : List Int), 1))) (iterX n (fun q : (List Int) × Nat => part_Class_b3_x n x0 k130 v29 q.1 q.2) (l127, 0))))) (fin (iterX n (fun q : Nat => part_Class_b4_x n l127 q) 0))
instance part_Class_b2_le {n : Nat} {x0 : List BSet} {l127 : List Int} {i129 : Int} {k130 : Nat} : LeC (part_Class_b2_x n x0 l127 i129 k130) (part_Class_b2 x0 l127 i129 k130) := by
  unfold part_Class_b2_x part_Class_b2; infer_instance
def part_Class_b1_x (n : Nat) (x0 : List BSet) (l110 : List Int) (k112 : Nat) : Option (((List Int) × Nat) ⊕ ((List Int) × Int)) :=
  iteO (decide (((k112 : Nat) : Int) < (((List.replicate 256 (0 : Int)).length : Nat) : Int))) (grd (k112 < l110.length) (nxt ((l110.set k112 (-1)), (k112 + 1)))) (fin (iterX n (fun q : (List Int) × Int × Nat => part_Class_b2_x n x0 q.1 q.2.1 q.2.2) (l110, (-1), 0)))
instance part_Class_b1_le {n : Nat} {x0 : List BSet} {l110 : List Int} {k112 : Nat} : LeC (part_Class_b1_x n x0 l110 k112) (part_Class_b1 x0 l110 k112) := by
  unfold part_Class_b1_x part_Class_b1; infer_instance
def part_Class_x (n : Nat) (x0 : List BSet) : Option ((List Int) × Int) :=
  iterX n (fun q : (List Int) × Nat => part_Class_b1_x n x0 q.1 q.2) ((List.replicate 256 (0 : Int)), 0)
instance part_Class_le {n : Nat} {x0 : List BSet} : LeC (part_Class_x n x0) (part_Class x0) := by
  unfold part_Class_x part_Class; infer_instance
def dfa_unlike_j1_x (n : Nat) (k120 : Nat) (m124 : FM BSet Int) (l125 : List BSet) : Option (((FM BSet Int) × (List BSet) × Nat) ⊕ ((List BSet))) :=
  nxt (m124, l125, (k120 + 1))
instance dfa_unlike_j1_le {n : Nat} {k120 : Nat} {m124 : FM BSet Int} {l125 : List BSet} : LeC (dfa_unlike_j1_x n k120 m124 l125) (dfa_unlike_j1 k120 m124 l125) := by
  unfold dfa_unlike_j1_x dfa_unlike_j1; infer_instance
def dfa_unlike_b1_x (n : Nat) (x0 : List Arrow) (m115 : FM BSet Int) (l117 : List BSet) (k120 : Nat) : Option (((FM BSet Int) × (List BSet) × Nat) ⊕ ((List BSet))) :=
  iteO (decide (((k120 : Nat) : Int) < ((x0.length : Nat) : Int))) (iteO (!(m115.has ((nth x0 k120 Arrow.zero).set))) (grd ((l117.length + [(nth x0 k120 Arrow.zero).set].length) * 32 ≤ 140737488355328) (dfa_unlike_j1_x n k120 (m115.put ((nth x0 k120 Arrow.zero).set) ((l117.length : Nat) : Int)) (l117 ++ [(nth x0 k120 Arrow.zero).set]))) (dfa_unlike_j1_x n k120 m115 l117)) (fin (some l117))
instance dfa_unlike_b1_le {n : Nat} {x0 : List Arrow} {m115 : FM BSet Int} {l117 : List BSet} {k120 : Nat} : LeC (dfa_unlike_b1_x n x0 m115 l117 k120) (dfa_unlike_b1 x0 m115 l117 k120) := by
  unfold dfa_unlike_b1_x dfa_unlike_b1; infer_instance
def dfa_unlike_x (n : Nat) (x0 : List Arrow) : Option ((List BSet)) :=
  iterX n (fun q : (FM BSet Int) × (List BSet) × Nat => dfa_unlike_b1_x n x0 q.1 q.2.1 q.2.2) ((FM.emp : FM BSet Int), ([] : List BSet), 0)
instance dfa_unlike_le {n : Nat} {x0 : List Arrow} : LeC (dfa_unlike_x n x0) (dfa_unlike x0) := by
  unfold dfa_unlike_x dfa_unlike; infer_instance
def dfa_behind_j1_x (n : Nat) (k133 : Nat) (l136 : List Int) : Option (((List Int) × Nat) ⊕ (((List Int) × Nat) ⊕ ((List Int)))) :=
  nxt (l136, (k133 + 1))
instance dfa_behind_j1_le {n : Nat} {k133 : Nat} {l136 : List Int} : LeC (dfa_behind_j1_x n k133 l136) (dfa_behind_j1 k133 l136) := by
  unfold dfa_behind_j1_x dfa_behind_j1; infer_instance
def dfa_behind_b2_x (n : Nat) (x0 : List (List Arrow)) (x1 : List Int) (k117 : Nat) (v4 : UInt8 × Bool) (l130 : List Int) (k133 : Nat) : Option (((List Int) × Nat) ⊕ (((List Int) × Nat) ⊕ ((List Int)))) :=
  iteO (decide (((k133 : Nat) : Int) < (((nth x0 ((nth x1 k117 (0 : Int)).toNat) ([] : List Arrow)).length : Nat) : Int))) (iteO (((nth (nth x0 ((nth x1 k117 (0 : Int)).toNat) ([] : List Arrow)) k133 Arrow.zero).set).has v4.1.toNat) (grd ((l130.length + [(nth (nth x0 ((nth x1 k117 (0 : Int)).toNat) ([] : List Arrow)) k133 Arrow.zero).to].length) * 8 ≤ 140737488355328) (dfa_behind_j1_x n k133 (l130 ++ [(nth (nth x0 ((nth x1 k117 (0 : Int)).toNat) ([] : List Arrow)) k133 Arrow.zero).to]))) (dfa_behind_j1_x n k133 l130)) (fin (nxt (l130, (k117 + 1))))
instance dfa_behind_b2_le {n : Nat} {x0 : List (List Arrow)} {x1 : List Int} {k117 : Nat} {v4 : UInt8 × Bool} {l130 : List Int} {k133 : Nat} : LeC (dfa_behind_b2_x n x0 x1 k117 v4 l130 k133) (dfa_behind_b2 x0 x1 k117 v4 l130 k133) := by
  unfold dfa_behind_b2_x dfa_behind_b2; infer_instance
def dfa_behind_b1_x (n : Nat) (x1 : List Int) (x0 : List (List Arrow)) (v4 : UInt8 × Bool) (l114 : List Int) (k117 : Nat) : Option (((List Int) × Nat) ⊕ ((List Int))) :=
  iteO (decide (((k117 : Nat) : Int) < ((x1.length : Nat) : Int))) (grd (0 ≤ (nth x1 k117 (0 : Int)) ∧ (nth x1 k117 (0 : Int)) < (x0.length : Int)) (iterX n (fun q : (List Int) × Nat => dfa_behind_b2_x n x0 x1 k117 v4 q.1 q.2) (l114, 0))) (fin (some l114))
instance dfa_behind_b1_le {n : Nat} {x1 : List Int} {x0 : List (List Arrow)} {v4 : UInt8 × Bool} {l114 : List Int} {k117 : Nat} : LeC (dfa_behind_b1_x n x1 x0 v4 l114 k117) (dfa_behind_b1 x1 x0 v4 l114 k117) := by
  unfold dfa_behind_b1_x dfa_behind_b1; infer_instance
def dfa_behind_x (n : Nat) (x0 : List (List Arrow)) (x1 : List Int) (x2 : BSet) : Option ((List Int)) :=
  bnd (set_First_x n x2) (fun v4 => iterX n (fun q : (List Int) × Nat => dfa_behind_b1_x n x1 x0 v4 q.1 q.2) (([] : List Int), 0))
instance dfa_behind_le {n : Nat} {x0 : List (List Arrow)} {x1 : List Int} {x2 : BSet} : LeC (dfa_behind_x n x0 x1 x2) (dfa_behind x0 x1 x2) := by
  unfold dfa_behind_x dfa_behind; infer_instance
def dfa_classes_1_b1_x (n : Nat) {Sy : Type} (x1 : List BSet) (Y : Sy → Int × BSet → Option (Sy × Bool)) (k111 : Nat) (s112 : Sy) : Option ((Nat × Sy) ⊕ (Sy)) :=
  iteO (decide (((k111 : Nat) : Int) < ((x1.length : Nat) : Int))) (bnd (Y s112 (((k111 : Nat) : Int), (nth x1 k111 BSet.zero))) (fun v14 => iteO (!v14.2) (fin (some v14.1)) (nxt ((k111 + 1), v14.1)))) (fin (some s112))
instance dfa_classes_1_b1_le {n : Nat} {Sy : Type} {x1 : List BSet} {Y : Sy → Int × BSet → Option (Sy × Bool)} {k111 : Nat} {s112 : Sy} {Y' : Sy → Int × BSet → Option (Sy × Bool)} [hY : ∀ s x, LeC (Y s x) (Y' s x)] : LeC (dfa_classes_1_b1_x n x1 Y k111 s112) (dfa_classes_1_b1 x1 Y' k111 s112) := by
  unfold dfa_classes_1_b1_x dfa_classes_1_b1; infer_instance
def dfa_classes_1_x (n : Nat) {Sy : Type} (Y : Sy → Int × BSet → Option (Sy × Bool)) (s0 : Sy) (x1 : List BSet) : Option (Sy) :=
  iterX n (fun q : Nat × Sy => dfa_classes_1_b1_x n x1 Y q.1 q.2) (0, s0)
instance dfa_classes_1_le {n : Nat} {Sy : Type} {Y : Sy → Int × BSet → Option (Sy × Bool)} {s0 : Sy} {x1 : List BSet} {Y' : Sy → Int × BSet → Option (Sy × Bool)} [hY : ∀ s x, LeC (Y s x) (Y' s x)] : LeC (dfa_classes_1_x n Y s0 x1) (dfa_classes_1 Y' s0 x1) := by
  unfold dfa_classes_1_x dfa_classes_1; infer_instance
def dfa_classes_x (n : Nat) (x0 : List BSet) : Option ((List BSet)) :=
  some x0
instance dfa_classes_le {n : Nat} {x0 : List BSet} : LeC (dfa_classes_x n x0) (dfa_classes x0) := by
  unfold dfa_classes_x dfa_classes; infer_instance
def dfa_Of_j1_x (n : Nat) (l130 : List (List Arrow)) (x0 : Nfa) (k134 : Nat) : Option (((List (List Arrow)) × Nat) ⊕ (Dfa × Int)) :=
  nxt ((l130.set (((nth x0.edges k134 Arrow.zero).frm).toNat) ((nth l130 (((nth x0.edges k134 Arrow.zero).frm).toNat) ([] : List Arrow)) ++ [(nth x0.edges k134 Arrow.zero)])), (k134 + 1))
instance dfa_Of_j1_le {n : Nat} {l130 : List (List Arrow)} {x0 : Nfa} {k134 : Nat} : LeC (dfa_Of_j1_x n l130 x0 k134) (dfa_Of_j1 l130 x0 k134) := by
  unfold dfa_Of_j1_x dfa_Of_j1; infer_instance
def dfa_Of_j2_x (n : Nat) (k323 : Nat) (t335 : Bool) : Option ((Bool × Nat) ⊕ ((Int × (List (List Int)) × (FM (List UInt8) Int) × (List (List Int)) × (List Bool) × Nat) ⊕ (Dfa × Int))) :=
  nxt (t335, (k323 + 1))
instance dfa_Of_j2_le {n : Nat} {k323 : Nat} {t335 : Bool} : LeC (dfa_Of_j2_x n k323 t335) (dfa_Of_j2 k323 t335) := by
  unfold dfa_Of_j2_x dfa_Of_j2; infer_instance
def dfa_Of_r256_x (n : Nat) (l130 : List (List Arrow)) (v116 : (List Int) × Int) (i388 : Int) (l391 : List (List Int)) (m397 : FM (List UInt8) Int) (l401 : List Int) (y256_0 : Int) (y256_1 : BSet) : Option (Nat × (Int × (List (List Int)) × (FM (List UInt8) Int) × (List Int))) :=
  bnd (dfa_behind_x n l130 v116.1 y256_1) (fun v161 => bnd (putKeep_x n (⟨(⟨l391, m397⟩ : IStore)⟩ : ITable) v161) (fun v162 => iteO (decide (v162.2.2.1 ≠ 0)) (some (1, (v162.2.2.1, v162.2.2.2.of.rows, v162.2.2.2.of.places, l401))) (iteO (decide (1024 ≤ v162.1)) (some (1, (2, v162.2.2.2.of.rows, v162.2.2.2.of.places, l401))) (grd (0 ≤ y256_0 ∧ y256_0 < (l401.length : Int)) (some (0, (i388, v162.2.2.2.of.rows, v162.2.2.2.of.places, (l401.set y256_0.toNat v162.1))))))))
instance dfa_Of_r256_le {n : Nat} {l130 : List (List Arrow)} {v116 : (List Int) × Int} {i388 : Int} {l391 : List (List Int)} {m397 : FM (List UInt8) Int} {l401 : List Int} {y256_0 : Int} {y256_1 : BSet} : LeC (dfa_Of_r256_x n l130 v116 i388 l391 m397 l401 y256_0 y256_1) (dfa_Of_r256 l130 v116 i388 l391 m397 l401 y256_0 y256_1) := by
  unfold dfa_Of_r256_x dfa_Of_r256; infer_instance
def dfa_Of_k256_x (n : Nat) (l277 : List (List Int)) (l283 : List Bool) (t322 : Bool) (k286 : Nat) (jz : Nat) (i388 : Int) (l391 : List (List Int)) (m397 : FM (List UInt8) Int) (l401 : List Int) : Option ((Int × (List (List Int)) × (FM (List UInt8) Int) × (List (List Int)) × (List Bool) × Nat) ⊕ (Dfa × Int)) :=
  jsel jz (grd ((l277.length + [l401].length) * 24 ≤ 140737488355328) (grd ((l283.length + [t322].length) * 1 ≤ 140737488355328) (grd (k286 + 1 ≤ 9223372036854775807) (nxt (i388, l391, m397, (l277 ++ [l401]), (l283 ++ [t322]), (k286 + 1)))))) (fun j_ => jsel j_ (fin (some ((⟨([] : List Int), ([] : List (List Int)), ([] : List Bool)⟩ : Dfa), i388))) (fun _ => none))
instance dfa_Of_k256_le {n : Nat} {l277 : List (List Int)} {l283 : List Bool} {t322 : Bool} {k286 : Nat} {jz : Nat} {i388 : Int} {l391 : List (List Int)} {m397 : FM (List UInt8) Int} {l401 : List Int} : LeC (dfa_Of_k256_x n l277 l283 t322 k286 jz i388 l391 m397 l401) (dfa_Of_k256 l277 l283 t322 k286 jz i388 l391 m397 l401) := by
  unfold dfa_Of_k256_x dfa_Of_k256; infer_instance
def dfa_Of_b4_x (n : Nat) (v116 : (List Int) × Int) (l193 : List Bool) (v13 : (List BSet) × Int) (l130 : List (List Arrow)) (i264 : Int) (l268 : List (List Int)) (m274 : FM (List UInt8) Int) (l277 : List (List Int)) (l283 : List Bool) (k286 : Nat) (t322 : Bool) (k323 : Nat) : Option ((Bool × Nat) ⊕ ((Int × (List (List Int)) × (FM (List UInt8) Int) × (List (List Int)) × (List Bool) × Nat) ⊕ (Dfa × Int))) :=
  iteO (decide (((k323 : Nat) : Int) < ((v116.1.length : Nat) : Int))) (iteO t322 (dfa_Of_j2_x n k323 true) (grd (0 ≤ (nth v116.1 k323 (0 : Int)) ∧ (nth v116.1 k323 (0 : Int)) < (l193.length : Int)) (dfa_Of_j2_x n k323 (nth l193 ((nth v116.1 k323 (0 : Int)).toNat) false)))) (fin (grd (8 * v13.1.length ≤ 281474976710656) (bnd (dfa_classes_x n v13.1) (fun v153 => bnd (dfa_classes_1_x n (stepY (fun (q : Int × (List (List Int)) × (FM (List UInt8) Int) × (List Int)) (x : Int × BSet) => dfa_Of_r256_x n l130 v116 q.1 q.2.1 q.2.2.1 q.2.2.2 x.1 x.2)) (0, (i264, l268, m274, (List.replicate v13.1.length (0 : Int)))) v153) (fun zr256 => dfa_Of_k256_x n l277 l283 t322 k286 zr256.1 zr256.2.1 zr256.2.2.1 zr256.2.2.2.1 zr256.2.2.2.2)))))
instance dfa_Of_b4_le {n : Nat} {v116 : (List Int) × Int} {l193 : List Bool} {v13 : (List BSet) × Int} {l130 : List (List Arrow)} {i264 : Int} {l268 : List (List Int)} {m274 : FM (List UInt8) Int} {l277 : List (List Int)} {l283 : List Bool} {k286 : Nat} {t322 : Bool} {k323 : Nat} : LeC (dfa_Of_b4_x n v116 l193 v13 l130 i264 l268 m274 l277 l283 k286 t322 k323) (dfa_Of_b4 v116 l193 v13 l130 i264 l268 m274 l277 l283 k286 t322 k323) := by
  unfold dfa_Of_b4_x dfa_Of_b4; infer_instance
def dfa_Of_b3_x (n : Nat) (l193 : List Bool) (v13 : (List BSet) × Int) (l130 : List (List Arrow)) (v26 : (List Int) × Int) (i264 : Int) (l268 : List (List Int)) (m274 : FM (List UInt8) Int) (l277 : List (List Int)) (l283 : List Bool) (k286 : Nat) : Option ((Int × (List (List Int)) × (FM (List UInt8) Int) × (List (List Int)) × (List Bool) × Nat) ⊕ (Dfa × Int)) :=
  bnd (intern_Table_Size_x n (⟨(⟨l268, m274⟩ : IStore)⟩ : ITable)) (fun v112 => iteO (decide (((k286 : Nat) : Int) < v112)) (bnd (intern_Table_Row_x n (⟨(⟨l268, m274⟩ : IStore)⟩ : ITable) ((k286 : Nat) : Int)) (fun v116 => iteO (decide (v116.2 ≠ 0)) (fin (some ((⟨([] : List Int), ([] : List (List Int)), ([] : List Bool)⟩ : Dfa), v116.2))) (iterX n (fun q : Bool × Nat => dfa_Of_b4_x n v116 l193 v13 l130 i264 l268 m274 l277 l283 k286 q.1 q.2) (false, 0)))) (fin (some ((⟨v26.1, l277, l283⟩ : Dfa), 0))))
instance dfa_Of_b3_le {n : Nat} {l193 : List Bool} {v13 : (List BSet) × Int} {l130 : List (List Arrow)} {v26 : (List Int) × Int} {i264 : Int} {l268 : List (List Int)} {m274 : FM (List UInt8) Int} {l277 : List (List Int)} {l283 : List Bool} {k286 : Nat} : LeC (dfa_Of_b3_x n l193 v13 l130 v26 i264 l268 m274 l277 l283 k286) (dfa_Of_b3 l193 v13 l130 v26 i264 l268 m274 l277 l283 k286) := by
  unfold dfa_Of_b3_x dfa_Of_b3; infer_instance
def dfa_Of_b2_x (n : Nat) (x0 : Nfa) (v13 : (List BSet) × Int) (l130 : List (List Arrow)) (v26 : (List Int) × Int) (l193 : List Bool) (k195 : Nat) : Option (((List Bool) × Nat) ⊕ (Dfa × Int)) :=
  iteO (decide (((k195 : Nat) : Int) < ((x0.ends.length : Nat) : Int))) (grd (0 ≤ (nth x0.ends k195 (0 : Int)) ∧ (nth x0.ends k195 (0 : Int)) < (l193.length : Int)) (nxt ((l193.set ((nth x0.ends k195 (0 : Int)).toNat) true), (k195 + 1)))) (fin (bnd (intern_New_x n) (fun v85 => bnd (intern_Table_Put_x n (⟨(⟨v85.of.rows, v85.of.places⟩ : IStore)⟩ : ITable) x0.starts) (fun v91 => iteO (decide (v91.2.2.1 ≠ 0)) (some ((⟨([] : List Int), ([] : List (List Int)), ([] : List Bool)⟩ : Dfa), v91.2.2.1)) (iterX n (fun q : Int × (List (List Int)) × (FM (List UInt8) Int) × (List (List Int)) × (List Bool) × Nat => dfa_Of_b3_x n l193 v13 l130 v26 q.1 q.2.1 q.2.2.1 q.2.2.2.1 q.2.2.2.2.1 q.2.2.2.2.2) (0, v91.2.2.2.of.rows, v91.2.2.2.of.places, ([] : List (List Int)), ([] : List Bool), 0))))))
instance dfa_Of_b2_le {n : Nat} {x0 : Nfa} {v13 : (List BSet) × Int} {l130 : List (List Arrow)} {v26 : (List Int) × Int} {l193 : List Bool} {k195 : Nat} : LeC (dfa_Of_b2_x n x0 v13 l130 v26 l193 k195) (dfa_Of_b2 x0 v13 l130 v26 l193 k195) := by
  unfold dfa_Of_b2_x dfa_Of_b2; infer_instance
def dfa_Of_b1_x (n : Nat) (x0 : Nfa) (v13 : (List BSet) × Int) (v26 : (List Int) × Int) (l130 : List (List Arrow)) (k134 : Nat) : Option (((List (List Arrow)) × Nat) ⊕ (Dfa × Int)) :=
  iteO (decide (((k134 : Nat) : Int) < ((x0.edges.length : Nat) : Int))) (grd (0 ≤ ((nth x0.edges k134 Arrow.zero).frm) ∧ ((nth x0.edges k134 Arrow.zero).frm) < (l130.length : Int)) (grd (((nth l130 (((nth x0.edges k134 Arrow.zero).frm).toNat) ([] : List Arrow)).length + [(nth x0.edges k134 Arrow.zero)].length) * 48 ≤ 140737488355328) (grd (0 ≤ ((nth x0.edges k134 Arrow.zero).frm) ∧ ((nth x0.edges k134 Arrow.zero).frm) < (l130.length : Int)) (dfa_Of_j1_x n l130 x0 k134)))) (fin (grd (0 ≤ x0.states ∧ 1 * x0.states.toNat ≤ 281474976710656) (iterX n (fun q : (List Bool) × Nat => dfa_Of_b2_x n x0 v13 l130 v26 q.1 q.2) ((List.replicate x0.states.toNat false), 0))))
instance dfa_Of_b1_le {n : Nat} {x0 : Nfa} {v13 : (List BSet) × Int} {v26 : (List Int) × Int} {l130 : List (List Arrow)} {k134 : Nat} : LeC (dfa_Of_b1_x n x0 v13 v26 l130 k134) (dfa_Of_b1 x0 v13 v26 l130 k134) := by
  unfold dfa_Of_b1_x dfa_Of_b1; infer_instance
def dfa_Of_x (n : Nat) (x0 : Nfa) : Option (Dfa × Int) :=
  iteO (decide ((errB (checkB x0)) ≠ 0)) (some ((⟨([] : List Int), ([] : List (List Int)), ([] : List Bool)⟩ : Dfa), 1)) (bnd (dfa_unlike_x n x0.edges) (fun v12 => bnd (part_Parts_x n v12) (fun v13 => iteO (decide (v13.2 ≠ 0)) (some ((⟨([] : List Int), ([] : List (List Int)), ([] : List Bool)⟩ : Dfa), v13.2)) (bnd (part_Class_x n v13.1) (fun v26 => iteO (decide (v26.2 ≠ 0)) (some ((⟨([] : List Int), ([] : List (List Int)), ([] : List Bool)⟩ : Dfa), v26.2)) (grd (0 ≤ x0.states ∧ 24 * x0.states.toNat ≤ 281474976710656) (iterX n (fun q : (List (List Arrow)) × Nat => dfa_Of_b1_x n x0 v13 v26 q.1 q.2) ((List.replicate x0.states.toNat ([] : List Arrow)), 0))))))))
instance dfa_Of_le {n : Nat} {x0 : Nfa} : LeC (dfa_Of_x n x0) (dfa_Of x0) := by
  unfold dfa_Of_x dfa_Of; infer_instance
end Go.Proofs.YtmfclggfajopkaaGreatDoor
end

/- RwA -/
section
/- Laws on rules: what they ask first; pieces that are the same; places that rise. Plain lemmas, no condition. -/
set_option linter.unusedVariables false
set_option linter.unusedSimpArgs false
namespace Go.Proofs.YtmfclggfajopkaaGreatDoor
open Go Go.E
set_option maxRecDepth 100000

theorem same04_refl (l : List Span) : whittleref04_Same l l = some true := by
  unfold whittleref04_Same
  rw [iteO_df (by omega)]
  obtain ⟨r, h1, rfl⟩ := iter_up (step := fun q : Nat => whittleref04_Same_b1 l l q) (fun (_ : Unit) k => k) l.length (fun _ _ => True) (fun r => r = true)
    (fun k s hk _ => by
      left
      simp only [whittleref04_Same_b1]
      rw [iteO_dt (by omega), grd_mk hk, iteO_df (by simp)]
      exact ⟨(), rfl, trivial⟩)
    (fun s _ => by
      simp only [whittleref04_Same_b1]
      rw [iteO_df (by omega)]; exact ⟨_, rfl, rfl⟩) (s0 := ()) trivial
  exact h1
theorem same24_refl (p : Piece) : whittleref24_Same p p = some true := by
  unfold whittleref24_Same
  rw [iteO_dt rfl, same04_refl, bnd_mk]
theorem few_some (d : Dfa) : ∃ b, whittleref11_Few d = some b := by
  unfold whittleref11_Few
  obtain ⟨r, h1, _⟩ := iter_up (step := fun q : Nat => whittleref11_Few_b1 d q) (fun (_ : Unit) k => k) d.next.length (fun _ _ => True) (fun r => True)
    (fun k s hk _ => by
      simp only [whittleref11_Few_b1, whittleref11_Few_j1]
      rw [iteO_dt (by omega)]
      by_cases c : d.next.length ≤ 40
      · rw [iteO_dt (by omega)]
        by_cases c2 : 20 < (nth d.next k ([] : List Int)).length
        · rw [iteO_dt (by omega)]; right; exact ⟨_, rfl, trivial⟩
        · rw [iteO_df (by omega)]; left; exact ⟨(), rfl, trivial⟩
      · rw [iteO_df (by omega), iteO_df (by omega)]; right; exact ⟨_, rfl, trivial⟩)
    (fun s _ => by
      simp only [whittleref11_Few_b1, whittleref11_Few_j1]
      rw [iteO_df (by omega)]
      by_cases c : d.next.length ≤ 40
      · rw [iteO_dt (by omega)]; exact ⟨_, rfl, trivial⟩
      · rw [iteO_df (by omega)]; exact ⟨_, rfl, trivial⟩) (s0 := ()) trivial
  exact ⟨r, h1⟩
theorem few21_in (q : Seq) (k : Nat) : whittleref21_Few_b1 q k = some (.inl (k + 1)) ∨ ∃ b, whittleref21_Few_b1 q k = some (.inr b) := by
  simp only [whittleref21_Few_b1]
  by_cases c : k < q.outs.length
  · rw [iteO_dt (by omega)]
    by_cases c2 : 300 < (nth q.outs k ([] : List (List UInt8))).length
    · rw [iteO_dt (by omega)]; exact .inr ⟨_, rfl⟩
    · rw [iteO_df (by omega)]
      obtain ⟨r, h1, h2⟩ := iter_up (step := fun z : Int × Nat => whittleref21_Few_b2 q k z.1 z.2) (fun (s : Int) j => (s, j)) (nth q.outs k ([] : List (List UInt8))).length (fun _ _ => True) (fun r => r = .inl (k + 1) ∨ ∃ b, r = .inr b)
        (fun j s hj _ => by
          simp only [whittleref21_Few_b2]
          rw [iteO_dt (by omega)]; left; exact ⟨_, rfl, trivial⟩)
        (fun s _ => by
          simp only [whittleref21_Few_b2]
          rw [iteO_df (by omega)]
          by_cases c3 : 20000 < s
          · rw [iteO_dt c3]; exact ⟨_, rfl, .inr ⟨_, rfl⟩⟩
          · rw [iteO_df c3]; exact ⟨_, rfl, .inl rfl⟩) (s0 := 0) trivial
      rw [h1]
      rcases h2 with rfl | ⟨b, rfl⟩
      · exact .inl rfl
      · exact .inr ⟨b, rfl⟩
  · rw [iteO_df (by omega)]; exact .inr ⟨_, rfl⟩
theorem few21_some (q : Seq) : ∃ b, whittleref21_Few q = some b := by
  unfold whittleref21_Few
  by_cases c1 : 12 < q.next.length
  · rw [iteO_dt (by omega)]; exact ⟨_, rfl⟩
  rw [iteO_df (by omega)]
  by_cases c2 : 13 < q.outs.length
  · rw [iteO_dt (by omega)]; exact ⟨_, rfl⟩
  rw [iteO_df (by omega)]
  by_cases c3 : 5000 < q.front.length
  · rw [iteO_dt (by omega)]; exact ⟨_, rfl⟩
  rw [iteO_df (by omega)]
  obtain ⟨r, h1, _⟩ := iter_up (step := fun k : Nat => whittleref21_Few_b1 q k) (fun (_ : Unit) k => k) q.outs.length (fun _ _ => True) (fun r => True)
    (fun k s hk _ => by
      rcases few21_in q k with h | ⟨b, h⟩
      · left; exact ⟨(), h, trivial⟩
      · right; exact ⟨b, h, trivial⟩)
    (fun s _ => by
      simp only [whittleref21_Few_b1]
      rw [iteO_df (by omega)]; exact ⟨_, rfl, trivial⟩) (s0 := ()) trivial
  exact ⟨r, h1⟩
theorem few24_some (r : Rule) : ∃ b, whittleref24_Few r = some b := by
  unfold whittleref24_Few
  obtain ⟨b1, h1⟩ := few_some r.of
  obtain ⟨b2, h2⟩ := few_some r.left
  obtain ⟨b3, h3⟩ := few_some r.right
  obtain ⟨b4, h4⟩ := few21_some r.by'
  rw [h1, bnd_mk, h2, bnd_mk, h3, bnd_mk, h4, bnd_mk]
  cases b1 <;> cases b2 <;> cases b3 <;> cases b4 <;> exact ⟨_, rfl⟩

def cls1 (n : Nat) : List Int := List.replicate n 0 ++ 1 :: List.replicate (255 - n) 0
def dStar : Dfa := ⟨cls1 97, [[1, 2], [1, 1], [1, 2]], [true, false, true]⟩
def dAll : Dfa := ⟨List.replicate 256 0, [[0]], [true]⟩
theorem awkA : dfa_Of_x 300 (starR (setN (BSet.ofL [97]))) = some (dStar, 0) := by kernel_rfl
theorem awkE : starX (setN (BSet.ofL [97])) = 0 := by kernel_rfl
theorem awkT : turnD ⟨dStar, dAll, dAll, [120], false, ⟨[], [], [], [], []⟩⟩ [98, 97, 97, 99] = (⟨[98, 120, 99], [⟨0, 1⟩, ⟨1, 3⟩, ⟨3, 4⟩]⟩, 0) := by kernel_rfl
theorem awake24 : whittlelaw24_awake = some true := by
  have hA : dfa_Of (starR (setN (BSet.ofL [97]))) = some (dStar, 0) := LeC.le _ awkA
  unfold whittlelaw24_awake
  rw [hA, show whittlelaw24_all = some dAll from rfl, grd_mk (by decide), bnd_mk, bnd_mk, bnd_mk, turn_eq _ _ (by decide), bnd_mk]
  simp only []
  rw [awkT]
  unfold whittlelaw24_awake_j1
  rw [awkE]
  simp only []
  rw [iteO_dt trivial, iteO_dt trivial, iteO_dt trivial, same24_refl, bnd_mk]

end Go.Proofs.YtmfclggfajopkaaGreatDoor
end

/- R2r -/
section
/- Decompiled: the reference's factors. -/
set_option linter.unusedVariables false
set_option linter.unusedSimpArgs false
namespace Go.Proofs.YtmfclggfajopkaaGreatDoor
open Go Go.E
set_option maxRecDepth 100000
private theorem ag23 : Go.E.aggOf Tryz.prog 23 = some false := by kernel_rfl
private theorem ag24 : Go.E.aggOf Tryz.prog 24 = some false := by kernel_rfl
private theorem by56 : Go.E.byOf Tryz.prog 56 = some 16 := by kernel_rfl
private theorem by86 : Go.E.byOf Tryz.prog 86 = some 32 := by kernel_rfl
private theorem fo26_0 : Go.E.foOf Tryz.prog 26 0 = some 0 := by kernel_rfl
private theorem fo26_1 : Go.E.foOf Tryz.prog 26 1 = some 1 := by kernel_rfl
private theorem fo26_2 : Go.E.foOf Tryz.prog 26 2 = some 2 := by kernel_rfl
private theorem pf116 : Go.E.plainF Tryz.prog 116 = true := by kernel_rfl
private theorem pf66 : Go.E.plainF Tryz.prog 66 = true := by kernel_rfl
private theorem pf68 : Go.E.plainF Tryz.prog 68 = true := by kernel_rfl
private theorem pf69 : Go.E.plainF Tryz.prog 69 = true := by kernel_rfl
private theorem pf70 : Go.E.plainF Tryz.prog 70 = true := by kernel_rfl
private theorem pf97 : Go.E.plainF Tryz.prog 97 = true := by kernel_rfl
private theorem pf98 : Go.E.plainF Tryz.prog 98 = true := by kernel_rfl
theorem make_conL (σ : Store) (a : Option Addr) (c : Nat) (l : List Bool) (h256 : l.length = 256) :
  Con Tryz.prog 116 #[.slice a l.length c] σ [Res.rowS 4 1 encB (.slice a l.length c) l] (PureP (setV (BSet.make fun i => nth l i false)) σ) := by
 rw [h256]; exact make_con σ a c l h256

noncomputable def whittleref02_Sets_b3 (x0 : List Int) (k126 : Nat) (l123 : List BSet) (l139 : List Bool) (k141 : Nat) : Option (((List Bool) × Nat) ⊕ (((List BSet) × Nat) ⊕ ((List BSet) × Int))) :=
 iteO (decide (((k141 : Nat) : Int) < 256)) (grd (k141 < x0.length) (grd (k141 < l139.length) (nxt ((l139.set k141 (decide ((nth x0 k141 (0 : Int)) = ((k126 : Nat) : Int)))), (k141 + 1))))) (fin (grd (l139.length = 256) (grd ((l123.length + [(BSet.make fun i => nth l139 i false)].length) * 32 ≤ 140737488355328) (grd (k126 + 1 ≤ 9223372036854775807) (nxt ((l123 ++ [(BSet.make fun i => nth l139 i false)]), (k126 + 1)))))))
noncomputable def whittleref02_Sets_b2 (i106 : Int) (x0 : List Int) (l123 : List BSet) (k126 : Nat) : Option (((List BSet) × Nat) ⊕ ((List BSet) × Int)) :=
 iteO (decide (((k126 : Nat) : Int) ≤ i106)) (iter (fun q : (List Bool) × Nat => whittleref02_Sets_b3 x0 k126 l123 q.1 q.2) ((List.replicate 256 false), 0)) (fin (some (l123, 0)))
noncomputable def whittleref02_Sets_b1 (x0 : List Int) (i106 : Int) (k107 : Nat) : Option ((Int × Nat) ⊕ ((List BSet) × Int)) :=
 iteO (decide (((k107 : Nat) : Int) < 256)) (grd (k107 < x0.length) (iteO (decide ((nth x0 k107 (0 : Int)) < 0)) (fin (some (([] : List BSet), 1))) (grd (k107 < x0.length) (iteO (decide ((IntKind.i64.wrap (i106 + 1)) < (nth x0 k107 (0 : Int)))) (fin (some (([] : List BSet), 1))) (grd (k107 < x0.length) (nxt ((max i106 (nth x0 k107 (0 : Int))), (k107 + 1)))))))) (fin (iter (fun q : (List BSet) × Nat => whittleref02_Sets_b2 i106 x0 q.1 q.2) (([] : List BSet), 0)))
noncomputable def whittleref02_Sets (x0 : List Int) : Option ((List BSet) × Int) :=
 iteO (decide (((x0.length : Nat) : Int) ≠ 256)) (some (([] : List BSet), 1)) (iter (fun q : Int × Nat => whittleref02_Sets_b1 x0 q.1 q.2) ((-1), 0))
def whittleref02_Sets_P (σ : Store) (r : (List BSet) × Int) : Value → Store → List Res → Prop := fun v σ' H' =>
 ∃ (a1 : Option Addr), ∃ (c1 : Nat),  v = .tuple #[.slice a1 r.1.length c1, .int .i64 r.2] ∧ RS σ' 4 encSet (.slice a1 r.1.length c1) r.1 ∧ H' = []
theorem whittleref02_Sets_con {σ : Store} {x0 : List Int} {a0_0 : Option Addr} {c0_0 : Nat} (f0_0 : RS σ 1 Go.E.encI (.slice a0_0 x0.length c0_0) x0) {r : (List BSet) × Int} (hh : whittleref02_Sets x0 = some r) :
  Con Tryz.prog 97 #[.slice a0_0 x0.length c0_0] σ [] (whittleref02_Sets_P σ r) := by
 dsimp only [whittleref02_Sets] at hh
 have f0_0b := f0_0.rv.big
 refine Con.mk (n := 62) Tryz.func97 z z z (fun w0 => ?_)
 refine TC.a (TL.sl z (.inr z) z z z (TL.a z (.inr z) z z z (TL.en (TC.seq (TC.a (TL.sl z (.inl z) z z z (TL.v z (OpVal.lenC z Tryz.underlying22 z) z z (TL.v z (OpVal.neq z z z) z z (TL.en ?_)))))))))
 refine TC.cD z hh (fun h101 hh => ?_) (fun h101 hh => ?_)
 ·refine TC.a (TL.sl z (.inr z) z z z (TL.a z (.inr z) z z z (TL.en (TC.ret (S.r ?_)))))
  obtain rfl := so hh
  exact RetOk.mk' (rs := [.tmp 2, .tmp 3]) [] z (.inl z) (RVs.tmp z (RVs.tmp z RVs.nil)) (List.sublist_append_left _ _) ⟨none, 0, z, (RS.nilF _ encSet encSet_len), z⟩
 ·refine TC.skip (S.n (TC.a (TL.a z (.inr z) z z z (TL.en (TC.seq (TC.a (TL.a z (.inr z) z z z (TL.en (TC.block ?_)))))))))
  refine TC.loopG (α := (Int × Nat) × (Unit)) [2, 3, 4, 5, 13, 14, 15, 16, 17, 18, 19, 20, 21, 22, 23, 24, 25, 26, 27, 28, 29, 30, 31, 32, 33, 34, 35, 36] (fun g => [(4, .int .i64 g.1.1), (5, .int .i64 ((g.1.2 : Nat) : Int))]) (fun g => []) (fun g => σ) (fun g => iter (fun q : Int × Nat => whittleref02_Sets_b1 x0 q.1 q.2) g.1 = some r) (fun g => rounds (fun q : Int × Nat => whittleref02_Sets_b1 x0 q.1 q.2) g.1) (((-1), 0), ()) (Sub.pre 0 z) z (by repeat (first | exact trivial | refine ⟨z, ?_⟩)) hh (fun g1 j1 hg1 => ?_)
  obtain ⟨⟨i106, k107⟩, _⟩ := g1
  have hh := hg1; clear hg1
  show TC _ _ _ (upds (mask _ j1 _) [(4, .int .i64 i106), (5, .int .i64 ((k107 : Nat) : Int))]) _ []
  obtain ⟨z1, hh, hR1⟩ := iter_e hh
  dsimp only [whittleref02_Sets_b1] at hh
  refine TC.seq (TC.a (TL.a z (.inl z) z z z (TL.v z (OpVal.lss z z z) z z (TL.en (TC.cD z hh (fun h108 hh => ?_) (fun h108 hh => ?_))))))
  ·refine TC.skip (S.n (TC.seq (TC.block (TC.seq (TC.a (TL.sl z (.inl z) z z z (TL.a z (.inl z) z z z ?_)))))))
   have u14 := grd_c hh
   replace hh := grd_t hh
   refine TL.v z (OpVal.indexN z Tryz.underlying22 sz3 z z f0_0.rv.sl (by omega)) z z (TL.v z (OpVal.loadS1 (0 : Int) z ag3 z f0_0 (by omega) z) z z (TL.v z (OpVal.lss z z z) z z (TL.b z (.inl z) z z z (TL.split 22 z (fun h109 => ?_) (fun h109 => ?_)))))
   ·replace hh := iteO_t h109 hh
    replace h109 := of_decide_eq_true h109
    refine TL.goff z z z z z z z z (TL.goff z z z z z z z z (TL.goff z z z z z z z z (TL.goff z z z z z z z z (TL.goff z z z z z z z z (TL.goff z z z z z z z z (TL.goff z z z z z z z z (TL.v z (OpVal.pickTB z z z) z z (TL.en (TC.cond z (fun _ => ?_) (fun h => Bool.noConfusion h))))))))))
    refine TC.a (TL.sl z (.inr z) z z z (TL.a z (.inr z) z z z (TL.en (TC.ret (S.r (B.r (S.r (S.r ?_))))))))
    replace hh := fin_x hR1 hh
    refine B.r (S.r ?_)
    obtain rfl := so hh
    exact RetOk.mk' (rs := [.tmp 2, .tmp 3]) [] z (.inl z) (RVs.tmp z (RVs.tmp z RVs.nil)) (List.sublist_append_left _ _) ⟨none, 0, z, (RS.nilF _ encSet encSet_len), z⟩
   ·replace hh := iteO_f h109 hh
    replace h109 := of_decide_eq_false h109
    refine TL.gv z z z z z (OpVal.moveSl (.inl z) z) z z (TL.gv z z z z z (OpVal.moveI (.inl z) z) z z ?_)
    have u20 := grd_c hh
    replace hh := grd_t hh
    refine TL.gv z z z z z (OpVal.indexN z Tryz.underlying22 sz3 z z f0_0.rv.sl (by omega)) z z (TL.gv z z z z z (OpVal.loadS1 (0 : Int) z ag3 z f0_0 (by omega) z) z z (TL.gv z z z z z (OpVal.moveI (.inl z) z) z z (TL.gv z z z z z (OpVal.addW z z z) z z (TL.gv z z z z z (OpVal.gtr z z z) z z (TL.v z (OpVal.pickFB z z z) z z (TL.en (TC.cD z hh (fun h110 hh => ?_) (fun h110 hh => ?_))))))))
    ·refine TC.a (TL.sl z (.inr z) z z z (TL.a z (.inr z) z z z (TL.en (TC.ret (S.r (B.r (S.r (S.r ?_))))))))
     replace hh := fin_x hR1 hh
     refine B.r (S.r ?_)
     obtain rfl := so hh
     exact RetOk.mk' (rs := [.tmp 2, .tmp 3]) [] z (.inl z) (RVs.tmp z (RVs.tmp z RVs.nil)) (List.sublist_append_left _ _) ⟨none, 0, z, (RS.nilF _ encSet encSet_len), z⟩
    ·refine TC.skip (S.n (TC.region (TL.a z (.inl z) z z z (TL.sl z (.inl z) z z z (TL.a z (.inl z) z z z ?_)))))
     have u31 := grd_c hh
     replace hh := grd_t hh
     refine TL.v z (OpVal.indexN z Tryz.underlying22 sz3 z z f0_0.rv.sl (by omega)) z z (TL.v z (OpVal.loadS1 (0 : Int) z ag3 z f0_0 (by omega) z) z z (TL.v z (OpVal.maxI z z z) z z (TL.a z (.inr z) z z z (TL.nil (B.n (S.n (TC.region (TL.a z (.inl z) z z z (TL.v z (OpVal.succ z z z (by omega)) z z ?_)))))))))
     refine TL.a z (.inr z) z z z (TL.en ?_)
     obtain ⟨hh, hlt111⟩ := nxt_x hR1 hh
     exact lf (((max i106 (nth x0 k107 (0 : Int))), (k107 + 1)), ()) hlt111 hh (Sub.pre 0 z)
  ·refine TC.exit (S.x (S.x ?_))
   replace hh := fin_x hR1 hh
   refine TC.exitHere (S.n (TC.a (TL.sl z (.inr z) z z z (TL.en (TC.seq (TC.a (TL.a z (.inr z) z z z (TL.en (TC.block ?_)))))))))
   refine TC.nilS 86 4 encSet (TC.loopG (α := ((List BSet) × Nat) × ((Option Addr) × Nat)) [6, 7, 8, 9, 37, 38, 39, 40, 41, 42, 43, 44, 45, 46, 47, 48, 49, 50, 51, 52, 53, 54, 55, 56, 57, 58, 59, 60] (fun g => [(6, .slice g.2.1 g.1.1.length g.2.2), (7, .int .i64 ((g.1.2 : Nat) : Int))]) (fun g => [Res.rowS 86 4 encSet (.slice g.2.1 g.1.1.length g.2.2) g.1.1]) (fun g => σ) (fun g => iter (fun q : (List BSet) × Nat => whittleref02_Sets_b2 i106 x0 q.1 q.2) g.1 = some r) (fun g => rounds (fun q : (List BSet) × Nat => whittleref02_Sets_b2 i106 x0 q.1 q.2) g.1) ((([] : List BSet), 0), (none, 0)) (Sub.pre 1 z) z (by repeat (first | exact trivial | refine ⟨z, ?_⟩)) hh (fun g2 j2 hg2 => ?_))
   obtain ⟨⟨l123, k126⟩, ⟨a124, c125⟩⟩ := g2
   have hh := hg2; clear hg2
   show TC _ _ _ (upds (mask _ j2 _) [(6, .slice a124 l123.length c125), (7, .int .i64 ((k126 : Nat) : Int))]) _ [Res.rowS 86 4 encSet (.slice a124 l123.length c125) l123]
   obtain ⟨z1, hh, hR1⟩ := iter_e hh
   dsimp only [whittleref02_Sets_b2] at hh
   refine TC.isSl (i := 0) z (fun _ hb128 _ => ?_)
   refine TC.seq (TC.a (TL.a z (.inl z) z z z (TL.a z (.inl z) z z z (TL.v z (OpVal.leq z z z) z z (TL.en (TC.cD z hh (fun h129 hh => ?_) (fun h129 hh => ?_)))))))
   ·refine TC.skip (S.n (TC.seq (TC.block (TC.a (TL.op z (OpOk.makeS2 (m := 256) (enc := encB) false z Tryz.underlying24 sz4 by4 ze4 z z z z (by omega) (by decide) encB_len (by decide) z encB_one (fun a130 c131 => ?_)))))))
    refine TL.sl z (.inr z) z z z (TL.en (TC.seq (TC.a (TL.a z (.inr z) z z z (TL.en (TC.block (TC.loopG (α := ((List Bool) × Nat) × (Unit)) [9, 43, 44, 45, 46, 47, 48, 49, 50, 51, 52, 53, 54, 55] (fun g => [(9, .int .i64 ((g.1.2 : Nat) : Int))]) (fun g => [Res.rowS 86 4 encSet (.slice a124 l123.length c125) l123, Res.rowS 4 1 encB (.slice a130 (List.replicate 256 false).length c131) g.1.1]) (fun g => σ) (fun g => iter (fun q : (List Bool) × Nat => whittleref02_Sets_b3 x0 k126 l123 q.1 q.2) g.1 = some z1 ∧ g.1.1.length = (List.replicate 256 false).length) (fun g => rounds (fun q : (List Bool) × Nat => whittleref02_Sets_b3 x0 k126 l123 q.1 q.2) g.1) (((List.replicate 256 false), 0), ()) (Sub.f [1] 2) z (by repeat (first | exact trivial | refine ⟨z, ?_⟩)) ⟨hh, z⟩ (fun g3 j3 hg3 => ?_))))))))
    obtain ⟨⟨l139, k141⟩, _⟩ := g3
    obtain ⟨hh, hn140⟩ := hg3
    try dsimp only at hn140
    show TC _ _ _ (upds (mask _ j3 _) [(9, .int .i64 ((k141 : Nat) : Int))]) _ [Res.rowS 86 4 encSet (.slice a124 l123.length c125) l123, Res.rowS 4 1 encB (.slice a130 (List.replicate 256 false).length c131) l139]
    obtain ⟨z2, hh, hR2⟩ := iter_e hh
    dsimp only [whittleref02_Sets_b3] at hh
    have hn140b := hn140
    refine TC.isSl (i := 0) z (fun _ hb142 _ => ?_)
    refine TC.isSl (i := 1) z (fun _ hb143 _ => ?_)
    refine TC.seq (TC.a (TL.a z (.inl z) z z z (TL.v z (OpVal.lss z z z) z z (TL.en (TC.cD z hh (fun h144 hh => ?_) (fun h144 hh => ?_))))))
    ·refine TC.skip (S.n (TC.seq (TC.block (TC.region (TL.sl z (.inl z) z z z (TL.a z (.inl z) z z z (TL.sl z (.inl z) z z z (TL.a z (.inl z) z z z ?_))))))))
     have u52 := grd_c hh
     replace hh := grd_t hh
     refine TL.v z (OpVal.indexN z Tryz.underlying22 sz3 z z f0_0.rv.sl (by omega)) z z (TL.v z (OpVal.loadS1 (0 : Int) z ag3 z f0_0 (by omega) z) z z (TL.a z (.inl z) z z z (TL.v z (OpVal.eql z z z) z z ?_)))
     have u56 := grd_c hh
     replace hh := grd_t hh
     refine TL.isSl (i := 1) z (fun hs145 _ _ => ?_)
     refine TL.v z (OpVal.indexN z Tryz.underlying24 sz4 z z hs145 (by omega)) z z (TL.front 1 z z ?_)
     have hn146 : (l139.set k141 (decide ((nth x0 k141 (0 : Int)) = ((k126 : Nat) : Int)))).length = (List.replicate 256 false).length := by rw [List.length_set]; exact hn140
     refine TL.op z (OpOk.storeS (decide ((nth x0 k141 (0 : Int)) = ((k126 : Nat) : Int))) z sz4 z z z z encB_len encB_one (by omega) (by omega) ?_)
     refine TL.nil (B.n (S.n (TC.region (TL.a z (.inl z) z z z (TL.v z (OpVal.succ z z z (by omega)) z z (TL.a z (.inr z) z z z (TL.en ?_)))))))
     obtain ⟨hh, hlt147⟩ := nxt_x hR2 hh
     exact lf (((l139.set k141 (decide ((nth x0 k141 (0 : Int)) = ((k126 : Nat) : Int)))), (k141 + 1)), ()) hlt147 ⟨hh, hn146⟩ (Sub.f [1] 2)
    ·refine TC.exit (S.x (S.x ?_))
     replace hh := fin_x hR2 hh
     refine TC.exitHere (S.n (TC.region (TL.sl z (.inl z) z z z (TL.sl z (.inl z) z z z ?_))))
     rw [← hn140]
     refine TL.front 1 z z ?_
     have u63 := grd_c hh
     replace hh := grd_t hh
     refine TL.op z (OpOk.callT (make_conL _ _ _ l139 u63) z z pf116 z z z z ?_)
     refine TL.op z (OpOk.lit (enc := encSet) [(BSet.make fun i => nth l139 i false)] z Tryz.underlying131 sz86 ze86 z z z encSet_len (by decide) (by decide) BSet.zero z (by decide) z (by decide) encSet_one (fun a148 c149 => ?_))
     refine TL.front 1 z z ?_
     have u65 := grd_c hh
     replace hh := grd_t hh
     refine TL.op z (OpOk.appendS z z Tryz.underlying131 sz86 by86 ze86 z z (by decide) z z z (.inr ⟨_, 0, z⟩) (by simpa using u65) (by decide) (fun a151 c152 => ?_))
     refine TL.sl z (.inr z) z z z (TL.nil (B.n (S.n (TC.region (TL.a z (.inl z) z z z ?_)))))
     have u68 := grd_c hh
     replace hh := grd_t hh
     refine TL.v z (OpVal.succ z z z (by omega)) z z (TL.a z (.inr z) z z z (TL.en ?_))
     obtain ⟨hh, hlt153⟩ := nxt_x hR1 hh
     exact lf (((l123 ++ [(BSet.make fun i => nth l139 i false)]), (k126 + 1)), (a151, c152)) hlt153 hh (Sub.pre 1 z)
   ·refine TC.exit (S.x (S.x ?_))
    replace hh := fin_x hR1 hh
    refine TC.exitHere (S.n (TC.a (TL.sl z (.inl z) z z z (TL.sl z (.inr z) z z z (TL.a z (.inr z) z z z (TL.en (TC.sealS encSet_len (fun τ156 hle155 hr154 => ?_))))))))
    replace f0_0 := f0_0.mono hle155
    have hr154b := hr154.rv.big
    refine TC.ret ?_
    obtain rfl := so hh
    exact RetOk.mk' (rs := [.tmp 2, .tmp 3]) [] z (.inl z) (RVs.tmp z (RVs.tmp z RVs.nil)) (List.sublist_append_left _ _) ⟨a124, c125, z, hr154, z⟩

noncomputable def whittleref11_Right_b2 (v5 : (List BSet) × Int) (x0 : Dfa) (k110 : Nat) (k116 : Nat) : Option ((Nat) ⊕ ((Nat) ⊕ (Bool))) :=
 iteO (decide (((k116 : Nat) : Int) < ((v5.1.length : Nat) : Int))) (grd (k116 < (nth x0.next k110 ([] : List Int)).length) (iteO (decide ((nth (nth x0.next k110 ([] : List Int)) k116 (0 : Int)) < 0)) (fin (fin (some false))) (grd (k116 < (nth x0.next k110 ([] : List Int)).length) (iteO (decide (((x0.next.length : Nat) : Int) ≤ (nth (nth x0.next k110 ([] : List Int)) k116 (0 : Int)))) (fin (fin (some false))) (nxt (k116 + 1)))))) (fin (nxt (k110 + 1)))
noncomputable def whittleref11_Right_b1 (x0 : Dfa) (v5 : (List BSet) × Int) (k110 : Nat) : Option ((Nat) ⊕ (Bool)) :=
 iteO (decide (((k110 : Nat) : Int) < ((x0.next.length : Nat) : Int))) (iteO (decide ((((nth x0.next k110 ([] : List Int)).length : Nat) : Int) ≠ ((v5.1.length : Nat) : Int))) (fin (some false)) (iter (fun q : Nat => whittleref11_Right_b2 v5 x0 k110 q) 0)) (fin (some true))
noncomputable def whittleref11_Right (x0 : Dfa) : Option (Bool) :=
 bnd (whittleref02_Sets x0.cls) (fun v5 => iteO (decide (v5.2 ≠ 0)) (some false) (iteO (decide (((x0.next.length : Nat) : Int) < 1)) (some false) (iteO (decide (1024 < ((x0.next.length : Nat) : Int))) (some false) (iteO (decide (((x0.fin.length : Nat) : Int) ≠ ((x0.next.length : Nat) : Int))) (some false) (iter (fun q : Nat => whittleref11_Right_b1 x0 v5 q) 0)))))
theorem whittleref11_Right_con {σ : Store} {x0 : Dfa} {a0_0 : Option Addr} {c0_0 : Nat} {a0_1 : Option Addr} {c0_1 : Nat} {a0_2 : Option Addr} {c0_2 : Nat} (f0_0 : RS σ 1 Go.E.encI (.slice a0_0 x0.cls.length c0_0) x0.cls) (f0_1 : RZ σ (pkSl 1 Go.E.encI Go.E.encI_len) (.slice a0_1 x0.next.length c0_1) x0.next) (f0_2 : RS σ 1 encB (.slice a0_2 x0.fin.length c0_2) x0.fin) {r : Bool} (hh : whittleref11_Right x0 = some r) :
  Con Tryz.prog 66 #[.agg #[.slice a0_0 x0.cls.length c0_0, .slice a0_1 x0.next.length c0_1, .slice a0_2 x0.fin.length c0_2]] σ [] (PureP (.bool r) σ) := by
 dsimp only [whittleref11_Right] at hh
 have f0_0b := f0_0.rv.big
 have f0_1b := f0_1.big
 have f0_2b := f0_2.rv.big
 refine Con.mk (n := 75) Tryz.func66 z z z (fun w0 => ?_)
 refine TC.a (TL.op z (OpOk.boxA z z z z (fun b101 => ?_)))
 refine TL.b z (.inr z) z z z (TL.en (TC.a (TL.v z (OpVal.fieldLoc z fo26_0 z) z z (TL.v z (OpVal.loadLoc z ag22 z (i := 0) z z) z z ?_))))
 obtain ⟨v5, u5, hh⟩ := bnd_e hh
 refine TL.op z (OpOk.call (whittleref02_Sets_con f0_0 u5) z z pf97 z z z z ?_)
 rintro _ τ103 _ hle103 ⟨a103_1, c103_1, rfl, hr103_0, rfl⟩
 replace f0_0 := f0_0.mono hle103
 replace f0_1 := f0_1.mono hle103
 replace f0_2 := f0_2.mono hle103
 have hr103_0b := hr103_0.rv.big
 refine TL.v z (OpVal.moveT (.inl z) z) z z (TL.v z (OpVal.extract z z z) z z (TL.v z (OpVal.extract z z z) z z (TL.sl z (.inr z) z z z (TL.a z (.inr z) z z z (TL.en (TC.a (TL.v z (OpVal.fieldLoc z fo26_1 z) z z (TL.v z (OpVal.loadLoc z ag23 z (i := 0) z z) z z (TL.v z (OpVal.lenC z Tryz.underlying23 z) z z ?_)))))))))
 refine TL.a z (.inr z) z z z (TL.en (TC.seq (TC.a (TL.a z (.inl z) z z z (TL.v z (OpVal.neq z z z) z z (TL.b z (.inl z) z z z (TL.split 19 z (fun h104 => ?_) (fun h104 => ?_))))))))
 ·replace hh := iteO_t h104 hh
  replace h104 := of_decide_eq_true h104
  refine TL.goff z z z z z z z z (TL.goff z z z z z z z z (TL.v z (OpVal.pickTB z z z) z z (TL.b z (.inl z) z z z (TL.goff z z z z z z z z (TL.goff z z z z z z z z (TL.v z (OpVal.pickTB z z z) z z (TL.b z (.inl z) z z z (TL.goff z z z z z z z z (TL.goff z z z z z z z z ?_)))))))))
  refine TL.goff z z z z z z z z (TL.goff z z z z z z z z (TL.goff z z z z z z z z (TL.v z (OpVal.pickTB z z z) z z (TL.en (TC.cond z (fun _ => ?_) (fun h => Bool.noConfusion h))))))
  refine TC.a (TL.b z (.inr z) z z z (TL.en (TC.ofSub (Sub.pre 0 z) (TC.back (TC.ret (S.r ?_))))))
  obtain rfl := so hh
  exact r1 2
 ·replace hh := iteO_f h104 hh
  replace h104 := of_decide_eq_false h104
  refine TL.gv z z z z z (OpVal.moveI (.inl z) z) z z (TL.gv z z z z z (OpVal.lss z z z) z z (TL.v z (OpVal.pickFB z z z) z z (TL.b z (.inl z) z z z (TL.split 23 z (fun h105 => ?_) (fun h105 => ?_)))))
  ·replace hh := iteO_t h105 hh
   replace h105 := of_decide_eq_true h105
   refine TL.goff z z z z z z z z (TL.goff z z z z z z z z (TL.v z (OpVal.pickTB z z z) z z (TL.b z (.inl z) z z z (TL.goff z z z z z z z z (TL.goff z z z z z z z z (TL.goff z z z z z z z z (TL.goff z z z z z z z z (TL.goff z z z z z z z z (TL.v z (OpVal.pickTB z z z) z z ?_)))))))))
   refine TL.en (TC.cond z (fun _ => ?_) (fun h => Bool.noConfusion h))
   refine TC.a (TL.b z (.inr z) z z z (TL.en (TC.ofSub (Sub.pre 0 z) (TC.back (TC.ret (S.r ?_))))))
   obtain rfl := so hh
   exact r1 2
  ·replace hh := iteO_f h105 hh
   replace h105 := of_decide_eq_false h105
   refine TL.gv z z z z z (OpVal.moveI (.inl z) z) z z (TL.gv z z z z z (OpVal.gtr z z z) z z (TL.v z (OpVal.pickFB z z z) z z (TL.b z (.inl z) z z z (TL.split 27 z (fun h106 => ?_) (fun h106 => ?_)))))
   ·replace hh := iteO_t h106 hh
    replace h106 := of_decide_eq_true h106
    refine TL.goff z z z z z z z z (TL.goff z z z z z z z z (TL.goff z z z z z z z z (TL.goff z z z z z z z z (TL.goff z z z z z z z z (TL.v z (OpVal.pickTB z z z) z z (TL.en (TC.cond z (fun _ => ?_) (fun h => Bool.noConfusion h))))))))
    refine TC.a (TL.b z (.inr z) z z z (TL.en (TC.ofSub (Sub.pre 0 z) (TC.back (TC.ret (S.r ?_))))))
    obtain rfl := so hh
    exact r1 2
   ·replace hh := iteO_f h106 hh
    replace h106 := of_decide_eq_false h106
    refine TL.gv z z z z z (OpVal.fieldLoc z fo26_2 z) z z (TL.gv z z z z z (OpVal.loadLoc z ag24 z (i := 0) z z) z z (TL.gv z z z z z (OpVal.lenC z Tryz.underlying24 z) z z (TL.gv z z z z z (OpVal.moveI (.inl z) z) z z (TL.gv z z z z z (OpVal.neq z z z) z z (TL.v z (OpVal.pickFB z z z) z z (TL.en (TC.cD z hh (fun h107 hh => ?_) (fun h107 hh => ?_))))))))
    ·refine TC.a (TL.b z (.inr z) z z z (TL.en (TC.ofSub (Sub.pre 0 z) (TC.back (TC.ret (S.r ?_))))))
     obtain rfl := so hh
     exact r1 2
    ·refine TC.skip (S.n (TC.seq (TC.a (TL.a z (.inr z) z z z (TL.en (TC.block (TC.loopG (α := (Nat) × (Unit)) [2, 6, 7, 34, 35, 36, 37, 38, 39, 40, 41, 42, 43, 44, 45, 46, 47, 48, 49, 50, 51, 52, 53, 54, 55, 56, 57, 58, 59, 60, 61, 62, 63, 64, 65, 66, 67, 68, 69, 70, 71, 72, 73, 74] (fun g => [(6, .int .i64 ((g.1 : Nat) : Int))]) (fun g => [Res.cells b101 #[.slice a0_0 x0.cls.length c0_0, .slice a0_1 x0.next.length c0_1, .slice a0_2 x0.fin.length c0_2] 26]) (fun g => τ103) (fun g => iter (fun q : Nat => whittleref11_Right_b1 x0 v5 q) g.1 = some r) (fun g => rounds (fun q : Nat => whittleref11_Right_b1 x0 v5 q) g.1) (0, ()) (Sub.pre 1 z) z (by repeat (first | exact trivial | refine ⟨z, ?_⟩)) hh (fun g1 j1 hg1 => ?_))))))))
     obtain ⟨k110, _⟩ := g1
     have hh := hg1; clear hg1
     show TC _ _ _ (upds (mask _ j1 _) [(6, .int .i64 ((k110 : Nat) : Int))]) _ [Res.cells b101 #[.slice a0_0 x0.cls.length c0_0, .slice a0_1 x0.next.length c0_1, .slice a0_2 x0.fin.length c0_2] 26]
     obtain ⟨z1, hh, hR1⟩ := iter_e hh
     dsimp only [whittleref11_Right_b1] at hh
     refine TC.seq (TC.a (TL.a z (.inl z) z z z (TL.a z (.inl z) z z z (TL.v z (OpVal.lss z z z) z z (TL.en (TC.cD z hh (fun h111 hh => ?_) (fun h111 hh => ?_)))))))
     ·refine TC.skip (S.n (TC.seq (TC.block (TC.seq (TC.a (TL.v z (OpVal.fieldLoc z fo26_1 z) z z (TL.v z (OpVal.loadLoc z ag23 z (i := 0) z z) z z (TL.a z (.inl z) z z z (TL.v z (OpVal.indexN z Tryz.underlying23 sz22 z z f0_1.isSl (by omega)) z z ?_)))))))))
      obtain ⟨p112, hk112, hg112⟩ := RZ.seg f0_1 k110 (by omega)
      replace hk112 : RS _ 1 Go.E.encI (.slice p112.1 (nth x0.next k110 ([] : List Int)).length p112.2) (nth x0.next k110 ([] : List Int)) := hk112
      have hk112b := hk112.rv.big
      refine TL.v z (OpVal.of (OpVal.loadSeg0 z ag22 z hg112 z) (v' := .slice p112.1 ((nth x0.next k110 ([] : List Int)).length) p112.2) z) z z (TL.v z (OpVal.lenC z Tryz.underlying22 z) z z (TL.sl z (.inl z) z z z (TL.v z (OpVal.lenC z Tryz.underlying131 z) z z (TL.v z (OpVal.neq z z z) z z (TL.en (TC.cD z hh (fun h113 hh => ?_) (fun h113 hh => ?_)))))))
      ·refine TC.a (TL.b z (.inr z) z z z (TL.en (TC.ofSub (Sub.pre 0 z) (TC.back (TC.ret (S.r (B.r (S.r (S.r ?_)))))))))
       replace hh := fin_x hR1 hh
       refine B.r (S.r ?_)
       obtain rfl := so hh
       exact r1 2
      ·refine TC.skip (S.n (TC.a (TL.a z (.inr z) z z z (TL.en (TC.block (TC.loopG (α := (Nat) × (Unit)) [2, 7, 48, 49, 50, 51, 52, 53, 54, 55, 56, 57, 58, 59, 60, 61, 62, 63, 64, 65, 66, 67, 68, 69, 70, 71, 72, 73, 74] (fun g => [(7, .int .i64 ((g.1 : Nat) : Int))]) (fun g => [Res.cells b101 #[.slice a0_0 x0.cls.length c0_0, .slice a0_1 x0.next.length c0_1, .slice a0_2 x0.fin.length c0_2] 26]) (fun g => τ103) (fun g => iter (fun q : Nat => whittleref11_Right_b2 v5 x0 k110 q) g.1 = some z1) (fun g => rounds (fun q : Nat => whittleref11_Right_b2 v5 x0 k110 q) g.1) (0, ()) (Sub.pre 1 z) z (by repeat (first | exact trivial | refine ⟨z, ?_⟩)) hh (fun g2 j2 hg2 => ?_)))))))
       obtain ⟨k116, _⟩ := g2
       have hh := hg2; clear hg2
       show TC _ _ _ (upds (mask _ j2 _) [(7, .int .i64 ((k116 : Nat) : Int))]) _ [Res.cells b101 #[.slice a0_0 x0.cls.length c0_0, .slice a0_1 x0.next.length c0_1, .slice a0_2 x0.fin.length c0_2] 26]
       obtain ⟨z2, hh, hR2⟩ := iter_e hh
       dsimp only [whittleref11_Right_b2] at hh
       refine TC.seq (TC.a (TL.a z (.inl z) z z z (TL.sl z (.inl z) z z z (TL.v z (OpVal.lenC z Tryz.underlying131 z) z z (TL.v z (OpVal.lss z z z) z z (TL.en (TC.cD z hh (fun h117 hh => ?_) (fun h117 hh => ?_))))))))
       ·refine TC.skip (S.n (TC.seq (TC.block (TC.a (TL.v z (OpVal.fieldLoc z fo26_1 z) z z (TL.v z (OpVal.loadLoc z ag23 z (i := 0) z z) z z (TL.a z (.inl z) z z z (TL.v z (OpVal.indexN z Tryz.underlying23 sz22 z z f0_1.isSl (by omega)) z z ?_))))))))
        obtain ⟨p118, hk118, hg118⟩ := RZ.seg f0_1 k110 (by omega)
        replace hk118 : RS _ 1 Go.E.encI (.slice p118.1 (nth x0.next k110 ([] : List Int)).length p118.2) (nth x0.next k110 ([] : List Int)) := hk118
        have hk118b := hk118.rv.big
        refine TL.v z (OpVal.of (OpVal.loadSeg0 z ag22 z hg118 z) (v' := .slice p118.1 ((nth x0.next k110 ([] : List Int)).length) p118.2) z) z z (TL.a z (.inl z) z z z ?_)
        have u58 := grd_c hh
        replace hh := grd_t hh
        refine TL.v z (OpVal.indexN z Tryz.underlying22 sz3 z z hk118.rv.sl (by omega)) z z (TL.v z (OpVal.loadS1 (0 : Int) z ag3 z hk118 (by omega) z) z z (TL.v z (OpVal.lss z z z) z z (TL.b z (.inl z) z z z (TL.split 63 z (fun h119 => ?_) (fun h119 => ?_)))))
        ·replace hh := iteO_t h119 hh
         replace h119 := of_decide_eq_true h119
         refine TL.goff z z z z z z z z (TL.goff z z z z z z z z (TL.goff z z z z z z z z (TL.goff z z z z z z z z (TL.goff z z z z z z z z (TL.goff z z z z z z z z (TL.goff z z z z z z z z (TL.goff z z z z z z z z (TL.goff z z z z z z z z (TL.goff z z z z z z z z ?_)))))))))
         refine TL.v z (OpVal.pickTB z z z) z z (TL.en (TC.cond z (fun _ => ?_) (fun h => Bool.noConfusion h)))
         refine TC.a (TL.b z (.inr z) z z z (TL.en (TC.ofSub (Sub.pre 0 z) (TC.back (TC.ret (B.r (S.r (S.r ?_))))))))
         replace hh := fin_x hR2 hh
         refine B.r (B.r (S.r (S.r ?_)))
         replace hh := fin_x hR1 hh
         refine B.r (S.r ?_)
         obtain rfl := so hh
         exact r1 2
        ·replace hh := iteO_f h119 hh
         replace h119 := of_decide_eq_false h119
         refine TL.gv z z z z z (OpVal.fieldLoc z fo26_1 z) z z (TL.gv z z z z z (OpVal.loadLoc z ag23 z (i := 0) z z) z z (TL.gv z z z z z (OpVal.moveI (.inl z) z) z z (TL.gv z z z z z (OpVal.indexN z Tryz.underlying23 sz22 z z f0_1.isSl (by omega)) z z ?_)))
         obtain ⟨p120, hk120, hg120⟩ := RZ.seg f0_1 k110 (by omega)
         replace hk120 : RS _ 1 Go.E.encI (.slice p120.1 (nth x0.next k110 ([] : List Int)).length p120.2) (nth x0.next k110 ([] : List Int)) := hk120
         have hk120b := hk120.rv.big
         refine TL.gv z z z z z (OpVal.of (OpVal.loadSeg0 z ag22 z hg120 z) (v' := .slice p120.1 ((nth x0.next k110 ([] : List Int)).length) p120.2) z) z z (TL.gv z z z z z (OpVal.moveI (.inl z) z) z z ?_)
         have u68 := grd_c hh
         replace hh := grd_t hh
         refine TL.gv z z z z z (OpVal.indexN z Tryz.underlying22 sz3 z z hk120.rv.sl (by omega)) z z (TL.gv z z z z z (OpVal.loadS1 (0 : Int) z ag3 z hk120 (by omega) z) z z (TL.gv z z z z z (OpVal.moveI (.inl z) z) z z (TL.gv z z z z z (OpVal.geq z z z) z z (TL.v z (OpVal.pickFB z z z) z z (TL.en (TC.cD z hh (fun h121 hh => ?_) (fun h121 hh => ?_)))))))
         ·refine TC.a (TL.b z (.inr z) z z z (TL.en (TC.ofSub (Sub.pre 0 z) (TC.back (TC.ret (B.r (S.r (S.r ?_))))))))
          replace hh := fin_x hR2 hh
          refine B.r (B.r (S.r (S.r ?_)))
          replace hh := fin_x hR1 hh
          refine B.r (S.r ?_)
          obtain rfl := so hh
          exact r1 2
         ·refine TC.skip (B.n (S.n (TC.region (TL.a z (.inl z) z z z (TL.v z (OpVal.succ z z z (by omega)) z z (TL.a z (.inr z) z z z (TL.en ?_)))))))
          obtain ⟨hh, hlt122⟩ := nxt_x hR2 hh
          exact lf ((k116 + 1), ()) hlt122 hh (Sub.pre 1 z)
       ·refine TC.exit (S.x (S.x ?_))
        replace hh := fin_x hR2 hh
        refine TC.exitHere (B.n (S.n (TC.region (TL.a z (.inl z) z z z (TL.v z (OpVal.succ z z z (by omega)) z z (TL.a z (.inr z) z z z (TL.en ?_)))))))
        obtain ⟨hh, hlt123⟩ := nxt_x hR1 hh
        exact lf ((k110 + 1), ()) hlt123 hh (Sub.pre 1 z)
     ·refine TC.exit (S.x (S.x ?_))
      replace hh := fin_x hR1 hh
      refine TC.exitHere (S.n (TC.a (TL.b z (.inr z) z z z (TL.en (TC.ofSub (Sub.pre 0 z) (TC.back (TC.ret ?_)))))))
      obtain rfl := so hh
      exact r1 2

noncomputable def whittleref23_taken_b1 (x3 : Int) (x0 : Dfa) (x1 : List UInt8) (i107 : Int) (i108 : Int) : Option ((Int × Int) ⊕ (Bool)) :=
 iteO (decide (i108 < x3)) (grd (0 ≤ i107 ∧ i107 < (x0.next.length : Int)) (grd (0 ≤ i108 ∧ i108 < (x1.length : Int)) (grd ((nth x1 i108.toNat (0 : UInt8)).toNat < x0.cls.length) (grd (0 ≤ (nth x0.cls ((nth x1 i108.toNat (0 : UInt8)).toNat) (0 : Int)) ∧ (nth x0.cls ((nth x1 i108.toNat (0 : UInt8)).toNat) (0 : Int)) < ((nth x0.next i107.toNat ([] : List Int)).length : Int)) (nxt ((nth (nth x0.next i107.toNat ([] : List Int)) ((nth x0.cls ((nth x1 i108.toNat (0 : UInt8)).toNat) (0 : Int)).toNat) (0 : Int)), (IntKind.i64.wrap (i108 + 1)))))))) (fin (grd (0 ≤ i107 ∧ i107 < (x0.fin.length : Int)) (some (nth x0.fin i107.toNat false))))
noncomputable def whittleref23_taken (x0 : Dfa) (x1 : List UInt8) (x2 : Int) (x3 : Int) : Option (Bool) :=
 grd (x1.length ≤ 281474976710656) (iter (fun q : Int × Int => whittleref23_taken_b1 x3 x0 x1 q.1 q.2) (0, x2))
theorem whittleref23_taken_con {σ : Store} {x0 : Dfa} {a0_0 : Option Addr} {c0_0 : Nat} {a0_1 : Option Addr} {c0_1 : Nat} {a0_2 : Option Addr} {c0_2 : Nat} {x1 : List UInt8} {x2 : Int} {x3 : Int} (f0_0 : RS σ 1 Go.E.encI (.slice a0_0 x0.cls.length c0_0) x0.cls) (f0_1 : RZ σ (pkSl 1 Go.E.encI Go.E.encI_len) (.slice a0_1 x0.next.length c0_1) x0.next) (f0_2 : RS σ 1 encB (.slice a0_2 x0.fin.length c0_2) x0.fin) {r : Bool} (hh : whittleref23_taken x0 x1 x2 x3 = some r) :
  Con Tryz.prog 70 #[.agg #[.slice a0_0 x0.cls.length c0_0, .slice a0_1 x0.next.length c0_1, .slice a0_2 x0.fin.length c0_2], .string (bs x1), .int .i64 x2, .int .i64 x3] σ [] (PureP (.bool r) σ) := by
 dsimp only [whittleref23_taken] at hh
 have f0_0b := f0_0.rv.big
 have f0_1b := f0_1.big
 have f0_2b := f0_2.rv.big
 refine Con.mk (n := 36) Tryz.func70 z z z (fun w0 => ?_)
 have x1b := grd_c hh
 replace hh := grd_t hh
 refine TC.a (TL.op z (OpOk.boxA z z z z (fun b101 => ?_)))
 refine TL.b z (.inr z) z z z (TL.en (TC.a (TL.a z (.inr z) z z z (TL.en (TC.seq (TC.a (TL.a z (.inl z) z z z (TL.a z (.inr z) z z z (TL.en ?_)))))))))
 refine TC.block (TC.loopG (α := (Int × Int) × (Unit)) [9, 10, 12, 13, 14, 15, 16, 17, 18, 19, 20, 21, 22, 23, 24, 25, 26, 27, 28, 29, 30] (fun g => [(9, .int .i64 g.1.1), (10, .int .i64 g.1.2)]) (fun g => [Res.cells b101 #[.slice a0_0 x0.cls.length c0_0, .slice a0_1 x0.next.length c0_1, .slice a0_2 x0.fin.length c0_2] 26]) (fun g => σ) (fun g => iter (fun q : Int × Int => whittleref23_taken_b1 x3 x0 x1 q.1 q.2) g.1 = some r) (fun g => rounds (fun q : Int × Int => whittleref23_taken_b1 x3 x0 x1 q.1 q.2) g.1) ((0, x2), ()) (Sub.pre 1 z) z (by repeat (first | exact trivial | refine ⟨z, ?_⟩)) hh (fun g1 j1 hg1 => ?_))
 obtain ⟨⟨i107, i108⟩, _⟩ := g1
 have hh := hg1; clear hg1
 show TC _ _ _ (upds (mask _ j1 _) [(9, .int .i64 i107), (10, .int .i64 i108)]) _ [Res.cells b101 #[.slice a0_0 x0.cls.length c0_0, .slice a0_1 x0.next.length c0_1, .slice a0_2 x0.fin.length c0_2] 26]
 obtain ⟨z1, hh, hR1⟩ := iter_e hh
 dsimp only [whittleref23_taken_b1] at hh
 refine TC.seq (TC.a (TL.a z (.inl z) z z z (TL.a z (.inl z) z z z (TL.v z (OpVal.lss z z z) z z (TL.en (TC.cD z hh (fun h109 hh => ?_) (fun h109 hh => ?_)))))))
 ·refine TC.skip (S.n (TC.seq (TC.block ?_)))
  have u12 := grd_c hh
  replace hh := grd_t hh
  have u18 := grd_c hh
  replace hh := grd_t hh
  have u19 := grd_c hh
  replace hh := grd_t hh
  have u21 := grd_c hh
  replace hh := grd_t hh
  refine TC.draw [] (by kernel_rfl) (TA.a 0 z (OpVal.fieldLoc z fo26_1 z) z (TA.b 1 z (OpVal.loadLoc z ag23 z (i := 0) z z) z (TA.a 2 z (OpVal.moveI (.inl z) z) z (TA.b 3 z (OpVal.index z Tryz.underlying23 sz22 z z f0_1.isSl u12.1 u12.2) z ?_))))
  obtain ⟨p111, hk111, hg111⟩ := RZ.seg f0_1 i107.toNat (by omega)
  replace hk111 : RS _ 1 Go.E.encI (.slice p111.1 (nth x0.next i107.toNat ([] : List Int)).length p111.2) (nth x0.next i107.toNat ([] : List Int)) := hk111
  have hk111b := hk111.rv.big
  refine TA.b 4 z (OpVal.of (OpVal.loadSeg0 z ag22 z hg111 z) (v' := .slice p111.1 ((nth x0.next i107.toNat ([] : List Int)).length) p111.2) z) z (TA.a 5 z (OpVal.fieldLoc z fo26_0 z) z (TA.b 6 z (OpVal.loadLoc z ag22 z (i := 0) z z) z (TA.a 7 z (OpVal.moveStr (.inl z) z) z (TA.a 8 z (OpVal.moveI (.inl z) z) z (TA.a 9 z (OpVal.indexBsI z Tryz.underlying9 z z u18.1 u18.2) z (TA.b 10 z (OpVal.indexN z Tryz.underlying22 sz3 z z f0_0.rv.sl (by omega)) z (TA.b 11 z (OpVal.loadS1 (0 : Int) z ag3 z f0_0 (by omega) z) z (TA.b 12 z (OpVal.index z Tryz.underlying22 sz3 z z hk111.rv.sl u21.1 u21.2) z (TA.b 13 z (OpVal.loadS1 (0 : Int) z ag3 z hk111 (by omega) z) z ?_)))))))))
  refine TA.a 14 z (OpVal.moveI (.inr z) z) z (TA.dn (B.n (S.n (TC.region (TL.a z (.inl z) z z z (TL.v z (OpVal.addW z z z) z z (TL.a z (.inr z) z z z (TL.en ?_))))))))
  obtain ⟨hh, hlt112⟩ := nxt_x hR1 hh
  exact lf (((nth (nth x0.next i107.toNat ([] : List Int)) ((nth x0.cls ((nth x1 i108.toNat (0 : UInt8)).toNat) (0 : Int)).toNat) (0 : Int)), (IntKind.i64.wrap (i108 + 1))), ()) hlt112 hh (Sub.pre 1 z)
 ·refine TC.exit (S.x (S.x ?_))
  replace hh := fin_x hR1 hh
  refine TC.exitHere (S.n (TC.a (TL.v z (OpVal.fieldLoc z fo26_2 z) z z (TL.v z (OpVal.loadLoc z ag24 z (i := 0) z z) z z (TL.a z (.inl z) z z z ?_)))))
  have u30 := grd_c hh
  replace hh := grd_t hh
  refine TL.v z (OpVal.index z Tryz.underlying24 sz4 z z f0_2.rv.sl u30.1 u30.2) z z (TL.v z (OpVal.loadS1 false z ag4 z f0_2 (by omega) z) z z (TL.b z (.inr z) z z z (TL.en (TC.ofSub (Sub.pre 0 z) (TC.ret ?_)))))
  obtain rfl := so hh
  exact r1 8

noncomputable def whittleref23_wrong (x0 : Dfa) (x1 : List UInt8) : Option (Int) :=
 grd (x1.length ≤ 281474976710656) (bnd (whittleref11_Right x0) (fun v4 => iteO (!v4) (some 1) (iteO (decide (4096 < ((x1.length : Nat) : Int))) (some 2) (some 0))))
theorem whittleref23_wrong_con {σ : Store} {x0 : Dfa} {a0_0 : Option Addr} {c0_0 : Nat} {a0_1 : Option Addr} {c0_1 : Nat} {a0_2 : Option Addr} {c0_2 : Nat} {x1 : List UInt8} (f0_0 : RS σ 1 Go.E.encI (.slice a0_0 x0.cls.length c0_0) x0.cls) (f0_1 : RZ σ (pkSl 1 Go.E.encI Go.E.encI_len) (.slice a0_1 x0.next.length c0_1) x0.next) (f0_2 : RS σ 1 encB (.slice a0_2 x0.fin.length c0_2) x0.fin) {r : Int} (hh : whittleref23_wrong x0 x1 = some r) :
  Con Tryz.prog 98 #[.agg #[.slice a0_0 x0.cls.length c0_0, .slice a0_1 x0.next.length c0_1, .slice a0_2 x0.fin.length c0_2], .string (bs x1)] σ [] (PureP (.int .i64 r) σ) := by
 dsimp only [whittleref23_wrong] at hh
 have f0_0b := f0_0.rv.big
 have f0_1b := f0_1.big
 have f0_2b := f0_2.rv.big
 refine Con.mk (n := 11) Tryz.func98 z z z (fun w0 => ?_)
 have x1b := grd_c hh
 replace hh := grd_t hh
 refine TC.a (TL.op z (OpOk.boxA z z z z (fun b101 => ?_)))
 refine TL.a z (.inr z) z z z (TL.en (TC.seq (TC.a (TL.v z (OpVal.loadAll z ag26 sz26 z (i := 0) z z) z z ?_))))
 obtain ⟨v4, u4, hh⟩ := bnd_e hh
 refine TL.op z (OpOk.callP (whittleref11_Right_con (x0 := x0) f0_0 f0_1 f0_2 u4) z z pf66 z z z ?_)
 refine TL.v z (OpVal.not z z) z z (TL.en (TC.cB z hh (fun h103 hh => ?_) (fun h103 hh => ?_)))
 ·refine TC.a (TL.a z (.inr z) z z z (TL.en (TC.ofSub (Sub.pre 0 z) (TC.ret (S.r ?_)))))
  obtain rfl := so hh
  exact r1 4
 ·refine TC.skip (S.n (TC.seq (TC.a (TL.v z (OpVal.moveStr (.inl z) z) z z (TL.v z (OpVal.lenBs z Tryz.underlying9 z) z z (TL.v z (OpVal.gtr z z z) z z (TL.en (TC.cD z hh (fun h104 hh => ?_) (fun h104 hh => ?_)))))))))
  ·refine TC.a (TL.a z (.inr z) z z z (TL.en (TC.ofSub (Sub.pre 0 z) (TC.ret (S.r ?_)))))
   obtain rfl := so hh
   exact r1 4
  ·refine TC.skip (S.n (TC.a (TL.a z (.inr z) z z z (TL.en (TC.ofSub (Sub.pre 0 z) (TC.ret ?_))))))
   obtain rfl := so hh
   exact r1 4

noncomputable def whittleref23_Before_j1 (k127 : Nat) (t130 : Bool) : Option ((Bool × Nat) ⊕ (((List Bool) × Nat) ⊕ ((List Bool) × Int))) :=
 nxt (t130, (k127 + 1))
noncomputable def whittleref23_Before_b2 (k118 : Nat) (x0 : Dfa) (x1 : List UInt8) (l115 : List Bool) (t126 : Bool) (k127 : Nat) : Option ((Bool × Nat) ⊕ (((List Bool) × Nat) ⊕ ((List Bool) × Int))) :=
 iteO (decide (((k127 : Nat) : Int) ≤ ((k118 : Nat) : Int))) (iteO t126 (whittleref23_Before_j1 k127 true) (bnd (whittleref23_taken x0 x1 ((k127 : Nat) : Int) ((k118 : Nat) : Int)) (fun v30 => whittleref23_Before_j1 k127 v30))) (fin (grd ((l115.length + [t126].length) * 1 ≤ 140737488355328) (nxt ((l115 ++ [t126]), (k118 + 1)))))
noncomputable def whittleref23_Before_b1 (x1 : List UInt8) (x0 : Dfa) (l115 : List Bool) (k118 : Nat) : Option (((List Bool) × Nat) ⊕ ((List Bool) × Int)) :=
 iteO (decide (((k118 : Nat) : Int) ≤ ((x1.length : Nat) : Int))) (iter (fun q : Bool × Nat => whittleref23_Before_b2 k118 x0 x1 l115 q.1 q.2) (false, 0)) (fin (some (l115, 0)))
noncomputable def whittleref23_Before (x0 : Dfa) (x1 : List UInt8) : Option ((List Bool) × Int) :=
 grd (x1.length ≤ 281474976710656) (bnd (whittleref23_wrong x0 x1) (fun v6 => iteO (decide (v6 ≠ 0)) (some (([] : List Bool), v6)) (iter (fun q : (List Bool) × Nat => whittleref23_Before_b1 x1 x0 q.1 q.2) (([] : List Bool), 0))))
def whittleref23_Before_P (σ : Store) (r : (List Bool) × Int) : Value → Store → List Res → Prop := fun v σ' H' =>
 ∃ (a1 : Option Addr), ∃ (c1 : Nat),  v = .tuple #[.slice a1 r.1.length c1, .int .i64 r.2] ∧ RS σ' 1 encB (.slice a1 r.1.length c1) r.1 ∧ H' = []
theorem whittleref23_Before_con {σ : Store} {x0 : Dfa} {a0_0 : Option Addr} {c0_0 : Nat} {a0_1 : Option Addr} {c0_1 : Nat} {a0_2 : Option Addr} {c0_2 : Nat} {x1 : List UInt8} (f0_0 : RS σ 1 Go.E.encI (.slice a0_0 x0.cls.length c0_0) x0.cls) (f0_1 : RZ σ (pkSl 1 Go.E.encI Go.E.encI_len) (.slice a0_1 x0.next.length c0_1) x0.next) (f0_2 : RS σ 1 encB (.slice a0_2 x0.fin.length c0_2) x0.fin) {r : (List Bool) × Int} (hh : whittleref23_Before x0 x1 = some r) :
  Con Tryz.prog 68 #[.agg #[.slice a0_0 x0.cls.length c0_0, .slice a0_1 x0.next.length c0_1, .slice a0_2 x0.fin.length c0_2], .string (bs x1)] σ [] (whittleref23_Before_P σ r) := by
 dsimp only [whittleref23_Before] at hh
 have f0_0b := f0_0.rv.big
 have f0_1b := f0_1.big
 have f0_2b := f0_2.rv.big
 refine Con.mk (n := 41) Tryz.func68 z z z (fun w0 => ?_)
 have x1b := grd_c hh
 replace hh := grd_t hh
 refine TC.a (TL.op z (OpOk.boxA z z z z (fun b101 => ?_)))
 refine TL.sl z (.inr z) z z z (TL.a z (.inr z) z z z (TL.en (TC.a (TL.v z (OpVal.loadAll z ag26 sz26 z (i := 0) z z) z z (TL.v z (OpVal.moveStr (.inl z) z) z z ?_)))))
 obtain ⟨v6, u6, hh⟩ := bnd_e hh
 refine TL.op z (OpOk.callP (whittleref23_wrong_con (x0 := x0) f0_0 f0_1 f0_2 u6) z z pf98 z z z ?_)
 refine TL.a z (.inr z) z z z (TL.en (TC.seq (TC.a (TL.a z (.inl z) z z z (TL.v z (OpVal.neq z z z) z z (TL.en (TC.cD z hh (fun h103 hh => ?_) (fun h103 hh => ?_))))))))
 ·refine TC.a (TL.a z (.inl z) z z z (TL.sl z (.inr z) z z z (TL.a z (.inr z) z z z (TL.en (TC.ofSub (Sub.pre 0 z) (TC.ret (S.r ?_)))))))
  obtain rfl := so hh
  exact RetOk.mk' (rs := [.tmp 4, .tmp 5]) [] z (.inl z) (RVs.tmp z (RVs.tmp z RVs.nil)) (List.sublist_append_left _ _) ⟨none, 0, z, (RS.nilF _ encB encB_len), z⟩
 ·refine TC.skip (S.n (TC.a (TL.sl z (.inr z) z z z (TL.en (TC.seq (TC.a (TL.a z (.inr z) z z z (TL.en (TC.block ?_)))))))))
  refine TC.nilS 4 1 encB (TC.loopG (α := ((List Bool) × Nat) × ((Option Addr) × Nat)) [7, 8, 9, 10, 17, 18, 19, 20, 21, 22, 23, 24, 25, 26, 27, 28, 29, 30, 31, 32, 33, 34, 35, 36, 37, 38, 39] (fun g => [(7, .slice g.2.1 g.1.1.length g.2.2), (8, .int .i64 ((g.1.2 : Nat) : Int))]) (fun g => [Res.cells b101 #[.slice a0_0 x0.cls.length c0_0, .slice a0_1 x0.next.length c0_1, .slice a0_2 x0.fin.length c0_2] 26, Res.rowS 4 1 encB (.slice g.2.1 g.1.1.length g.2.2) g.1.1]) (fun g => σ) (fun g => iter (fun q : (List Bool) × Nat => whittleref23_Before_b1 x1 x0 q.1 q.2) g.1 = some r) (fun g => rounds (fun q : (List Bool) × Nat => whittleref23_Before_b1 x1 x0 q.1 q.2) g.1) ((([] : List Bool), 0), (none, 0)) (Sub.f [1] 2) z (by repeat (first | exact trivial | refine ⟨z, ?_⟩)) hh (fun g1 j1 hg1 => ?_))
  obtain ⟨⟨l115, k118⟩, ⟨a116, c117⟩⟩ := g1
  have hh := hg1; clear hg1
  show TC _ _ _ (upds (mask _ j1 _) [(7, .slice a116 l115.length c117), (8, .int .i64 ((k118 : Nat) : Int))]) _ [Res.cells b101 #[.slice a0_0 x0.cls.length c0_0, .slice a0_1 x0.next.length c0_1, .slice a0_2 x0.fin.length c0_2] 26, Res.rowS 4 1 encB (.slice a116 l115.length c117) l115]
  obtain ⟨z1, hh, hR1⟩ := iter_e hh
  dsimp only [whittleref23_Before_b1] at hh
  refine TC.isSl (i := 1) z (fun _ hb120 _ => ?_)
  refine TC.seq (TC.a (TL.a z (.inl z) z z z (TL.v z (OpVal.moveStr (.inl z) z) z z (TL.v z (OpVal.lenBs z Tryz.underlying9 z) z z (TL.v z (OpVal.leq z z z) z z (TL.en (TC.cD z hh (fun h121 hh => ?_) (fun h121 hh => ?_))))))))
  ·refine TC.skip (S.n (TC.seq (TC.block (TC.a (TL.b z (.inr z) z z z (TL.en (TC.seq (TC.a (TL.a z (.inr z) z z z ?_)))))))))
   refine TL.en (TC.block (TC.loopG (α := (Bool × Nat) × (Unit)) [9, 10, 23, 24, 25, 26, 27, 28, 29, 30, 31, 32, 33, 34, 35] (fun g => [(9, .bool g.1.1), (10, .int .i64 ((g.1.2 : Nat) : Int))]) (fun g => [Res.cells b101 #[.slice a0_0 x0.cls.length c0_0, .slice a0_1 x0.next.length c0_1, .slice a0_2 x0.fin.length c0_2] 26, Res.rowS 4 1 encB (.slice a116 l115.length c117) l115]) (fun g => σ) (fun g => iter (fun q : Bool × Nat => whittleref23_Before_b2 k118 x0 x1 l115 q.1 q.2) g.1 = some z1) (fun g => rounds (fun q : Bool × Nat => whittleref23_Before_b2 k118 x0 x1 l115 q.1 q.2) g.1) ((false, 0), ()) (Sub.f [1, 1] 2) z (by repeat (first | exact trivial | refine ⟨z, ?_⟩)) hh (fun g2 j2 hg2 => ?_)))
   obtain ⟨⟨t126, k127⟩, _⟩ := g2
   have hh := hg2; clear hg2
   show TC _ _ _ (upds (mask _ j2 _) [(9, .bool t126), (10, .int .i64 ((k127 : Nat) : Int))]) _ [Res.cells b101 #[.slice a0_0 x0.cls.length c0_0, .slice a0_1 x0.next.length c0_1, .slice a0_2 x0.fin.length c0_2] 26, Res.rowS 4 1 encB (.slice a116 l115.length c117) l115]
   obtain ⟨z2, hh, hR2⟩ := iter_e hh
   dsimp only [whittleref23_Before_b2] at hh
   refine TC.isSl (i := 1) z (fun _ hb128 _ => ?_)
   refine TC.seq (TC.a (TL.a z (.inl z) z z z (TL.a z (.inl z) z z z (TL.v z (OpVal.leq z z z) z z (TL.en (TC.cD z hh (fun h129 hh => ?_) (fun h129 hh => ?_)))))))
   ·refine TC.skip (S.n (TC.cutG (α := (Bool) × (Unit)) [9, 28, 29, 30, 31, 32, 33, 34, 35] (fun g => [(9, .bool g.1)]) (fun g => [Res.cells b101 #[.slice a0_0 x0.cls.length c0_0, .slice a0_1 x0.next.length c0_1, .slice a0_2 x0.fin.length c0_2] 26, Res.rowS 4 1 encB (.slice a116 l115.length c117) l115]) (fun g => σ) (fun g => whittleref23_Before_j1 k127 g.1 = some z2) ?_ (fun g j hg => ?_)))
    ·skip
     refine TC.block (TC.region (TL.b z (.inl z) z z z (TL.b z (.inl z) z z z (TL.split 29 z (fun h131 => ?_) (fun h131 => ?_)))))
     ·replace hh := iteO_t h131 hh
      refine TL.goff z z z z z z z z (TL.goff z z z z z z z z (TL.goff z z z z z z z z (TL.goff z z z z z z z z (TL.goff z z z z z z z z (TL.v z (OpVal.pickTB z z z) z z (TL.b z (.inr z) z z z (TL.nil (B.n (S.n ?_)))))))))
      exact cf (true, ()) hh (Sub.f [1, 1] 2)
     ·replace hh := iteO_f h131 hh
      refine TL.gv z z z z z (OpVal.loadAll z ag26 sz26 z (i := 0) z z) z z (TL.gv z z z z z (OpVal.moveStr (.inl z) z) z z (TL.gv z z z z z (OpVal.moveI (.inl z) z) z z (TL.gv z z z z z (OpVal.moveI (.inl z) z) z z ?_)))
      obtain ⟨v30, u30, hh⟩ := bnd_e hh
      refine TL.gon z z z z z (OpOk.callP (whittleref23_taken_con (x0 := x0) f0_0 f0_1 f0_2 u30) z z pf70 z z z ?_)
      exact TL.v z (OpVal.pickFB z z z) z z (TL.b z (.inr z) z z z (TL.nil (B.n (S.n (cf (v30, ()) hh (Sub.f [1, 1] 2))))))
    ·skip
     obtain ⟨t130, _⟩ := g
     have hh := hg; clear hg
     show TC _ _ _ (upds (mask _ j _) [(9, .bool t130)]) _ [Res.cells b101 #[.slice a0_0 x0.cls.length c0_0, .slice a0_1 x0.next.length c0_1, .slice a0_2 x0.fin.length c0_2] 26, Res.rowS 4 1 encB (.slice a116 l115.length c117) l115]
     dsimp only [whittleref23_Before_j1] at hh
     refine TC.isSl (i := 1) z (fun _ hb132 _ => ?_)
     refine TC.region (TL.a z (.inl z) z z z (TL.v z (OpVal.succ z z z (by omega)) z z (TL.a z (.inr z) z z z (TL.en ?_))))
     obtain ⟨hh, hlt133⟩ := nxt_x hR2 hh
     exact lf ((t130, (k127 + 1)), ()) hlt133 hh (Sub.f [1, 1] 2)
   ·refine TC.exit (S.x (S.x ?_))
    replace hh := fin_x hR2 hh
    refine TC.exitHere (S.n (TC.region (TL.sl z (.inl z) z z z (TL.b z (.inl z) z z z (TL.op z (OpOk.lit (enc := encB) [t126] z Tryz.underlying24 sz4 ze4 z z z encB_len (by decide) (by decide) false z (by decide) z (by decide) encB_one (fun a134 c135 => ?_)))))))
    refine TL.front 2 z z ?_
    have u39 := grd_c hh
    replace hh := grd_t hh
    refine TL.op z (OpOk.appendS z z Tryz.underlying24 sz4 by4 ze4 z z (by decide) z z z (.inr ⟨_, 0, z⟩) (by simpa using u39) (by decide) (fun a137 c138 => ?_))
    refine TL.sl z (.inr z) z z z (TL.nil (B.n (S.n (TC.region (TL.a z (.inl z) z z z (TL.v z (OpVal.succ z z z (by omega)) z z (TL.a z (.inr z) z z z (TL.en ?_))))))))
    obtain ⟨hh, hlt139⟩ := nxt_x hR1 hh
    exact lf (((l115 ++ [t126]), (k118 + 1)), (a137, c138)) hlt139 hh (Sub.f [2] 2)
  ·refine TC.exit (S.x (S.x ?_))
   replace hh := fin_x hR1 hh
   refine TC.exitHere (S.n (TC.a (TL.sl z (.inl z) z z z (TL.sl z (.inr z) z z z (TL.a z (.inr z) z z z (TL.en (TC.front 1 z z (TC.sealS encB_len (fun τ142 hle141 hr140 => ?_)))))))))
   replace f0_0 := f0_0.mono hle141
   replace f0_1 := f0_1.mono hle141
   replace f0_2 := f0_2.mono hle141
   have hr140b := hr140.rv.big
   refine TC.ofSub (Sub.pre 0 z) (TC.ret ?_)
   obtain rfl := so hh
   exact RetOk.mk' (rs := [.tmp 4, .tmp 5]) [] z (.inl z) (RVs.tmp z (RVs.tmp z RVs.nil)) (List.sublist_append_left _ _) ⟨a116, c117, z, hr140, z⟩

noncomputable def whittleref23_After_j1 (k127 : Nat) (t130 : Bool) : Option ((Bool × Nat) ⊕ (((List Bool) × Nat) ⊕ ((List Bool) × Int))) :=
 nxt (t130, (k127 + 1))
noncomputable def whittleref23_After_b2 (x1 : List UInt8) (x0 : Dfa) (k118 : Nat) (l115 : List Bool) (t126 : Bool) (k127 : Nat) : Option ((Bool × Nat) ⊕ (((List Bool) × Nat) ⊕ ((List Bool) × Int))) :=
 iteO (decide (((k127 : Nat) : Int) ≤ ((x1.length : Nat) : Int))) (iteO t126 (whittleref23_After_j1 k127 true) (bnd (whittleref23_taken x0 x1 ((k118 : Nat) : Int) ((k127 : Nat) : Int)) (fun v32 => whittleref23_After_j1 k127 v32))) (fin (grd ((l115.length + [t126].length) * 1 ≤ 140737488355328) (nxt ((l115 ++ [t126]), (k118 + 1)))))
noncomputable def whittleref23_After_b1 (x1 : List UInt8) (x0 : Dfa) (l115 : List Bool) (k118 : Nat) : Option (((List Bool) × Nat) ⊕ ((List Bool) × Int)) :=
 iteO (decide (((k118 : Nat) : Int) ≤ ((x1.length : Nat) : Int))) (iter (fun q : Bool × Nat => whittleref23_After_b2 x1 x0 k118 l115 q.1 q.2) (false, k118)) (fin (some (l115, 0)))
noncomputable def whittleref23_After (x0 : Dfa) (x1 : List UInt8) : Option ((List Bool) × Int) :=
 grd (x1.length ≤ 281474976710656) (bnd (whittleref23_wrong x0 x1) (fun v6 => iteO (decide (v6 ≠ 0)) (some (([] : List Bool), v6)) (iter (fun q : (List Bool) × Nat => whittleref23_After_b1 x1 x0 q.1 q.2) (([] : List Bool), 0))))
def whittleref23_After_P (σ : Store) (r : (List Bool) × Int) : Value → Store → List Res → Prop := fun v σ' H' =>
 ∃ (a1 : Option Addr), ∃ (c1 : Nat),  v = .tuple #[.slice a1 r.1.length c1, .int .i64 r.2] ∧ RS σ' 1 encB (.slice a1 r.1.length c1) r.1 ∧ H' = []
theorem whittleref23_After_con {σ : Store} {x0 : Dfa} {a0_0 : Option Addr} {c0_0 : Nat} {a0_1 : Option Addr} {c0_1 : Nat} {a0_2 : Option Addr} {c0_2 : Nat} {x1 : List UInt8} (f0_0 : RS σ 1 Go.E.encI (.slice a0_0 x0.cls.length c0_0) x0.cls) (f0_1 : RZ σ (pkSl 1 Go.E.encI Go.E.encI_len) (.slice a0_1 x0.next.length c0_1) x0.next) (f0_2 : RS σ 1 encB (.slice a0_2 x0.fin.length c0_2) x0.fin) {r : (List Bool) × Int} (hh : whittleref23_After x0 x1 = some r) :
  Con Tryz.prog 69 #[.agg #[.slice a0_0 x0.cls.length c0_0, .slice a0_1 x0.next.length c0_1, .slice a0_2 x0.fin.length c0_2], .string (bs x1)] σ [] (whittleref23_After_P σ r) := by
 dsimp only [whittleref23_After] at hh
 have f0_0b := f0_0.rv.big
 have f0_1b := f0_1.big
 have f0_2b := f0_2.rv.big
 refine Con.mk (n := 43) Tryz.func69 z z z (fun w0 => ?_)
 have x1b := grd_c hh
 replace hh := grd_t hh
 refine TC.a (TL.op z (OpOk.boxA z z z z (fun b101 => ?_)))
 refine TL.sl z (.inr z) z z z (TL.a z (.inr z) z z z (TL.en (TC.a (TL.v z (OpVal.loadAll z ag26 sz26 z (i := 0) z z) z z (TL.v z (OpVal.moveStr (.inl z) z) z z ?_)))))
 obtain ⟨v6, u6, hh⟩ := bnd_e hh
 refine TL.op z (OpOk.callP (whittleref23_wrong_con (x0 := x0) f0_0 f0_1 f0_2 u6) z z pf98 z z z ?_)
 refine TL.a z (.inr z) z z z (TL.en (TC.seq (TC.a (TL.a z (.inl z) z z z (TL.v z (OpVal.neq z z z) z z (TL.en (TC.cD z hh (fun h103 hh => ?_) (fun h103 hh => ?_))))))))
 ·refine TC.a (TL.a z (.inl z) z z z (TL.sl z (.inr z) z z z (TL.a z (.inr z) z z z (TL.en (TC.ofSub (Sub.pre 0 z) (TC.ret (S.r ?_)))))))
  obtain rfl := so hh
  exact RetOk.mk' (rs := [.tmp 4, .tmp 5]) [] z (.inl z) (RVs.tmp z (RVs.tmp z RVs.nil)) (List.sublist_append_left _ _) ⟨none, 0, z, (RS.nilF _ encB encB_len), z⟩
 ·refine TC.skip (S.n (TC.a (TL.sl z (.inr z) z z z (TL.en (TC.seq (TC.a (TL.a z (.inr z) z z z (TL.en (TC.block ?_)))))))))
  refine TC.nilS 4 1 encB (TC.loopG (α := ((List Bool) × Nat) × ((Option Addr) × Nat)) [7, 8, 9, 10, 17, 18, 19, 20, 21, 22, 23, 24, 25, 26, 27, 28, 29, 30, 31, 32, 33, 34, 35, 36, 37, 38, 39, 40, 41] (fun g => [(7, .slice g.2.1 g.1.1.length g.2.2), (8, .int .i64 ((g.1.2 : Nat) : Int))]) (fun g => [Res.cells b101 #[.slice a0_0 x0.cls.length c0_0, .slice a0_1 x0.next.length c0_1, .slice a0_2 x0.fin.length c0_2] 26, Res.rowS 4 1 encB (.slice g.2.1 g.1.1.length g.2.2) g.1.1]) (fun g => σ) (fun g => iter (fun q : (List Bool) × Nat => whittleref23_After_b1 x1 x0 q.1 q.2) g.1 = some r) (fun g => rounds (fun q : (List Bool) × Nat => whittleref23_After_b1 x1 x0 q.1 q.2) g.1) ((([] : List Bool), 0), (none, 0)) (Sub.f [1] 2) z (by repeat (first | exact trivial | refine ⟨z, ?_⟩)) hh (fun g1 j1 hg1 => ?_))
  obtain ⟨⟨l115, k118⟩, ⟨a116, c117⟩⟩ := g1
  have hh := hg1; clear hg1
  show TC _ _ _ (upds (mask _ j1 _) [(7, .slice a116 l115.length c117), (8, .int .i64 ((k118 : Nat) : Int))]) _ [Res.cells b101 #[.slice a0_0 x0.cls.length c0_0, .slice a0_1 x0.next.length c0_1, .slice a0_2 x0.fin.length c0_2] 26, Res.rowS 4 1 encB (.slice a116 l115.length c117) l115]
  obtain ⟨z1, hh, hR1⟩ := iter_e hh
  dsimp only [whittleref23_After_b1] at hh
  refine TC.isSl (i := 1) z (fun _ hb120 _ => ?_)
  refine TC.seq (TC.a (TL.a z (.inl z) z z z (TL.v z (OpVal.moveStr (.inl z) z) z z (TL.v z (OpVal.lenBs z Tryz.underlying9 z) z z (TL.v z (OpVal.leq z z z) z z (TL.en (TC.cD z hh (fun h121 hh => ?_) (fun h121 hh => ?_))))))))
  ·refine TC.skip (S.n (TC.seq (TC.block (TC.a (TL.b z (.inr z) z z z (TL.en (TC.seq (TC.a (TL.a z (.inl z) z z z ?_)))))))))
   refine TL.a z (.inr z) z z z (TL.en (TC.block (TC.loopG (α := (Bool × Nat) × (Unit)) [9, 10, 24, 25, 26, 27, 28, 29, 30, 31, 32, 33, 34, 35, 36, 37] (fun g => [(9, .bool g.1.1), (10, .int .i64 ((g.1.2 : Nat) : Int))]) (fun g => [Res.cells b101 #[.slice a0_0 x0.cls.length c0_0, .slice a0_1 x0.next.length c0_1, .slice a0_2 x0.fin.length c0_2] 26, Res.rowS 4 1 encB (.slice a116 l115.length c117) l115]) (fun g => σ) (fun g => iter (fun q : Bool × Nat => whittleref23_After_b2 x1 x0 k118 l115 q.1 q.2) g.1 = some z1) (fun g => rounds (fun q : Bool × Nat => whittleref23_After_b2 x1 x0 k118 l115 q.1 q.2) g.1) ((false, k118), ()) (Sub.f [1, 1] 2) z (by repeat (first | exact trivial | refine ⟨z, ?_⟩)) hh (fun g2 j2 hg2 => ?_))))
   obtain ⟨⟨t126, k127⟩, _⟩ := g2
   have hh := hg2; clear hg2
   show TC _ _ _ (upds (mask _ j2 _) [(9, .bool t126), (10, .int .i64 ((k127 : Nat) : Int))]) _ [Res.cells b101 #[.slice a0_0 x0.cls.length c0_0, .slice a0_1 x0.next.length c0_1, .slice a0_2 x0.fin.length c0_2] 26, Res.rowS 4 1 encB (.slice a116 l115.length c117) l115]
   obtain ⟨z2, hh, hR2⟩ := iter_e hh
   dsimp only [whittleref23_After_b2] at hh
   refine TC.isSl (i := 1) z (fun _ hb128 _ => ?_)
   refine TC.seq (TC.a (TL.a z (.inl z) z z z (TL.v z (OpVal.moveStr (.inl z) z) z z (TL.v z (OpVal.lenBs z Tryz.underlying9 z) z z (TL.v z (OpVal.leq z z z) z z (TL.en (TC.cD z hh (fun h129 hh => ?_) (fun h129 hh => ?_))))))))
   ·refine TC.skip (S.n (TC.cutG (α := (Bool) × (Unit)) [9, 30, 31, 32, 33, 34, 35, 36, 37] (fun g => [(9, .bool g.1)]) (fun g => [Res.cells b101 #[.slice a0_0 x0.cls.length c0_0, .slice a0_1 x0.next.length c0_1, .slice a0_2 x0.fin.length c0_2] 26, Res.rowS 4 1 encB (.slice a116 l115.length c117) l115]) (fun g => σ) (fun g => whittleref23_After_j1 k127 g.1 = some z2) ?_ (fun g j hg => ?_)))
    ·skip
     refine TC.block (TC.region (TL.b z (.inl z) z z z (TL.b z (.inl z) z z z (TL.split 31 z (fun h131 => ?_) (fun h131 => ?_)))))
     ·replace hh := iteO_t h131 hh
      refine TL.goff z z z z z z z z (TL.goff z z z z z z z z (TL.goff z z z z z z z z (TL.goff z z z z z z z z (TL.goff z z z z z z z z (TL.v z (OpVal.pickTB z z z) z z (TL.b z (.inr z) z z z (TL.nil (B.n (S.n ?_)))))))))
      exact cf (true, ()) hh (Sub.f [1, 1] 2)
     ·replace hh := iteO_f h131 hh
      refine TL.gv z z z z z (OpVal.loadAll z ag26 sz26 z (i := 0) z z) z z (TL.gv z z z z z (OpVal.moveStr (.inl z) z) z z (TL.gv z z z z z (OpVal.moveI (.inl z) z) z z (TL.gv z z z z z (OpVal.moveI (.inl z) z) z z ?_)))
      obtain ⟨v32, u32, hh⟩ := bnd_e hh
      refine TL.gon z z z z z (OpOk.callP (whittleref23_taken_con (x0 := x0) f0_0 f0_1 f0_2 u32) z z pf70 z z z ?_)
      exact TL.v z (OpVal.pickFB z z z) z z (TL.b z (.inr z) z z z (TL.nil (B.n (S.n (cf (v32, ()) hh (Sub.f [1, 1] 2))))))
    ·skip
     obtain ⟨t130, _⟩ := g
     have hh := hg; clear hg
     show TC _ _ _ (upds (mask _ j _) [(9, .bool t130)]) _ [Res.cells b101 #[.slice a0_0 x0.cls.length c0_0, .slice a0_1 x0.next.length c0_1, .slice a0_2 x0.fin.length c0_2] 26, Res.rowS 4 1 encB (.slice a116 l115.length c117) l115]
     dsimp only [whittleref23_After_j1] at hh
     refine TC.isSl (i := 1) z (fun _ hb132 _ => ?_)
     refine TC.region (TL.a z (.inl z) z z z (TL.v z (OpVal.succ z z z (by omega)) z z (TL.a z (.inr z) z z z (TL.en ?_))))
     obtain ⟨hh, hlt133⟩ := nxt_x hR2 hh
     exact lf ((t130, (k127 + 1)), ()) hlt133 hh (Sub.f [1, 1] 2)
   ·refine TC.exit (S.x (S.x ?_))
    replace hh := fin_x hR2 hh
    refine TC.exitHere (S.n (TC.region (TL.sl z (.inl z) z z z (TL.b z (.inl z) z z z (TL.op z (OpOk.lit (enc := encB) [t126] z Tryz.underlying24 sz4 ze4 z z z encB_len (by decide) (by decide) false z (by decide) z (by decide) encB_one (fun a134 c135 => ?_)))))))
    refine TL.front 2 z z ?_
    have u41 := grd_c hh
    replace hh := grd_t hh
    refine TL.op z (OpOk.appendS z z Tryz.underlying24 sz4 by4 ze4 z z (by decide) z z z (.inr ⟨_, 0, z⟩) (by simpa using u41) (by decide) (fun a137 c138 => ?_))
    refine TL.sl z (.inr z) z z z (TL.nil (B.n (S.n (TC.region (TL.a z (.inl z) z z z (TL.v z (OpVal.succ z z z (by omega)) z z (TL.a z (.inr z) z z z (TL.en ?_))))))))
    obtain ⟨hh, hlt139⟩ := nxt_x hR1 hh
    exact lf (((l115 ++ [t126]), (k118 + 1)), (a137, c138)) hlt139 hh (Sub.f [2] 2)
  ·refine TC.exit (S.x (S.x ?_))
   replace hh := fin_x hR1 hh
   refine TC.exitHere (S.n (TC.a (TL.sl z (.inl z) z z z (TL.sl z (.inr z) z z z (TL.a z (.inr z) z z z (TL.en (TC.front 1 z z (TC.sealS encB_len (fun τ142 hle141 hr140 => ?_)))))))))
   replace f0_0 := f0_0.mono hle141
   replace f0_1 := f0_1.mono hle141
   replace f0_2 := f0_2.mono hle141
   have hr140b := hr140.rv.big
   refine TC.ofSub (Sub.pre 0 z) (TC.ret ?_)
   obtain rfl := so hh
   exact RetOk.mk' (rs := [.tmp 4, .tmp 5]) [] z (.inl z) (RVs.tmp z (RVs.tmp z RVs.nil)) (List.sublist_append_left _ _) ⟨a116, c117, z, hr140, z⟩

noncomputable def whittleref23_Factors_j2 (k137 : Nat) (k141 : Nat) : Option ((Nat × Nat) ⊕ (((List Span) × Nat) ⊕ ((List Span) × Int))) :=
 nxt (k141, (k137 + 1))
noncomputable def whittleref23_Factors_j1 (k127 : Nat) (l124 : List Span) (k131 : Nat) : Option (((List Span) × Nat) ⊕ ((List Span) × Int)) :=
 iteO (decide (((k131 : Nat) : Int) = ((k127 : Nat) : Int))) (nxt (l124, (k127 + 1))) (grd ((l124.length + [(⟨((k127 : Nat) : Int), ((k131 : Nat) : Int)⟩ : Span)].length) * 16 ≤ 140737488355328) (nxt ((l124 ++ [(⟨((k127 : Nat) : Int), ((k131 : Nat) : Int)⟩ : Span)]), k131)))
noncomputable def whittleref23_Factors_b2 (x3 : List UInt8) (k127 : Nat) (v23 : (List Bool) × Int) (v36 : (List Bool) × Int) (x0 : Dfa) (l124 : List Span) (k136 : Nat) (k137 : Nat) : Option ((Nat × Nat) ⊕ (((List Span) × Nat) ⊕ ((List Span) × Int))) :=
 iteO (decide (((k137 : Nat) : Int) ≤ ((x3.length : Nat) : Int))) (grd (k127 < v23.1.length) (iteO (nth v23.1 k127 false) (grd (k137 < v36.1.length) (iteO (nth v36.1 k137 false) (bnd (whittleref23_taken x0 x3 ((k127 : Nat) : Int) ((k137 : Nat) : Int)) (fun v72 => iteO v72 (whittleref23_Factors_j2 k137 k137) (whittleref23_Factors_j2 k137 k136))) (whittleref23_Factors_j2 k137 k136))) (fin (whittleref23_Factors_j1 k127 l124 k136)))) (fin (whittleref23_Factors_j1 k127 l124 k136))
noncomputable def whittleref23_Factors_b1 (x3 : List UInt8) (v23 : (List Bool) × Int) (v36 : (List Bool) × Int) (x0 : Dfa) (l124 : List Span) (k127 : Nat) : Option (((List Span) × Nat) ⊕ ((List Span) × Int)) :=
 iteO (decide (((k127 : Nat) : Int) < ((x3.length : Nat) : Int))) (iter (fun q : Nat × Nat => whittleref23_Factors_b2 x3 k127 v23 v36 x0 l124 q.1 q.2) (k127, (k127 + 1))) (fin (some (l124, 0)))
noncomputable def whittleref23_Factors (x0 : Dfa) (x1 : Dfa) (x2 : Dfa) (x3 : List UInt8) : Option ((List Span) × Int) :=
 grd (x3.length ≤ 281474976710656) (bnd (whittleref11_Right x0) (fun v7 => iteO (!v7) (some (([] : List Span), 1)) (bnd (whittleref11_Right x1) (fun v11 => iteO (!v11) (some (([] : List Span), 1)) (bnd (whittleref11_Right x2) (fun v16 => iteO (!v16) (some (([] : List Span), 1)) (bnd (whittleref23_Before x1 x3) (fun v23 => iteO (decide (v23.2 ≠ 0)) (some (([] : List Span), v23.2)) (bnd (whittleref23_After x2 x3) (fun v36 => iter (fun q : (List Span) × Nat => whittleref23_Factors_b1 x3 v23 v36 x0 q.1 q.2) (([] : List Span), 0)))))))))))
def whittleref23_Factors_P (σ : Store) (r : (List Span) × Int) : Value → Store → List Res → Prop := fun v σ' H' =>
 ∃ (a1 : Option Addr), ∃ (c1 : Nat),  v = .tuple #[.slice a1 r.1.length c1, .int .i64 r.2] ∧ RS σ' 2 encSpan (.slice a1 r.1.length c1) r.1 ∧ H' = []
theorem whittleref23_Factors_con {σ : Store} {x0 : Dfa} {a0_0 : Option Addr} {c0_0 : Nat} {a0_1 : Option Addr} {c0_1 : Nat} {a0_2 : Option Addr} {c0_2 : Nat} {x1 : Dfa} {a1_0 : Option Addr} {c1_0 : Nat} {a1_1 : Option Addr} {c1_1 : Nat} {a1_2 : Option Addr} {c1_2 : Nat} {x2 : Dfa} {a2_0 : Option Addr} {c2_0 : Nat} {a2_1 : Option Addr} {c2_1 : Nat} {a2_2 : Option Addr} {c2_2 : Nat} {x3 : List UInt8} (f0_0 : RS σ 1 Go.E.encI (.slice a0_0 x0.cls.length c0_0) x0.cls) (f0_1 : RZ σ (pkSl 1 Go.E.encI Go.E.encI_len) (.slice a0_1 x0.next.length c0_1) x0.next) (f0_2 : RS σ 1 encB (.slice a0_2 x0.fin.length c0_2) x0.fin) (f1_0 : RS σ 1 Go.E.encI (.slice a1_0 x1.cls.length c1_0) x1.cls) (f1_1 : RZ σ (pkSl 1 Go.E.encI Go.E.encI_len) (.slice a1_1 x1.next.length c1_1) x1.next) (f1_2 : RS σ 1 encB (.slice a1_2 x1.fin.length c1_2) x1.fin) (f2_0 : RS σ 1 Go.E.encI (.slice a2_0 x2.cls.length c2_0) x2.cls) (f2_1 : RZ σ (pkSl 1 Go.E.encI Go.E.encI_len) (.slice a2_1 x2.next.length c2_1) x2.next) (f2_2 : RS σ 1 encB (.slice a2_2 x2.fin.length c2_2) x2.fin) {r : (List Span) × Int} (hh : whittleref23_Factors x0 x1 x2 x3 = some r) :
  Con Tryz.prog 35 #[.agg #[.slice a0_0 x0.cls.length c0_0, .slice a0_1 x0.next.length c0_1, .slice a0_2 x0.fin.length c0_2], .agg #[.slice a1_0 x1.cls.length c1_0, .slice a1_1 x1.next.length c1_1, .slice a1_2 x1.fin.length c1_2], .agg #[.slice a2_0 x2.cls.length c2_0, .slice a2_1 x2.next.length c2_1, .slice a2_2 x2.fin.length c2_2], .string (bs x3)] σ [] (whittleref23_Factors_P σ r) := by
 dsimp only [whittleref23_Factors] at hh
 have f0_0b := f0_0.rv.big
 have f0_1b := f0_1.big
 have f0_2b := f0_2.rv.big
 have f1_0b := f1_0.rv.big
 have f1_1b := f1_1.big
 have f1_2b := f1_2.rv.big
 have f2_0b := f2_0.rv.big
 have f2_1b := f2_1.big
 have f2_2b := f2_2.rv.big
 refine Con.mk (n := 90) Tryz.func35 z z z (fun w0 => ?_)
 have x3b := grd_c hh
 replace hh := grd_t hh
 refine TC.a (TL.op z (OpOk.boxA z z z z (fun b101 => ?_)))
 refine TL.op z (OpOk.boxA z z z z (fun b103 => ?_))
 refine TL.op z (OpOk.boxA z z z z (fun b105 => ?_))
 refine TL.sl z (.inr z) z z z (TL.a z (.inr z) z z z (TL.en (TC.seq (TC.a (TL.v z (OpVal.loadAll z ag26 sz26 z (i := 2) z z) z z ?_)))))
 obtain ⟨v7, u7, hh⟩ := bnd_e hh
 refine TL.op z (OpOk.callP (whittleref11_Right_con (x0 := x0) f0_0 f0_1 f0_2 u7) z z pf66 z z z ?_)
 refine TL.v z (OpVal.not z z) z z (TL.b z (.inl z) z z z (TL.split 21 z (fun h107 => ?_) (fun h107 => ?_)))
 ·replace hh := iteO_t h107 hh
  refine TL.goff z z z z z z z z (TL.goff z z z z z z z z (TL.goff z z z z z z z z (TL.v z (OpVal.pickTB z z z) z z (TL.b z (.inl z) z z z (TL.goff z z z z z z z z (TL.goff z z z z z z z z (TL.goff z z z z z z z z (TL.v z (OpVal.pickTB z z z) z z (TL.en ?_)))))))))
  refine TC.cond z (fun _ => ?_) (fun h => Bool.noConfusion h)
  refine TC.a (TL.sl z (.inr z) z z z (TL.a z (.inr z) z z z (TL.en (TC.ofSub (Sub.pre 0 z) (TC.ret (S.r ?_))))))
  obtain rfl := so hh
  exact RetOk.mk' (rs := [.tmp 8, .tmp 9]) [] z (.inl z) (RVs.tmp z (RVs.tmp z RVs.nil)) (List.sublist_append_left _ _) ⟨none, 0, z, (RS.nilF _ encSpan encSpan_len), z⟩
 ·replace hh := iteO_f h107 hh
  refine TL.gv z z z z z (OpVal.loadAll z ag26 sz26 z (i := 1) z z) z z ?_
  obtain ⟨v11, u11, hh⟩ := bnd_e hh
  refine TL.gon z z z z z (OpOk.callP (whittleref11_Right_con (x0 := x1) f1_0 f1_1 f1_2 u11) z z pf66 z z z ?_)
  refine TL.gv z z z z z (OpVal.not z z) z z (TL.v z (OpVal.pickFB z z z) z z (TL.b z (.inl z) z z z (TL.split 26 z (fun h108 => ?_) (fun h108 => ?_))))
  ·replace hh := iteO_t h108 hh
   refine TL.goff z z z z z z z z (TL.goff z z z z z z z z (TL.goff z z z z z z z z (TL.v z (OpVal.pickTB z z z) z z (TL.en (TC.cond z (fun _ => ?_) (fun h => Bool.noConfusion h))))))
   refine TC.a (TL.sl z (.inr z) z z z (TL.a z (.inr z) z z z (TL.en (TC.ofSub (Sub.pre 0 z) (TC.ret (S.r ?_))))))
   obtain rfl := so hh
   exact RetOk.mk' (rs := [.tmp 8, .tmp 9]) [] z (.inl z) (RVs.tmp z (RVs.tmp z RVs.nil)) (List.sublist_append_left _ _) ⟨none, 0, z, (RS.nilF _ encSpan encSpan_len), z⟩
  ·replace hh := iteO_f h108 hh
   refine TL.gv z z z z z (OpVal.loadAll z ag26 sz26 z (i := 0) z z) z z ?_
   obtain ⟨v16, u16, hh⟩ := bnd_e hh
   refine TL.gon z z z z z (OpOk.callP (whittleref11_Right_con (x0 := x2) f2_0 f2_1 f2_2 u16) z z pf66 z z z ?_)
   refine TL.gv z z z z z (OpVal.not z z) z z (TL.v z (OpVal.pickFB z z z) z z (TL.en (TC.cB z hh (fun h109 hh => ?_) (fun h109 hh => ?_))))
   ·refine TC.a (TL.sl z (.inr z) z z z (TL.a z (.inr z) z z z (TL.en (TC.ofSub (Sub.pre 0 z) (TC.ret (S.r ?_))))))
    obtain rfl := so hh
    exact RetOk.mk' (rs := [.tmp 8, .tmp 9]) [] z (.inl z) (RVs.tmp z (RVs.tmp z RVs.nil)) (List.sublist_append_left _ _) ⟨none, 0, z, (RS.nilF _ encSpan encSpan_len), z⟩
   ·refine TC.skip (S.n (TC.a (TL.v z (OpVal.loadAll z ag26 sz26 z (i := 1) z z) z z (TL.v z (OpVal.moveStr (.inl z) z) z z ?_))))
    obtain ⟨v23, u23, hh⟩ := bnd_e hh
    refine TL.op z (OpOk.call (whittleref23_Before_con (x0 := x1) f1_0 f1_1 f1_2 u23) z z pf68 z z z z ?_)
    rintro _ τ110 _ hle110 ⟨a110_1, c110_1, rfl, hr110_0, rfl⟩
    replace f0_0 := f0_0.mono hle110
    replace f0_1 := f0_1.mono hle110
    replace f0_2 := f0_2.mono hle110
    replace f1_0 := f1_0.mono hle110
    replace f1_1 := f1_1.mono hle110
    replace f1_2 := f1_2.mono hle110
    replace f2_0 := f2_0.mono hle110
    replace f2_1 := f2_1.mono hle110
    replace f2_2 := f2_2.mono hle110
    have hr110_0b := hr110_0.rv.big
    refine TL.v z (OpVal.moveT (.inl z) z) z z (TL.v z (OpVal.extract z z z) z z (TL.v z (OpVal.extract z z z) z z (TL.sl z (.inr z) z z z (TL.a z (.inr z) z z z (TL.en (TC.seq (TC.a (TL.a z (.inl z) z z z (TL.v z (OpVal.neq z z z) z z ?_)))))))))
    refine TL.en (TC.cD z hh (fun h111 hh => ?_) (fun h111 hh => ?_))
    ·refine TC.a (TL.a z (.inl z) z z z (TL.sl z (.inr z) z z z (TL.a z (.inr z) z z z (TL.en (TC.ofSub (Sub.pre 0 z) (TC.ret (S.r ?_)))))))
     obtain rfl := so hh
     exact RetOk.mk' (rs := [.tmp 8, .tmp 9]) [] z (.inl z) (RVs.tmp z (RVs.tmp z RVs.nil)) (List.sublist_append_left _ _) ⟨none, 0, z, (RS.nilF _ encSpan encSpan_len), z⟩
    ·refine TC.skip (S.n (TC.a (TL.v z (OpVal.loadAll z ag26 sz26 z (i := 0) z z) z z (TL.v z (OpVal.moveStr (.inl z) z) z z ?_))))
     obtain ⟨v36, u36, hh⟩ := bnd_e hh
     refine TL.op z (OpOk.call (whittleref23_After_con (x0 := x2) f2_0 f2_1 f2_2 u36) z z pf69 z z z z ?_)
     rintro _ τ112 _ hle112 ⟨a112_1, c112_1, rfl, hr112_0, rfl⟩
     replace f0_0 := f0_0.mono hle112
     replace f0_1 := f0_1.mono hle112
     replace f0_2 := f0_2.mono hle112
     replace f1_0 := f1_0.mono hle112
     replace f1_1 := f1_1.mono hle112
     replace f1_2 := f1_2.mono hle112
     replace f2_0 := f2_0.mono hle112
     replace f2_1 := f2_1.mono hle112
     replace f2_2 := f2_2.mono hle112
     replace hr110_0 := hr110_0.mono hle112
     have hr112_0b := hr112_0.rv.big
     refine TL.v z (OpVal.moveT (.inl z) z) z z (TL.v z (OpVal.extract z z z) z z (TL.v z (OpVal.extract z z z) z z (TL.sl z (.inr z) z z z (TL.a z (.inr z) z z z (TL.en (TC.a (TL.sl z (.inr z) z z z (TL.en (TC.a ?_)))))))))
     refine TL.a z (.inr z) z z z (TL.en (TC.seq (TC.block (TC.nilS 56 2 encSpan (TC.loopG (α := ((List Span) × Nat) × ((Option Addr) × Nat)) [14, 15, 16, 17, 46, 47, 48, 49, 50, 51, 52, 53, 54, 55, 56, 57, 58, 59, 60, 61, 62, 63, 64, 65, 66, 67, 68, 69, 70, 71, 72, 73, 74, 75, 76, 77, 78, 79, 80, 81, 82, 83, 84, 85, 86, 87, 88] (fun g => [(14, .slice g.2.1 g.1.1.length g.2.2), (15, .int .i64 ((g.1.2 : Nat) : Int))]) (fun g => [Res.cells b101 #[.slice a0_0 x0.cls.length c0_0, .slice a0_1 x0.next.length c0_1, .slice a0_2 x0.fin.length c0_2] 26, Res.rowS 56 2 encSpan (.slice g.2.1 g.1.1.length g.2.2) g.1.1]) (fun g => τ112) (fun g => iter (fun q : (List Span) × Nat => whittleref23_Factors_b1 x3 v23 v36 x0 q.1 q.2) g.1 = some r) (fun g => rounds (fun q : (List Span) × Nat => whittleref23_Factors_b1 x3 v23 v36 x0 q.1 q.2) g.1) ((([] : List Span), 0), (none, 0)) (Sub.f [3] 2) z (by repeat (first | exact trivial | refine ⟨z, ?_⟩)) hh (fun g1 j1 hg1 => ?_))))))
     obtain ⟨⟨l124, k127⟩, ⟨a125, c126⟩⟩ := g1
     have hh := hg1; clear hg1
     show TC _ _ _ (upds (mask _ j1 _) [(14, .slice a125 l124.length c126), (15, .int .i64 ((k127 : Nat) : Int))]) _ [Res.cells b101 #[.slice a0_0 x0.cls.length c0_0, .slice a0_1 x0.next.length c0_1, .slice a0_2 x0.fin.length c0_2] 26, Res.rowS 56 2 encSpan (.slice a125 l124.length c126) l124]
     obtain ⟨z1, hh, hR1⟩ := iter_e hh
     dsimp only [whittleref23_Factors_b1] at hh
     refine TC.isSl (i := 1) z (fun _ hb129 _ => ?_)
     refine TC.seq (TC.a (TL.a z (.inl z) z z z (TL.v z (OpVal.moveStr (.inl z) z) z z (TL.v z (OpVal.lenBs z Tryz.underlying9 z) z z (TL.v z (OpVal.lss z z z) z z (TL.en (TC.cD z hh (fun h130 hh => ?_) (fun h130 hh => ?_))))))))
     ·refine TC.skip (S.n (TC.block (TC.a (TL.a z (.inl z) z z z (TL.a z (.inr z) z z z (TL.en (TC.cutG (α := (Nat) × (Unit)) [16, 17, 51, 52, 53, 54, 55, 56, 57, 58, 59, 60, 61, 62, 63, 64, 65, 66, 67, 68, 69, 70, 71, 72, 73, 74, 75, 76] (fun g => [(16, .int .i64 ((g.1 : Nat) : Int))]) (fun g => [Res.cells b101 #[.slice a0_0 x0.cls.length c0_0, .slice a0_1 x0.next.length c0_1, .slice a0_2 x0.fin.length c0_2] 26, Res.rowS 56 2 encSpan (.slice a125 l124.length c126) l124]) (fun g => τ112) (fun g => whittleref23_Factors_j1 k127 l124 g.1 = some z1) ?_ (fun g j hg => ?_))))))))
      ·skip
       refine TC.a (TL.a z (.inl z) z z z (TL.v z (OpVal.succ z z z (by omega)) z z (TL.a z (.inr z) z z z (TL.en (TC.block (TC.loopG (α := (Nat × Nat) × (Unit)) [16, 17, 53, 54, 55, 56, 57, 58, 59, 60, 61, 62, 63, 64, 65, 66, 67, 68, 69, 70, 71, 72, 73, 74, 75, 76] (fun g => [(16, .int .i64 ((g.1.1 : Nat) : Int)), (17, .int .i64 ((g.1.2 : Nat) : Int))]) (fun g => [Res.cells b101 #[.slice a0_0 x0.cls.length c0_0, .slice a0_1 x0.next.length c0_1, .slice a0_2 x0.fin.length c0_2] 26, Res.rowS 56 2 encSpan (.slice a125 l124.length c126) l124]) (fun g => τ112) (fun g => iter (fun q : Nat × Nat => whittleref23_Factors_b2 x3 k127 v23 v36 x0 l124 q.1 q.2) g.1 = some z1) (fun g => rounds (fun q : Nat × Nat => whittleref23_Factors_b2 x3 k127 v23 v36 x0 l124 q.1 q.2) g.1) ((k127, (k127 + 1)), ()) (Sub.f [1, 1] 2) z (by repeat (first | exact trivial | refine ⟨z, ?_⟩)) hh (fun g2 j2 hg2 => ?_)))))))
       obtain ⟨⟨k136, k137⟩, _⟩ := g2
       have hh := hg2; clear hg2
       show TC _ _ _ (upds (mask _ j2 _) [(16, .int .i64 ((k136 : Nat) : Int)), (17, .int .i64 ((k137 : Nat) : Int))]) _ [Res.cells b101 #[.slice a0_0 x0.cls.length c0_0, .slice a0_1 x0.next.length c0_1, .slice a0_2 x0.fin.length c0_2] 26, Res.rowS 56 2 encSpan (.slice a125 l124.length c126) l124]
       obtain ⟨z2, hh, hR2⟩ := iter_e hh
       dsimp only [whittleref23_Factors_b2] at hh
       refine TC.isSl (i := 1) z (fun _ hb138 _ => ?_)
       refine TC.seq (TC.a (TL.a z (.inl z) z z z (TL.v z (OpVal.moveStr (.inl z) z) z z (TL.v z (OpVal.lenBs z Tryz.underlying9 z) z z (TL.v z (OpVal.leq z z z) z z (TL.b z (.inl z) z z z (TL.split 57 z (fun h139 => ?_) (fun h139 => ?_))))))))
       ·replace hh := iteO_t h139 hh
        replace h139 := of_decide_eq_true h139
        refine TL.gv z z z z z (OpVal.moveSl (.inl z) z) z z (TL.gv z z z z z (OpVal.moveI (.inl z) z) z z ?_)
        have u60 := grd_c hh
        replace hh := grd_t hh
        refine TL.gv z z z z z (OpVal.indexN z Tryz.underlying24 sz4 z z hr110_0.rv.sl (by omega)) z z (TL.gv z z z z z (OpVal.loadS1 false z ag4 z hr110_0 (by omega) z) z z (TL.v z (OpVal.pickTB z z z) z z (TL.en (TC.cB z hh (fun h140 hh => ?_) (fun h140 hh => ?_)))))
        ·refine TC.skip (S.n (TC.cutG (α := (Nat) × (Unit)) [16, 65, 66, 67, 68, 69, 70, 71, 72, 73, 74, 75, 76] (fun g => [(16, .int .i64 ((g.1 : Nat) : Int))]) (fun g => [Res.cells b101 #[.slice a0_0 x0.cls.length c0_0, .slice a0_1 x0.next.length c0_1, .slice a0_2 x0.fin.length c0_2] 26, Res.rowS 56 2 encSpan (.slice a125 l124.length c126) l124]) (fun g => τ112) (fun g => whittleref23_Factors_j2 k137 g.1 = some z2) ?_ (fun g j hg => ?_)))
         ·skip
          refine TC.block (TC.a (TL.sl z (.inl z) z z z (TL.a z (.inl z) z z z ?_)))
          have u65 := grd_c hh
          replace hh := grd_t hh
          refine TL.v z (OpVal.indexN z Tryz.underlying24 sz4 z z hr112_0.rv.sl (by omega)) z z (TL.v z (OpVal.loadS1 false z ag4 z hr112_0 (by omega) z) z z (TL.b z (.inl z) z z z (TL.split 69 z (fun h142 => ?_) (fun h142 => ?_))))
          ·replace hh := iteO_t h142 hh
           refine TL.gv z z z z z (OpVal.loadAll z ag26 sz26 z (i := 0) z z) z z (TL.gv z z z z z (OpVal.moveStr (.inl z) z) z z (TL.gv z z z z z (OpVal.moveI (.inl z) z) z z (TL.gv z z z z z (OpVal.moveI (.inl z) z) z z ?_)))
           obtain ⟨v72, u72, hh⟩ := bnd_e hh
           refine TL.gon z z z z z (OpOk.callP (whittleref23_taken_con (x0 := x0) f0_0 f0_1 f0_2 u72) z z pf70 z z z ?_)
           refine TL.v z (OpVal.pickTB z z z) z z (TL.en (TC.cB z hh (fun h143 hh => ?_) (fun h143 hh => ?_)))
           ·exact TC.region (TL.a z (.inl z) z z z (TL.a z (.inr z) z z z (TL.nil (B.n (S.n (cf (k137, ()) hh (Sub.f [1, 1] 2)))))))
           ·exact TC.skip (B.n (S.n (cf (k136, ()) hh (Sub.f [1, 1] 2))))
          ·replace hh := iteO_f h142 hh
           refine TL.goff z z z z z z z z (TL.goff z z z z z z z z (TL.goff z z z z z z z z (TL.goff z z z z z z z z (TL.goff z z z z z z z z (TL.v z (OpVal.pickFB z z z) z z (TL.en (TC.cond z (fun h => Bool.noConfusion h) (fun _ => ?_))))))))
           exact TC.skip (B.n (S.n (cf (k136, ()) hh (Sub.f [1, 1] 2))))
         ·skip
          obtain ⟨k141, _⟩ := g
          have hh := hg; clear hg
          show TC _ _ _ (upds (mask _ j _) [(16, .int .i64 ((k141 : Nat) : Int))]) _ [Res.cells b101 #[.slice a0_0 x0.cls.length c0_0, .slice a0_1 x0.next.length c0_1, .slice a0_2 x0.fin.length c0_2] 26, Res.rowS 56 2 encSpan (.slice a125 l124.length c126) l124]
          dsimp only [whittleref23_Factors_j2] at hh
          refine TC.isSl (i := 1) z (fun _ hb144 _ => ?_)
          refine TC.region (TL.a z (.inl z) z z z (TL.v z (OpVal.succ z z z (by omega)) z z (TL.a z (.inr z) z z z (TL.en ?_))))
          obtain ⟨hh, hlt145⟩ := nxt_x hR2 hh
          exact lf ((k141, (k137 + 1)), ()) hlt145 hh (Sub.f [1, 1] 2)
        ·refine TC.exit (S.x (S.x ?_))
         replace hh := fin_x hR2 hh
         exact TC.exitHere (S.n (cf (k136, ()) hh (Sub.f [1, 1] 2)))
       ·replace hh := iteO_f h139 hh
        replace h139 := of_decide_eq_false h139
        refine TL.goff z z z z z z z z (TL.goff z z z z z z z z (TL.goff z z z z z z z z (TL.goff z z z z z z z z (TL.v z (OpVal.pickFB z z z) z z (TL.en (TC.cond z (fun h => Bool.noConfusion h) (fun _ => ?_)))))))
        refine TC.exit (S.x (S.x ?_))
        replace hh := fin_x hR2 hh
        exact TC.exitHere (S.n (cf (k136, ()) hh (Sub.f [1, 1] 2)))
      ·skip
       obtain ⟨k131, _⟩ := g
       have hh := hg; clear hg
       show TC _ _ _ (upds (mask _ j _) [(16, .int .i64 ((k131 : Nat) : Int))]) _ [Res.cells b101 #[.slice a0_0 x0.cls.length c0_0, .slice a0_1 x0.next.length c0_1, .slice a0_2 x0.fin.length c0_2] 26, Res.rowS 56 2 encSpan (.slice a125 l124.length c126) l124]
       dsimp only [whittleref23_Factors_j1] at hh
       refine TC.isSl (i := 1) z (fun _ hb146 _ => ?_)
       refine TC.seq (TC.a (TL.a z (.inl z) z z z (TL.a z (.inl z) z z z (TL.v z (OpVal.eql z z z) z z (TL.en (TC.cD z hh (fun h147 hh => ?_) (fun h147 hh => ?_)))))))
       ·refine TC.a (TL.a z (.inl z) z z z (TL.v z (OpVal.succ z z z (by omega)) z z (TL.a z (.inr z) z z z (TL.en (TC.exit (S.x (TC.exitHere (S.n ?_))))))))
        obtain ⟨hh, hlt148⟩ := nxt_x hR1 hh
        exact lf ((l124, (k127 + 1)), (a125, c126)) hlt148 hh (Sub.f [1, 1] 2)
       ·refine TC.skip (S.n (TC.a (TL.sl z (.inl z) z z z (TL.a z (.inl z) z z z (TL.a z (.inl z) z z z (TL.v z (OpVal.buildL z pl56 ze56 z) z z (TL.op z (OpOk.lit (enc := encSpan) [(⟨((k127 : Nat) : Int), ((k131 : Nat) : Int)⟩ : Span)] z Tryz.underlying34 sz56 ze56 z z z encSpan_len (by decide) (by decide) Span.zero z (by decide) z (by decide) encSpan_one (fun a149 c150 => ?_)))))))))
        refine TL.front 2 z z ?_
        have u90 := grd_c hh
        replace hh := grd_t hh
        refine TL.op z (OpOk.appendS z z Tryz.underlying34 sz56 by56 ze56 z z (by decide) z z z (.inr ⟨_, 0, z⟩) (by simpa using u90) (by decide) (fun a152 c153 => ?_))
        refine TL.sl z (.inr z) z z z (TL.en (TC.region (TL.a z (.inl z) z z z (TL.a z (.inr z) z z z (TL.nil (B.n (S.n ?_)))))))
        obtain ⟨hh, hlt154⟩ := nxt_x hR1 hh
        exact lf (((l124 ++ [(⟨((k127 : Nat) : Int), ((k131 : Nat) : Int)⟩ : Span)]), k131), (a152, c153)) hlt154 hh (Sub.f [2] 2)
     ·refine TC.exit (S.x (S.x ?_))
      replace hh := fin_x hR1 hh
      refine TC.exitHere (S.n (TC.a (TL.sl z (.inl z) z z z (TL.sl z (.inr z) z z z (TL.a z (.inr z) z z z (TL.en (TC.front 1 z z (TC.sealS encSpan_len (fun τ157 hle156 hr155 => ?_)))))))))
      replace f0_0 := f0_0.mono hle156
      replace f0_1 := f0_1.mono hle156
      replace f0_2 := f0_2.mono hle156
      replace f1_0 := f1_0.mono hle156
      replace f1_1 := f1_1.mono hle156
      replace f1_2 := f1_2.mono hle156
      replace f2_0 := f2_0.mono hle156
      replace f2_1 := f2_1.mono hle156
      replace f2_2 := f2_2.mono hle156
      replace hr110_0 := hr110_0.mono hle156
      replace hr112_0 := hr112_0.mono hle156
      have hr155b := hr155.rv.big
      refine TC.ofSub (Sub.pre 0 z) (TC.ret ?_)
      obtain rfl := so hh
      exact RetOk.mk' (rs := [.tmp 8, .tmp 9]) [] z (.inl z) (RVs.tmp z (RVs.tmp z RVs.nil)) (List.sublist_append_left _ _) ⟨a125, c126, z, hr155, z⟩

end Go.Proofs.YtmfclggfajopkaaGreatDoor
end

/- R10 -/
section
/- Decompiled: the reference's rules. -/
set_option linter.unusedVariables false
set_option linter.unusedSimpArgs false
namespace Go.Proofs.YtmfclggfajopkaaGreatDoor
open Go Go.E
set_option maxRecDepth 100000
private theorem ag27 : Go.E.aggOf Tryz.prog 27 = some false := by kernel_rfl
private theorem ag28 : Go.E.aggOf Tryz.prog 28 = some false := by kernel_rfl
private theorem ag30 : Go.E.aggOf Tryz.prog 30 = some true := by kernel_rfl
private theorem ag32 : Go.E.aggOf Tryz.prog 32 = some true := by kernel_rfl
private theorem ag56 : Go.E.aggOf Tryz.prog 56 = some true := by kernel_rfl
private theorem fo30_0 : Go.E.foOf Tryz.prog 30 0 = some 0 := by kernel_rfl
private theorem fo30_1 : Go.E.foOf Tryz.prog 30 1 = some 1 := by kernel_rfl
private theorem fo30_2 : Go.E.foOf Tryz.prog 30 2 = some 2 := by kernel_rfl
private theorem fo30_3 : Go.E.foOf Tryz.prog 30 3 = some 3 := by kernel_rfl
private theorem fo30_4 : Go.E.foOf Tryz.prog 30 4 = some 4 := by kernel_rfl
private theorem fo32_0 : Go.E.foOf Tryz.prog 32 0 = some 0 := by kernel_rfl
private theorem fo32_1 : Go.E.foOf Tryz.prog 32 1 = some 3 := by kernel_rfl
private theorem fo32_2 : Go.E.foOf Tryz.prog 32 2 = some 6 := by kernel_rfl
private theorem fo32_3 : Go.E.foOf Tryz.prog 32 3 = some 9 := by kernel_rfl
private theorem fo32_4 : Go.E.foOf Tryz.prog 32 4 = some 10 := by kernel_rfl
private theorem fo32_5 : Go.E.foOf Tryz.prog 32 5 = some 11 := by kernel_rfl
private theorem fo56_0 : Go.E.foOf Tryz.prog 56 0 = some 0 := by kernel_rfl
private theorem fo56_1 : Go.E.foOf Tryz.prog 56 1 = some 1 := by kernel_rfl
private theorem pf34 : Go.E.plainF Tryz.prog 34 = true := by kernel_rfl
private theorem pf35 : Go.E.plainF Tryz.prog 35 = true := by kernel_rfl
private theorem pf36 : Go.E.plainF Tryz.prog 36 = true := by kernel_rfl
private theorem pf37 : Go.E.plainF Tryz.prog 37 = true := by kernel_rfl
private theorem pf67 : Go.E.plainF Tryz.prog 67 = true := by kernel_rfl
private theorem pf71 : Go.E.plainF Tryz.prog 71 = true := by kernel_rfl
private theorem sz28 : Go.E.szOf Tryz.prog 28 = some 1 := by kernel_rfl
private theorem sz30 : Go.E.szOf Tryz.prog 30 = some 5 := by kernel_rfl
private theorem sz32 : Go.E.szOf Tryz.prog 32 = some 16 := by kernel_rfl
private theorem sz34 : Go.E.szOf Tryz.prog 34 = some 1 := by kernel_rfl
private theorem sz9 : Go.E.szOf Tryz.prog 9 = some 1 := by kernel_rfl
private theorem ze30 : Go.E.zeroOf Tryz.prog 30 = some (.agg #[.string ByteArray.empty, .slice none 0 0, .slice none 0 0, .slice none 0 0, .slice none 0 0]) := by kernel_rfl

noncomputable def whittleref21_Right_j3 (k123 : Nat) : Option ((Nat) ⊕ ((Nat) ⊕ (Bool))) :=
 nxt (k123 + 1)
noncomputable def whittleref21_Right_b2 (x0 : Seq) (k112 : Nat) (k123 : Nat) : Option ((Nat) ⊕ ((Nat) ⊕ (Bool))) :=
 iteO (decide (((k123 : Nat) : Int) < 256)) (grd (k123 < (nth x0.next k112 ([] : List Int)).length) (grd (k112 < x0.outs.length) (grd (k123 < (nth x0.outs k112 ([] : List (List UInt8))).length) (iteO (decide ((nth (nth x0.next k112 ([] : List Int)) k123 (0 : Int)) < (-1))) (fin (fin (some false))) (iteO (decide (((x0.next.length : Nat) : Int) ≤ (nth (nth x0.next k112 ([] : List Int)) k123 (0 : Int)))) (fin (fin (some false))) (iteO (decide ((nth (nth x0.next k112 ([] : List Int)) k123 (0 : Int)) = (-1))) (iteO (decide ((nth (nth x0.outs k112 ([] : List (List UInt8))) k123 ([] : List UInt8)) ≠ ([] : List UInt8))) (fin (fin (some false))) (iteO (decide (4096 < (((nth (nth x0.outs k112 ([] : List (List UInt8))) k123 ([] : List UInt8)).length : Nat) : Int))) (fin (fin (some false))) (whittleref21_Right_j3 k123))) (iteO (decide (4096 < (((nth (nth x0.outs k112 ([] : List (List UInt8))) k123 ([] : List UInt8)).length : Nat) : Int))) (fin (fin (some false))) (whittleref21_Right_j3 k123)))))))) (fin (nxt (k112 + 1)))
noncomputable def whittleref21_Right_j2 (x0 : Seq) (k112 : Nat) : Option ((Nat) ⊕ (Bool)) :=
 iter (fun q : Nat => whittleref21_Right_b2 x0 k112 q) 0
noncomputable def whittleref21_Right_b1 (x0 : Seq) (k112 : Nat) : Option ((Nat) ⊕ (Bool)) :=
 iteO (decide (((k112 : Nat) : Int) < ((x0.next.length : Nat) : Int))) (iteO (decide ((((nth x0.next k112 ([] : List Int)).length : Nat) : Int) ≠ 256)) (fin (some false)) (grd (k112 < x0.outs.length) (iteO (decide ((((nth x0.outs k112 ([] : List (List UInt8))).length : Nat) : Int) ≠ 256)) (fin (some false)) (grd (k112 < x0.tail.length) (iteO (decide (4096 < (((nth x0.tail k112 ([] : List UInt8)).length : Nat) : Int))) (fin (some false)) (grd (k112 < x0.fin.length) (iteO (!(nth x0.fin k112 false)) (grd (k112 < x0.tail.length) (iteO (decide ((nth x0.tail k112 ([] : List UInt8)) ≠ ([] : List UInt8))) (fin (some false)) (whittleref21_Right_j2 x0 k112))) (whittleref21_Right_j2 x0 k112)))))))) (fin (some true))
noncomputable def whittleref21_Right_j1 (x0 : Seq) : Option (Bool) :=
 iter (fun q : Nat => whittleref21_Right_b1 x0 q) 0
noncomputable def whittleref21_Right (x0 : Seq) : Option (Bool) :=
 iteO (decide (1024 < ((x0.next.length : Nat) : Int))) (some false) (iteO (decide (((x0.outs.length : Nat) : Int) ≠ ((x0.next.length : Nat) : Int))) (some false) (iteO (decide (((x0.fin.length : Nat) : Int) ≠ ((x0.next.length : Nat) : Int))) (some false) (iteO (decide (((x0.tail.length : Nat) : Int) ≠ ((x0.next.length : Nat) : Int))) (some false) (iteO (decide (4096 < ((x0.front.length : Nat) : Int))) (some false) (iteO (decide (((x0.next.length : Nat) : Int) = 0)) (iteO (decide (x0.front ≠ ([] : List UInt8))) (some false) (whittleref21_Right_j1 x0)) (whittleref21_Right_j1 x0))))))
theorem whittleref21_Right_con {σ : Store} {x0 : Seq} {a0_0 : Option Addr} {c0_0 : Nat} {a0_1 : Option Addr} {c0_1 : Nat} {a0_2 : Option Addr} {c0_2 : Nat} {a0_3 : Option Addr} {c0_3 : Nat} (f0_0 : RZ σ (pkSl 1 Go.E.encI Go.E.encI_len) (.slice a0_0 x0.next.length c0_0) x0.next) (f0_1 : RZ σ (pkSl 1 Go.E.encS Go.E.encS_len) (.slice a0_1 x0.outs.length c0_1) x0.outs) (f0_2 : RS σ 1 encB (.slice a0_2 x0.fin.length c0_2) x0.fin) (f0_3 : RS σ 1 Go.E.encS (.slice a0_3 x0.tail.length c0_3) x0.tail) {r : Bool} (hh : whittleref21_Right x0 = some r) :
  Con Tryz.prog 67 #[.agg #[.string (bs x0.front), .slice a0_0 x0.next.length c0_0, .slice a0_1 x0.outs.length c0_1, .slice a0_2 x0.fin.length c0_2, .slice a0_3 x0.tail.length c0_3]] σ [] (PureP (.bool r) σ) := by
 dsimp only [whittleref21_Right] at hh
 have f0_0b := f0_0.big
 have f0_1b := f0_1.big
 have f0_2b := f0_2.rv.big
 have f0_3b := f0_3.rv.big
 refine Con.mk (n := 135) Tryz.func67 z z z (fun w0 => ?_)
 refine TC.a (TL.op z (OpOk.boxA z z z z (fun b101 => ?_)))
 refine TL.b z (.inr z) z z z (TL.en (TC.a (TL.v z (OpVal.fieldLoc z fo30_1 z) z z (TL.v z (OpVal.loadLoc z ag23 z (i := 0) z z) z z (TL.v z (OpVal.lenC z Tryz.underlying23 z) z z (TL.a z (.inr z) z z z (TL.en (TC.cutG (α := (Unit) × (Unit)) [2, 11, 12, 13, 14, 15, 16, 17, 18, 19, 20, 21, 22, 23, 24, 25, 26, 27, 28, 29, 30, 31, 32, 33, 34, 35, 36, 37, 38, 39, 40, 41, 42, 43, 44, 45, 46, 47, 48] (fun g => []) (fun g => [Res.cells b101 #[.string (bs x0.front), .slice a0_0 x0.next.length c0_0, .slice a0_1 x0.outs.length c0_1, .slice a0_2 x0.fin.length c0_2, .slice a0_3 x0.tail.length c0_3] 30]) (fun g => σ) (fun g => whittleref21_Right_j1 x0 = some r) ?_ (fun g j hg => ?_)))))))))
 ·skip
  refine TC.a (TL.a z (.inl z) z z z (TL.v z (OpVal.gtr z z z) z z (TL.b z (.inl z) z z z (TL.split 13 z (fun h103 => ?_) (fun h103 => ?_)))))
  ·replace hh := iteO_t h103 hh
   replace h103 := of_decide_eq_true h103
   refine TL.goff z z z z z z z z (TL.goff z z z z z z z z (TL.goff z z z z z z z z (TL.goff z z z z z z z z (TL.goff z z z z z z z z (TL.v z (OpVal.pickTB z z z) z z (TL.b z (.inl z) z z z (TL.goff z z z z z z z z (TL.goff z z z z z z z z (TL.goff z z z z z z z z ?_)))))))))
   refine TL.goff z z z z z z z z (TL.goff z z z z z z z z (TL.v z (OpVal.pickTB z z z) z z (TL.b z (.inl z) z z z (TL.goff z z z z z z z z (TL.goff z z z z z z z z (TL.goff z z z z z z z z (TL.goff z z z z z z z z (TL.goff z z z z z z z z (TL.v z (OpVal.pickTB z z z) z z ?_)))))))))
   refine TL.b z (.inl z) z z z (TL.goff z z z z z z z z (TL.goff z z z z z z z z (TL.goff z z z z z z z z (TL.goff z z z z z z z z (TL.v z (OpVal.pickTB z z z) z z (TL.b z (.inl z) z z z (TL.goff z z z z z z z z (TL.goff z z z z z z z z (TL.goff z z z z z z z z ?_)))))))))
   refine TL.goff' z z z z z z z (TL.goff' z z z z z z z (TL.goff' z z z z z z z (TL.goff z z z z z z z z (TL.v z (OpVal.pickTB z z z) z z (TL.en (TC.cond z (fun _ => ?_) (fun h => Bool.noConfusion h)))))))
   refine TC.a (TL.b z (.inr z) z z z (TL.en (TC.ofSub (Sub.pre 0 z) (TC.ret (S.r ?_)))))
   obtain rfl := so hh
   exact r1 2
  ·replace hh := iteO_f h103 hh
   replace h103 := of_decide_eq_false h103
   refine TL.gv z z z z z (OpVal.fieldLoc z fo30_2 z) z z (TL.gv z z z z z (OpVal.loadLoc z ag27 z (i := 0) z z) z z (TL.gv z z z z z (OpVal.lenC z Tryz.underlying27 z) z z (TL.gv z z z z z (OpVal.moveI (.inl z) z) z z (TL.gv z z z z z (OpVal.neq z z z) z z (TL.v z (OpVal.pickFB z z z) z z (TL.b z (.inl z) z z z (TL.split 20 z (fun h104 => ?_) (fun h104 => ?_))))))))
   ·replace hh := iteO_t h104 hh
    replace h104 := of_decide_eq_true h104
    refine TL.goff z z z z z z z z (TL.goff z z z z z z z z (TL.goff z z z z z z z z (TL.goff z z z z z z z z (TL.goff z z z z z z z z (TL.v z (OpVal.pickTB z z z) z z (TL.b z (.inl z) z z z (TL.goff z z z z z z z z (TL.goff z z z z z z z z (TL.goff z z z z z z z z ?_)))))))))
    refine TL.goff z z z z z z z z (TL.goff z z z z z z z z (TL.v z (OpVal.pickTB z z z) z z (TL.b z (.inl z) z z z (TL.goff z z z z z z z z (TL.goff z z z z z z z z (TL.goff z z z z z z z z (TL.goff z z z z z z z z (TL.v z (OpVal.pickTB z z z) z z (TL.b z (.inl z) z z z ?_)))))))))
    refine TL.goff z z z z z z z z (TL.goff z z z z z z z z (TL.goff z z z z z z z z (TL.goff' z z z z z z z (TL.goff' z z z z z z z (TL.goff' z z z z z z z (TL.goff z z z z z z z z (TL.v z (OpVal.pickTB z z z) z z (TL.en (TC.cond z (fun _ => ?_) (fun h => Bool.noConfusion h))))))))))
    refine TC.a (TL.b z (.inr z) z z z (TL.en (TC.ofSub (Sub.pre 0 z) (TC.ret (S.r ?_)))))
    obtain rfl := so hh
    exact r1 2
   ·replace hh := iteO_f h104 hh
    replace h104 := of_decide_eq_false h104
    refine TL.gv z z z z z (OpVal.fieldLoc z fo30_3 z) z z (TL.gv z z z z z (OpVal.loadLoc z ag24 z (i := 0) z z) z z (TL.gv z z z z z (OpVal.lenC z Tryz.underlying24 z) z z (TL.gv z z z z z (OpVal.moveI (.inl z) z) z z (TL.gv z z z z z (OpVal.neq z z z) z z (TL.v z (OpVal.pickFB z z z) z z (TL.b z (.inl z) z z z (TL.split 27 z (fun h105 => ?_) (fun h105 => ?_))))))))
    ·replace hh := iteO_t h105 hh
     replace h105 := of_decide_eq_true h105
     refine TL.goff z z z z z z z z (TL.goff z z z z z z z z (TL.goff z z z z z z z z (TL.goff z z z z z z z z (TL.goff z z z z z z z z (TL.v z (OpVal.pickTB z z z) z z (TL.b z (.inl z) z z z (TL.goff z z z z z z z z (TL.goff z z z z z z z z (TL.goff z z z z z z z z ?_)))))))))
     refine TL.goff z z z z z z z z (TL.v z (OpVal.pickTB z z z) z z (TL.b z (.inl z) z z z (TL.goff z z z z z z z z (TL.goff z z z z z z z z (TL.goff z z z z z z z z (TL.goff' z z z z z z z (TL.goff' z z z z z z z (TL.goff' z z z z z z z (TL.goff z z z z z z z z ?_)))))))))
     refine TL.v z (OpVal.pickTB z z z) z z (TL.en (TC.cond z (fun _ => ?_) (fun h => Bool.noConfusion h)))
     refine TC.a (TL.b z (.inr z) z z z (TL.en (TC.ofSub (Sub.pre 0 z) (TC.ret (S.r ?_)))))
     obtain rfl := so hh
     exact r1 2
    ·replace hh := iteO_f h105 hh
     replace h105 := of_decide_eq_false h105
     refine TL.gv z z z z z (OpVal.fieldLoc z fo30_4 z) z z (TL.gv z z z z z (OpVal.loadLoc z ag28 z (i := 0) z z) z z (TL.gv z z z z z (OpVal.lenC z Tryz.underlying28 z) z z (TL.gv z z z z z (OpVal.moveI (.inl z) z) z z (TL.gv z z z z z (OpVal.neq z z z) z z (TL.v z (OpVal.pickFB z z z) z z (TL.b z (.inl z) z z z (TL.split 34 z (fun h106 => ?_) (fun h106 => ?_))))))))
     ·replace hh := iteO_t h106 hh
      replace h106 := of_decide_eq_true h106
      refine TL.goff z z z z z z z z (TL.goff z z z z z z z z (TL.goff z z z z z z z z (TL.goff z z z z z z z z (TL.v z (OpVal.pickTB z z z) z z (TL.b z (.inl z) z z z (TL.goff z z z z z z z z (TL.goff z z z z z z z z (TL.goff z z z z z z z z (TL.goff' z z z z z z z ?_)))))))))
      refine TL.goff' z z z z z z z (TL.goff' z z z z z z z (TL.goff z z z z z z z z (TL.v z (OpVal.pickTB z z z) z z (TL.en (TC.cond z (fun _ => ?_) (fun h => Bool.noConfusion h))))))
      refine TC.a (TL.b z (.inr z) z z z (TL.en (TC.ofSub (Sub.pre 0 z) (TC.ret (S.r ?_)))))
      obtain rfl := so hh
      exact r1 2
     ·replace hh := iteO_f h106 hh
      replace h106 := of_decide_eq_false h106
      refine TL.gv z z z z z (OpVal.fieldLoc z fo30_0 z) z z (TL.gv z z z z z (OpVal.loadLoc z ag9 z (i := 0) z z) z z (TL.gv z z z z z (OpVal.lenBs z Tryz.underlying9 z) z z (TL.gv z z z z z (OpVal.gtr z z z) z z (TL.v z (OpVal.pickFB z z z) z z (TL.b z (.inl z) z z z (TL.split 40 z (fun h107 => ?_) (fun h107 => ?_)))))))
      ·replace hh := iteO_t h107 hh
       replace h107 := of_decide_eq_true h107
       refine TL.goff z z z z z z z z (TL.goff z z z z z z z z (TL.goff z z z z z z z z (TL.goff' z z z z z z z (TL.goff' z z z z z z z (TL.goff' z z z z z z z (TL.goff z z z z z z z z (TL.v z (OpVal.pickTB z z z) z z (TL.en (TC.cond z (fun _ => ?_) (fun h => Bool.noConfusion h))))))))))
       refine TC.a (TL.b z (.inr z) z z z (TL.en (TC.ofSub (Sub.pre 0 z) (TC.ret (S.r ?_)))))
       obtain rfl := so hh
       exact r1 2
      ·replace hh := iteO_f h107 hh
       replace h107 := of_decide_eq_false h107
       refine TL.gv z z z z z (OpVal.moveI (.inl z) z) z z (TL.gv z z z z z (OpVal.eql z z z) z z (TL.gv z z z z z (OpVal.moveB (.inl z) z) z z (TL.split 43 z (fun h108 => ?_) (fun h108 => ?_))))
       ·replace hh := iteO_t h108 hh
        replace h108 := of_decide_eq_true h108
        refine TL.gv z z z z z (OpVal.fieldLoc z fo30_0 z) z z (TL.gv z z z z z (OpVal.loadLoc z ag9 z (i := 0) z z) z z (TL.gv z z z z z (OpVal.neqBs z z z) z z (TL.gv z z z z z (OpVal.pickTB z z z) z z (TL.v z (OpVal.pickFB z z z) z z (TL.en (TC.cD z hh (fun h109 hh => ?_) (fun h109 hh => ?_)))))))
        ·refine TC.a (TL.b z (.inr z) z z z (TL.en (TC.ofSub (Sub.pre 0 z) (TC.ret (S.r ?_)))))
         obtain rfl := so hh
         exact r1 2
        ·exact TC.skip (S.n (cf ((), ()) hh (Sub.pre 1 z)))
       ·replace hh := iteO_f h108 hh
        replace h108 := of_decide_eq_false h108
        refine TL.goff z z z z z z z z (TL.goff z z z z z z z z (TL.goff z z z z z z z z (TL.gv z z z z z (OpVal.pickFB z z z) z z (TL.v z (OpVal.pickFB z z z) z z (TL.en (TC.cond z (fun h => Bool.noConfusion h) (fun _ => ?_)))))))
        exact TC.skip (S.n (cf ((), ()) hh (Sub.pre 1 z)))
 ·skip
  obtain ⟨_, _⟩ := g
  have hh := hg; clear hg
  show TC _ _ _ (upds (mask _ j _) []) _ [Res.cells b101 #[.string (bs x0.front), .slice a0_0 x0.next.length c0_0, .slice a0_1 x0.outs.length c0_1, .slice a0_2 x0.fin.length c0_2, .slice a0_3 x0.tail.length c0_3] 30]
  dsimp only [whittleref21_Right_j1] at hh
  refine TC.seq (TC.a (TL.a z (.inr z) z z z (TL.en (TC.block (TC.loopG (α := (Nat) × (Unit)) [2, 4, 5, 6, 7, 49, 50, 51, 52, 53, 54, 55, 56, 57, 58, 59, 60, 61, 62, 63, 64, 65, 66, 67, 68, 69, 70, 71, 72, 73, 74, 75, 76, 77, 78, 79, 80, 81, 82, 83, 84, 85, 86, 87, 88, 89, 90, 91, 92, 93, 94, 95, 96, 97, 98, 99, 100, 101, 102, 103, 104, 105, 106, 107, 108, 109, 110, 111, 112, 113, 114, 115, 116, 117, 118, 119, 120, 121, 122, 123, 124, 125, 126, 127, 128, 129, 130, 131, 132, 133, 134] (fun g => [(4, .int .i64 ((g.1 : Nat) : Int))]) (fun g => [Res.cells b101 #[.string (bs x0.front), .slice a0_0 x0.next.length c0_0, .slice a0_1 x0.outs.length c0_1, .slice a0_2 x0.fin.length c0_2, .slice a0_3 x0.tail.length c0_3] 30]) (fun g => σ) (fun g => iter (fun q : Nat => whittleref21_Right_b1 x0 q) g.1 = some r) (fun g => rounds (fun q : Nat => whittleref21_Right_b1 x0 q) g.1) (0, ()) (Sub.pre 1 z) z (by repeat (first | exact trivial | refine ⟨z, ?_⟩)) hh (fun g1 j1 hg1 => ?_))))))
  obtain ⟨k112, _⟩ := g1
  have hh := hg1; clear hg1
  show TC _ _ _ (upds (mask _ j1 _) [(4, .int .i64 ((k112 : Nat) : Int))]) _ [Res.cells b101 #[.string (bs x0.front), .slice a0_0 x0.next.length c0_0, .slice a0_1 x0.outs.length c0_1, .slice a0_2 x0.fin.length c0_2, .slice a0_3 x0.tail.length c0_3] 30]
  obtain ⟨z1, hh, hR1⟩ := iter_e hh
  dsimp only [whittleref21_Right_b1] at hh
  refine TC.seq (TC.a (TL.a z (.inl z) z z z (TL.a z (.inl z) z z z (TL.v z (OpVal.lss z z z) z z (TL.en (TC.cD z hh (fun h113 hh => ?_) (fun h113 hh => ?_)))))))
  ·refine TC.skip (S.n (TC.seq (TC.block (TC.cutG (α := (Unit) × (Unit)) [2, 54, 55, 56, 57, 58, 59, 60, 61, 62, 63, 64, 65, 66, 67, 68, 69, 70, 71, 72, 73, 74, 75, 76, 77, 78, 79, 80, 81, 82, 83, 84, 85, 86, 87, 88, 89, 90, 91, 92, 93, 94] (fun g => []) (fun g => [Res.cells b101 #[.string (bs x0.front), .slice a0_0 x0.next.length c0_0, .slice a0_1 x0.outs.length c0_1, .slice a0_2 x0.fin.length c0_2, .slice a0_3 x0.tail.length c0_3] 30]) (fun g => σ) (fun g => whittleref21_Right_j2 x0 k112 = some z1) ?_ (fun g j hg => ?_)))))
   ·skip
    refine TC.a (TL.v z (OpVal.fieldLoc z fo30_1 z) z z (TL.v z (OpVal.loadLoc z ag23 z (i := 0) z z) z z (TL.a z (.inl z) z z z (TL.v z (OpVal.indexN z Tryz.underlying23 sz22 z z f0_0.isSl (by omega)) z z ?_))))
    obtain ⟨p114, hk114, hg114⟩ := RZ.seg f0_0 k112 (by omega)
    replace hk114 : RS _ 1 Go.E.encI (.slice p114.1 (nth x0.next k112 ([] : List Int)).length p114.2) (nth x0.next k112 ([] : List Int)) := hk114
    have hk114b := hk114.rv.big
    refine TL.v z (OpVal.of (OpVal.loadSeg0 z ag22 z hg114 z) (v' := .slice p114.1 ((nth x0.next k112 ([] : List Int)).length) p114.2) z) z z (TL.v z (OpVal.lenC z Tryz.underlying22 z) z z (TL.v z (OpVal.neq z z z) z z (TL.b z (.inl z) z z z (TL.split 61 z (fun h115 => ?_) (fun h115 => ?_)))))
    ·replace hh := iteO_t h115 hh
     replace h115 := of_decide_eq_true h115
     refine TL.goff z z z z z z z z (TL.goff z z z z z z z z (TL.goff z z z z z z z z (TL.goff z z z z z z z z (TL.goff z z z z z z z z (TL.goff z z z z z z z z (TL.goff z z z z z z z z (TL.v z (OpVal.pickTB z z z) z z (TL.b z (.inl z) z z z (TL.goff z z z z z z z z ?_)))))))))
     refine TL.goff z z z z z z z z (TL.goff z z z z z z z z (TL.goff z z z z z z z z (TL.goff z z z z z z z z (TL.goff z z z z z z z z (TL.goff z z z z z z z z (TL.v z (OpVal.pickTB z z z) z z (TL.b z (.inl z) z z z (TL.goff z z z z z z z z (TL.goff z z z z z z z z ?_)))))))))
     refine TL.goff z z z z z z z z (TL.goff z z z z z z z z (TL.goff z z z z z z z z (TL.goff z z z z z z z z (TL.goff z z z z z z z z (TL.goff' z z z z z z z (TL.goff' z z z z z z z (TL.goff' z z z z z z z (TL.goff' z z z z z z z (TL.goff' z z z z z z z ?_)))))))))
     refine TL.goff' z z z z z z z (TL.goff z z z z z z z z (TL.v z (OpVal.pickTB z z z) z z (TL.en (TC.cond z (fun _ => ?_) (fun h => Bool.noConfusion h)))))
     refine TC.a (TL.b z (.inr z) z z z (TL.en (TC.ofSub (Sub.pre 0 z) (TC.ret (S.r (B.r (S.r (S.r ?_))))))))
     replace hh := fin_x hR1 hh
     refine B.r (S.r ?_)
     obtain rfl := so hh
     exact r1 2
    ·replace hh := iteO_f h115 hh
     replace h115 := of_decide_eq_false h115
     refine TL.gv z z z z z (OpVal.fieldLoc z fo30_2 z) z z (TL.gv z z z z z (OpVal.loadLoc z ag27 z (i := 0) z z) z z (TL.gv z z z z z (OpVal.moveI (.inl z) z) z z ?_))
     have u61 := grd_c hh
     replace hh := grd_t hh
     refine TL.gv z z z z z (OpVal.indexN z Tryz.underlying27 sz28 z z f0_1.isSl (by omega)) z z ?_
     obtain ⟨p116, hk116, hg116⟩ := RZ.seg f0_1 k112 (by omega)
     replace hk116 : RS _ 1 Go.E.encS (.slice p116.1 (nth x0.outs k112 ([] : List (List UInt8))).length p116.2) (nth x0.outs k112 ([] : List (List UInt8))) := hk116
     have hk116b := hk116.rv.big
     refine TL.gv z z z z z (OpVal.of (OpVal.loadSeg0 z ag28 z hg116 z) (v' := .slice p116.1 ((nth x0.outs k112 ([] : List (List UInt8))).length) p116.2) z) z z (TL.gv z z z z z (OpVal.lenC z Tryz.underlying28 z) z z (TL.gv z z z z z (OpVal.neq z z z) z z (TL.v z (OpVal.pickFB z z z) z z (TL.b z (.inl z) z z z (TL.split 70 z (fun h117 => ?_) (fun h117 => ?_))))))
     ·replace hh := iteO_t h117 hh
      replace h117 := of_decide_eq_true h117
      refine TL.goff z z z z z z z z (TL.goff z z z z z z z z (TL.goff z z z z z z z z (TL.goff z z z z z z z z (TL.goff z z z z z z z z (TL.goff z z z z z z z z (TL.goff z z z z z z z z (TL.v z (OpVal.pickTB z z z) z z (TL.b z (.inl z) z z z (TL.goff z z z z z z z z ?_)))))))))
      refine TL.goff z z z z z z z z (TL.goff z z z z z z z z (TL.goff z z z z z z z z (TL.goff z z z z z z z z (TL.goff z z z z z z z z (TL.goff z z z z z z z z (TL.goff' z z z z z z z (TL.goff' z z z z z z z (TL.goff' z z z z z z z (TL.goff' z z z z z z z ?_)))))))))
      refine TL.goff' z z z z z z z (TL.goff' z z z z z z z (TL.goff z z z z z z z z (TL.v z (OpVal.pickTB z z z) z z (TL.en (TC.cond z (fun _ => ?_) (fun h => Bool.noConfusion h))))))
      refine TC.a (TL.b z (.inr z) z z z (TL.en (TC.ofSub (Sub.pre 0 z) (TC.ret (S.r (B.r (S.r (S.r ?_))))))))
      replace hh := fin_x hR1 hh
      refine B.r (S.r ?_)
      obtain rfl := so hh
      exact r1 2
     ·replace hh := iteO_f h117 hh
      replace h117 := of_decide_eq_false h117
      refine TL.gv z z z z z (OpVal.fieldLoc z fo30_4 z) z z (TL.gv z z z z z (OpVal.loadLoc z ag28 z (i := 0) z z) z z (TL.gv z z z z z (OpVal.moveI (.inl z) z) z z ?_))
      have u70 := grd_c hh
      replace hh := grd_t hh
      refine TL.gv z z z z z (OpVal.indexN z Tryz.underlying28 sz9 z z f0_3.rv.sl (by omega)) z z (TL.gv z z z z z (OpVal.loadS1 ([] : List UInt8) z ag9 z f0_3 (by omega) z) z z (TL.gv z z z z z (OpVal.lenBs z Tryz.underlying9 z) z z (TL.gv z z z z z (OpVal.gtr z z z) z z (TL.v z (OpVal.pickFB z z z) z z (TL.b z (.inl z) z z z (TL.split 79 z (fun h118 => ?_) (fun h118 => ?_)))))))
      ·replace hh := iteO_t h118 hh
       replace h118 := of_decide_eq_true h118
       refine TL.goff z z z z z z z z (TL.goff z z z z z z z z (TL.goff z z z z z z z z (TL.goff z z z z z z z z (TL.goff z z z z z z z z (TL.goff z z z z z z z z (TL.goff z z z z z z z z (TL.goff' z z z z z z z (TL.goff' z z z z z z z (TL.goff' z z z z z z z ?_)))))))))
       refine TL.goff' z z z z z z z (TL.goff' z z z z z z z (TL.goff' z z z z z z z (TL.goff z z z z z z z z (TL.v z (OpVal.pickTB z z z) z z (TL.en (TC.cond z (fun _ => ?_) (fun h => Bool.noConfusion h)))))))
       refine TC.a (TL.b z (.inr z) z z z (TL.en (TC.ofSub (Sub.pre 0 z) (TC.ret (S.r (B.r (S.r (S.r ?_))))))))
       replace hh := fin_x hR1 hh
       refine B.r (S.r ?_)
       obtain rfl := so hh
       exact r1 2
      ·replace hh := iteO_f h118 hh
       replace h118 := of_decide_eq_false h118
       refine TL.gv z z z z z (OpVal.fieldLoc z fo30_3 z) z z (TL.gv z z z z z (OpVal.loadLoc z ag24 z (i := 0) z z) z z (TL.gv z z z z z (OpVal.moveI (.inl z) z) z z ?_))
       have u79 := grd_c hh
       replace hh := grd_t hh
       refine TL.gv z z z z z (OpVal.indexN z Tryz.underlying24 sz4 z z f0_2.rv.sl (by omega)) z z (TL.gv z z z z z (OpVal.loadS1 false z ag4 z f0_2 (by omega) z) z z (TL.gv z z z z z (OpVal.not z z) z z (TL.gv z z z z z (OpVal.moveB (.inl z) z) z z (TL.split 86 z (fun h119 => ?_) (fun h119 => ?_)))))
       ·replace hh := iteO_t h119 hh
        refine TL.gv z z z z z (OpVal.fieldLoc z fo30_4 z) z z (TL.gv z z z z z (OpVal.loadLoc z ag28 z (i := 0) z z) z z (TL.gv z z z z z (OpVal.moveI (.inl z) z) z z ?_))
        have u86 := grd_c hh
        replace hh := grd_t hh
        refine TL.gv z z z z z (OpVal.indexN z Tryz.underlying28 sz9 z z f0_3.rv.sl (by omega)) z z (TL.gv z z z z z (OpVal.loadS1 ([] : List UInt8) z ag9 z f0_3 (by omega) z) z z (TL.gv z z z z z (OpVal.neqBs z z z) z z (TL.gv z z z z z (OpVal.pickTB z z z) z z (TL.v z (OpVal.pickFB z z z) z z (TL.en (TC.cD z hh (fun h120 hh => ?_) (fun h120 hh => ?_)))))))
        ·refine TC.a (TL.b z (.inr z) z z z (TL.en (TC.ofSub (Sub.pre 0 z) (TC.ret (S.r (B.r (S.r (S.r ?_))))))))
         replace hh := fin_x hR1 hh
         refine B.r (S.r ?_)
         obtain rfl := so hh
         exact r1 2
        ·exact TC.skip (S.n (cf ((), ()) hh (Sub.pre 1 z)))
       ·replace hh := iteO_f h119 hh
        refine TL.goff z z z z z z z z (TL.goff z z z z z z z z (TL.goff z z z z z z z z (TL.goff z z z z z z z z (TL.goff z z z z z z z z (TL.goff z z z z z z z z (TL.gv z z z z z (OpVal.pickFB z z z) z z (TL.v z (OpVal.pickFB z z z) z z (TL.en (TC.cond z (fun h => Bool.noConfusion h) (fun _ => ?_))))))))))
        exact TC.skip (S.n (cf ((), ()) hh (Sub.pre 1 z)))
   ·skip
    obtain ⟨_, _⟩ := g
    have hh := hg; clear hg
    show TC _ _ _ (upds (mask _ j _) []) _ [Res.cells b101 #[.string (bs x0.front), .slice a0_0 x0.next.length c0_0, .slice a0_1 x0.outs.length c0_1, .slice a0_2 x0.fin.length c0_2, .slice a0_3 x0.tail.length c0_3] 30]
    dsimp only [whittleref21_Right_j2] at hh
    refine TC.a (TL.a z (.inr z) z z z (TL.en (TC.block (TC.loopG (α := (Nat) × (Unit)) [2, 5, 6, 7, 95, 96, 97, 98, 99, 100, 101, 102, 103, 104, 105, 106, 107, 108, 109, 110, 111, 112, 113, 114, 115, 116, 117, 118, 119, 120, 121, 122, 123, 124, 125, 126, 127, 128, 129, 130, 131, 132, 133, 134] (fun g => [(5, .int .i64 ((g.1 : Nat) : Int))]) (fun g => [Res.cells b101 #[.string (bs x0.front), .slice a0_0 x0.next.length c0_0, .slice a0_1 x0.outs.length c0_1, .slice a0_2 x0.fin.length c0_2, .slice a0_3 x0.tail.length c0_3] 30]) (fun g => σ) (fun g => iter (fun q : Nat => whittleref21_Right_b2 x0 k112 q) g.1 = some z1) (fun g => rounds (fun q : Nat => whittleref21_Right_b2 x0 k112 q) g.1) (0, ()) (Sub.pre 1 z) z (by repeat (first | exact trivial | refine ⟨z, ?_⟩)) hh (fun g2 j2 hg2 => ?_)))))
    obtain ⟨k123, _⟩ := g2
    have hh := hg2; clear hg2
    show TC _ _ _ (upds (mask _ j2 _) [(5, .int .i64 ((k123 : Nat) : Int))]) _ [Res.cells b101 #[.string (bs x0.front), .slice a0_0 x0.next.length c0_0, .slice a0_1 x0.outs.length c0_1, .slice a0_2 x0.fin.length c0_2, .slice a0_3 x0.tail.length c0_3] 30]
    obtain ⟨z2, hh, hR2⟩ := iter_e hh
    dsimp only [whittleref21_Right_b2] at hh
    refine TC.seq (TC.a (TL.a z (.inl z) z z z (TL.v z (OpVal.lss z z z) z z (TL.en (TC.cD z hh (fun h124 hh => ?_) (fun h124 hh => ?_))))))
    ·refine TC.skip (S.n (TC.cutG (α := (Unit) × (Unit)) [2, 6, 7, 99, 100, 101, 102, 103, 104, 105, 106, 107, 108, 109, 110, 111, 112, 113, 114, 115, 116, 117, 118, 119, 120, 121, 122, 123, 124, 125, 126, 127, 128, 129, 130, 131, 132, 133, 134] (fun g => []) (fun g => [Res.cells b101 #[.string (bs x0.front), .slice a0_0 x0.next.length c0_0, .slice a0_1 x0.outs.length c0_1, .slice a0_2 x0.fin.length c0_2, .slice a0_3 x0.tail.length c0_3] 30]) (fun g => σ) (fun g => whittleref21_Right_j3 k123 = some z2) ?_ (fun g j hg => ?_)))
     ·skip
      refine TC.block (TC.a (TL.v z (OpVal.fieldLoc z fo30_1 z) z z (TL.v z (OpVal.loadLoc z ag23 z (i := 0) z z) z z (TL.a z (.inl z) z z z (TL.v z (OpVal.indexN z Tryz.underlying23 sz22 z z f0_0.isSl (by omega)) z z ?_)))))
      obtain ⟨p125, hk125, hg125⟩ := RZ.seg f0_0 k112 (by omega)
      replace hk125 : RS _ 1 Go.E.encI (.slice p125.1 (nth x0.next k112 ([] : List Int)).length p125.2) (nth x0.next k112 ([] : List Int)) := hk125
      have hk125b := hk125.rv.big
      refine TL.v z (OpVal.of (OpVal.loadSeg0 z ag22 z hg125 z) (v' := .slice p125.1 ((nth x0.next k112 ([] : List Int)).length) p125.2) z) z z (TL.a z (.inl z) z z z ?_)
      have u101 := grd_c hh
      replace hh := grd_t hh
      refine TL.v z (OpVal.indexN z Tryz.underlying22 sz3 z z hk125.rv.sl (by omega)) z z (TL.v z (OpVal.loadS1 (0 : Int) z ag3 z hk125 (by omega) z) z z (TL.a z (.inr z) z z z (TL.en (TC.a (TL.v z (OpVal.fieldLoc z fo30_2 z) z z (TL.v z (OpVal.loadLoc z ag27 z (i := 0) z z) z z (TL.a z (.inl z) z z z ?_)))))))
      have u107 := grd_c hh
      replace hh := grd_t hh
      refine TL.v z (OpVal.indexN z Tryz.underlying27 sz28 z z f0_1.isSl (by omega)) z z ?_
      obtain ⟨p126, hk126, hg126⟩ := RZ.seg f0_1 k112 (by omega)
      replace hk126 : RS _ 1 Go.E.encS (.slice p126.1 (nth x0.outs k112 ([] : List (List UInt8))).length p126.2) (nth x0.outs k112 ([] : List (List UInt8))) := hk126
      have hk126b := hk126.rv.big
      refine TL.v z (OpVal.of (OpVal.loadSeg0 z ag28 z hg126 z) (v' := .slice p126.1 ((nth x0.outs k112 ([] : List (List UInt8))).length) p126.2) z) z z (TL.a z (.inl z) z z z ?_)
      have u110 := grd_c hh
      replace hh := grd_t hh
      refine TL.v z (OpVal.indexN z Tryz.underlying28 sz9 z z hk126.rv.sl (by omega)) z z (TL.v z (OpVal.loadS1 ([] : List UInt8) z ag9 z hk126 (by omega) z) z z (TL.v z (OpVal.moveStr (.inr z) z) z z (TL.en (TC.a (TL.a z (.inl z) z z z (TL.v z (OpVal.lss z z z) z z (TL.b z (.inl z) z z z (TL.split 117 z (fun h127 => ?_) (fun h127 => ?_)))))))))
      ·replace hh := iteO_t h127 hh
       replace h127 := of_decide_eq_true h127
       refine TL.goff z z z z z z z z (TL.goff z z z z z z z z (TL.goff z z z z z z z z (TL.v z (OpVal.pickTB z z z) z z (TL.b z (.inl z) z z z (TL.goff z z z z z z z z (TL.goff z z z z z z z z (TL.goff z z z z z z z z (TL.goff' z z z z z z z (TL.goff' z z z z z z z ?_)))))))))
       refine TL.goff z z z z z z z z (TL.v z (OpVal.pickTB z z z) z z (TL.b z (.inl z) z z z (TL.goff z z z z z z z z (TL.goff z z z z z z z z (TL.goff z z z z z z z z (TL.v z (OpVal.pickTB z z z) z z (TL.en (TC.cond z (fun _ => ?_) (fun h => Bool.noConfusion h)))))))))
       refine TC.a (TL.b z (.inr z) z z z (TL.en (TC.ofSub (Sub.pre 0 z) (TC.ret (B.r (S.r (S.r ?_)))))))
       replace hh := fin_x hR2 hh
       refine B.r (B.r (S.r (S.r ?_)))
       replace hh := fin_x hR1 hh
       refine B.r (S.r ?_)
       obtain rfl := so hh
       exact r1 2
      ·replace hh := iteO_f h127 hh
       replace h127 := of_decide_eq_false h127
       refine TL.gv z z z z z (OpVal.moveI (.inl z) z) z z (TL.gv z z z z z (OpVal.moveI (.inl z) z) z z (TL.gv z z z z z (OpVal.geq z z z) z z (TL.v z (OpVal.pickFB z z z) z z (TL.b z (.inl z) z z z (TL.split 122 z (fun h128 => ?_) (fun h128 => ?_))))))
       ·replace hh := iteO_t h128 hh
        replace h128 := of_decide_eq_true h128
        refine TL.goff z z z z z z z z (TL.goff z z z z z z z z (TL.goff z z z z z z z z (TL.goff' z z z z z z z (TL.goff' z z z z z z z (TL.goff z z z z z z z z (TL.v z (OpVal.pickTB z z z) z z (TL.b z (.inl z) z z z (TL.goff z z z z z z z z (TL.goff z z z z z z z z ?_)))))))))
        refine TL.goff z z z z z z z z (TL.v z (OpVal.pickTB z z z) z z (TL.en (TC.cond z (fun _ => ?_) (fun h => Bool.noConfusion h))))
        refine TC.a (TL.b z (.inr z) z z z (TL.en (TC.ofSub (Sub.pre 0 z) (TC.ret (B.r (S.r (S.r ?_)))))))
        replace hh := fin_x hR2 hh
        refine B.r (B.r (S.r (S.r ?_)))
        replace hh := fin_x hR1 hh
        refine B.r (S.r ?_)
        obtain rfl := so hh
        exact r1 2
       ·replace hh := iteO_f h128 hh
        replace h128 := of_decide_eq_false h128
        refine TL.gv z z z z z (OpVal.moveI (.inl z) z) z z (TL.gv z z z z z (OpVal.eql z z z) z z (TL.gv z z z z z (OpVal.moveB (.inl z) z) z z (TL.split 125 z (fun h129 => ?_) (fun h129 => ?_))))
        ·replace hh := iteO_t h129 hh
         replace h129 := of_decide_eq_true h129
         refine TL.gv z z z z z (OpVal.moveStr (.inl z) z) z z (TL.gv z z z z z (OpVal.neqBs z z z) z z (TL.gv z z z z z (OpVal.pickTB z z z) z z (TL.v z (OpVal.pickFB z z z) z z (TL.b z (.inl z) z z z (TL.split 130 z (fun h130 => ?_) (fun h130 => ?_))))))
         ·replace hh := iteO_t h130 hh
          replace h130 := of_decide_eq_true h130
          refine TL.goff z z z z z z z z (TL.goff z z z z z z z z (TL.goff z z z z z z z z (TL.v z (OpVal.pickTB z z z) z z (TL.en (TC.cond z (fun _ => ?_) (fun h => Bool.noConfusion h))))))
          refine TC.a (TL.b z (.inr z) z z z (TL.en (TC.ofSub (Sub.pre 0 z) (TC.ret (B.r (S.r (S.r ?_)))))))
          replace hh := fin_x hR2 hh
          refine B.r (B.r (S.r (S.r ?_)))
          replace hh := fin_x hR1 hh
          refine B.r (S.r ?_)
          obtain rfl := so hh
          exact r1 2
         ·replace hh := iteO_f h130 hh
          replace h130 := of_decide_eq_false h130
          refine TL.gv z z z z z (OpVal.moveStr (.inl z) z) z z (TL.gv z z z z z (OpVal.lenBs z Tryz.underlying9 z) z z (TL.gv z z z z z (OpVal.gtr z z z) z z (TL.v z (OpVal.pickFB z z z) z z (TL.en (TC.cD z hh (fun h131 hh => ?_) (fun h131 hh => ?_))))))
          ·refine TC.a (TL.b z (.inr z) z z z (TL.en (TC.ofSub (Sub.pre 0 z) (TC.ret (B.r (S.r (S.r ?_)))))))
           replace hh := fin_x hR2 hh
           refine B.r (B.r (S.r (S.r ?_)))
           replace hh := fin_x hR1 hh
           refine B.r (S.r ?_)
           obtain rfl := so hh
           exact r1 2
          ·exact TC.skip (B.n (S.n (cf ((), ()) hh (Sub.pre 1 z))))
        ·replace hh := iteO_f h129 hh
         replace h129 := of_decide_eq_false h129
         refine TL.goff z z z z z z z z (TL.goff z z z z z z z z (TL.gv z z z z z (OpVal.pickFB z z z) z z (TL.v z (OpVal.pickFB z z z) z z (TL.b z (.inl z) z z z (TL.gv z z z z z (OpVal.moveStr (.inl z) z) z z (TL.gv z z z z z (OpVal.lenBs z Tryz.underlying9 z) z z (TL.gv z z z z z (OpVal.gtr z z z) z z (TL.v z (OpVal.pickFB z z z) z z (TL.en ?_)))))))))
         refine TC.cD z hh (fun h132 hh => ?_) (fun h132 hh => ?_)
         ·refine TC.a (TL.b z (.inr z) z z z (TL.en (TC.ofSub (Sub.pre 0 z) (TC.ret (B.r (S.r (S.r ?_)))))))
          replace hh := fin_x hR2 hh
          refine B.r (B.r (S.r (S.r ?_)))
          replace hh := fin_x hR1 hh
          refine B.r (S.r ?_)
          obtain rfl := so hh
          exact r1 2
         ·exact TC.skip (B.n (S.n (cf ((), ()) hh (Sub.pre 1 z))))
     ·skip
      obtain ⟨_, _⟩ := g
      have hh := hg; clear hg
      show TC _ _ _ (upds (mask _ j _) []) _ [Res.cells b101 #[.string (bs x0.front), .slice a0_0 x0.next.length c0_0, .slice a0_1 x0.outs.length c0_1, .slice a0_2 x0.fin.length c0_2, .slice a0_3 x0.tail.length c0_3] 30]
      dsimp only [whittleref21_Right_j3] at hh
      refine TC.region (TL.a z (.inl z) z z z (TL.v z (OpVal.succ z z z (by omega)) z z (TL.a z (.inr z) z z z (TL.en ?_))))
      obtain ⟨hh, hlt133⟩ := nxt_x hR2 hh
      exact lf ((k123 + 1), ()) hlt133 hh (Sub.pre 1 z)
    ·refine TC.exit (S.x (S.x ?_))
     replace hh := fin_x hR2 hh
     refine TC.exitHere (B.n (S.n (TC.region (TL.a z (.inl z) z z z (TL.v z (OpVal.succ z z z (by omega)) z z (TL.a z (.inr z) z z z (TL.en ?_)))))))
     obtain ⟨hh, hlt134⟩ := nxt_x hR1 hh
     exact lf ((k112 + 1), ()) hlt134 hh (Sub.pre 1 z)
  ·refine TC.exit (S.x (S.x ?_))
   replace hh := fin_x hR1 hh
   refine TC.exitHere (S.n (TC.a (TL.b z (.inr z) z z z (TL.en (TC.ofSub (Sub.pre 0 z) (TC.ret ?_))))))
   obtain rfl := so hh
   exact r1 2

noncomputable def whittleref21_Apply_b1 (x1 : List UInt8) (x0 : Seq) (s111 : List UInt8) (i112 : Int) (k113 : Nat) : Option (((List UInt8) × Int × Nat) ⊕ ((List UInt8) × Int × Bool × Int)) :=
 iteO (decide (((k113 : Nat) : Int) < ((x1.length : Nat) : Int))) (grd (0 ≤ i112 ∧ i112 < (x0.next.length : Int)) (grd ((nth x1 k113 (0 : UInt8)).toNat < (nth x0.next i112.toNat ([] : List Int)).length) (iteO (decide ((nth (nth x0.next i112.toNat ([] : List Int)) ((nth x1 k113 (0 : UInt8)).toNat) (0 : Int)) < 0)) (fin (some (([] : List UInt8), ((k113 : Nat) : Int), false, 0))) (grd (0 ≤ i112 ∧ i112 < (x0.outs.length : Int)) (grd ((nth x1 k113 (0 : UInt8)).toNat < (nth x0.outs i112.toNat ([] : List (List UInt8))).length) (grd (s111.length + (nth (nth x0.outs i112.toNat ([] : List (List UInt8))) ((nth x1 k113 (0 : UInt8)).toNat) ([] : List UInt8)).length ≤ 9223372036854775807) (grd (0 ≤ i112 ∧ i112 < (x0.next.length : Int)) (grd ((nth x1 k113 (0 : UInt8)).toNat < (nth x0.next i112.toNat ([] : List Int)).length) (nxt ((s111 ++ (nth (nth x0.outs i112.toNat ([] : List (List UInt8))) ((nth x1 k113 (0 : UInt8)).toNat) ([] : List UInt8))), (nth (nth x0.next i112.toNat ([] : List Int)) ((nth x1 k113 (0 : UInt8)).toNat) (0 : Int)), (k113 + 1))))))))))) (fin (grd (0 ≤ i112 ∧ i112 < (x0.fin.length : Int)) (iteO (!(nth x0.fin i112.toNat false)) (some (([] : List UInt8), ((x1.length : Nat) : Int), false, 0)) (grd (0 ≤ i112 ∧ i112 < (x0.tail.length : Int)) (grd (s111.length + (nth x0.tail i112.toNat ([] : List UInt8)).length ≤ 9223372036854775807) (some ((s111 ++ (nth x0.tail i112.toNat ([] : List UInt8))), ((x1.length : Nat) : Int), true, 0)))))))
noncomputable def whittleref21_Apply (x0 : Seq) (x1 : List UInt8) : Option ((List UInt8) × Int × Bool × Int) :=
 grd (x1.length ≤ 281474976710656) (bnd (whittleref21_Right x0) (fun v7 => iteO (!v7) (some (([] : List UInt8), 0, false, 1)) (iteO (decide (((x0.next.length : Nat) : Int) = 0)) (some (([] : List UInt8), 0, false, 0)) (iter (fun q : (List UInt8) × Int × Nat => whittleref21_Apply_b1 x1 x0 q.1 q.2.1 q.2.2) (x0.front, 0, 0)))))
theorem whittleref21_Apply_con {σ : Store} {x0 : Seq} {a0_0 : Option Addr} {c0_0 : Nat} {a0_1 : Option Addr} {c0_1 : Nat} {a0_2 : Option Addr} {c0_2 : Nat} {a0_3 : Option Addr} {c0_3 : Nat} {x1 : List UInt8} (f0_0 : RZ σ (pkSl 1 Go.E.encI Go.E.encI_len) (.slice a0_0 x0.next.length c0_0) x0.next) (f0_1 : RZ σ (pkSl 1 Go.E.encS Go.E.encS_len) (.slice a0_1 x0.outs.length c0_1) x0.outs) (f0_2 : RS σ 1 encB (.slice a0_2 x0.fin.length c0_2) x0.fin) (f0_3 : RS σ 1 Go.E.encS (.slice a0_3 x0.tail.length c0_3) x0.tail) {r : (List UInt8) × Int × Bool × Int} (hh : whittleref21_Apply x0 x1 = some r) :
  Con Tryz.prog 71 #[.agg #[.string (bs x0.front), .slice a0_0 x0.next.length c0_0, .slice a0_1 x0.outs.length c0_1, .slice a0_2 x0.fin.length c0_2, .slice a0_3 x0.tail.length c0_3], .string (bs x1)] σ [] (PureP (.tuple #[.string (bs r.1), .int .i64 r.2.1, .bool r.2.2.1, .int .i64 r.2.2.2]) σ) := by
 dsimp only [whittleref21_Apply] at hh
 have f0_0b := f0_0.big
 have f0_1b := f0_1.big
 have f0_2b := f0_2.rv.big
 have f0_3b := f0_3.rv.big
 refine Con.mk (n := 76) Tryz.func71 z z z (fun w0 => ?_)
 have x1b := grd_c hh
 replace hh := grd_t hh
 refine TC.a (TL.op z (OpOk.boxA z z z z (fun b101 => ?_)))
 refine TL.v z (OpVal.moveStr (.inr z) z) z z (TL.a z (.inr z) z z z (TL.b z (.inr z) z z z (TL.a z (.inr z) z z z (TL.en (TC.seq (TC.a (TL.v z (OpVal.loadAll z ag30 sz30 z (i := 0) z z) z z ?_)))))))
 obtain ⟨v7, u7, hh⟩ := bnd_e hh
 refine TL.op z (OpOk.callP (whittleref21_Right_con (x0 := x0) f0_0 f0_1 f0_2 f0_3 u7) z z pf67 z z z ?_)
 refine TL.v z (OpVal.not z z) z z (TL.en (TC.cB z hh (fun h103 hh => ?_) (fun h103 hh => ?_)))
 ·refine TC.a (TL.v z (OpVal.moveStr (.inr z) z) z z (TL.a z (.inr z) z z z (TL.b z (.inr z) z z z (TL.a z (.inr z) z z z (TL.en (TC.ofSub (Sub.pre 0 z) (TC.ret (S.r ?_))))))))
  obtain rfl := so hh
  exact RetOk.mk' (rs := [.tmp 4, .tmp 5, .tmp 6, .tmp 7]) [] z (.inl z) (RVs.tmp z (RVs.tmp z (RVs.tmp z (RVs.tmp z RVs.nil)))) (List.sublist_append_left _ _) ⟨z, z, z⟩
 ·refine TC.skip (S.n (TC.seq (TC.a (TL.v z (OpVal.fieldLoc z fo30_1 z) z z (TL.v z (OpVal.loadLoc z ag23 z (i := 0) z z) z z (TL.v z (OpVal.lenC z Tryz.underlying23 z) z z (TL.v z (OpVal.eql z z z) z z (TL.en (TC.cD z hh (fun h104 hh => ?_) (fun h104 hh => ?_))))))))))
  ·refine TC.a (TL.v z (OpVal.moveStr (.inr z) z) z z (TL.a z (.inr z) z z z (TL.b z (.inr z) z z z (TL.a z (.inr z) z z z (TL.en (TC.ofSub (Sub.pre 0 z) (TC.ret (S.r ?_))))))))
   obtain rfl := so hh
   exact RetOk.mk' (rs := [.tmp 4, .tmp 5, .tmp 6, .tmp 7]) [] z (.inl z) (RVs.tmp z (RVs.tmp z (RVs.tmp z (RVs.tmp z RVs.nil)))) (List.sublist_append_left _ _) ⟨z, z, z⟩
  ·refine TC.skip (S.n (TC.a (TL.v z (OpVal.fieldLoc z fo30_0 z) z z (TL.v z (OpVal.loadLoc z ag9 z (i := 0) z z) z z (TL.v z (OpVal.moveStr (.inr z) z) z z (TL.en (TC.a (TL.a z (.inr z) z z z (TL.en ?_)))))))))
   refine TC.seq (TC.a (TL.a z (.inr z) z z z (TL.en (TC.block (TC.loopG (α := ((List UInt8) × Int × Nat) × (Unit)) [4, 5, 6, 7, 8, 9, 10, 11, 21, 22, 23, 24, 25, 26, 27, 28, 29, 30, 31, 32, 33, 34, 35, 36, 37, 38, 39, 40, 41, 42, 43, 44, 45, 46, 47, 48, 49, 50, 51, 52, 53, 54, 55, 56, 57, 58] (fun g => [(8, .string (bs g.1.1)), (9, .int .i64 g.1.2.1), (10, .int .i64 ((g.1.2.2 : Nat) : Int))]) (fun g => [Res.cells b101 #[.string (bs x0.front), .slice a0_0 x0.next.length c0_0, .slice a0_1 x0.outs.length c0_1, .slice a0_2 x0.fin.length c0_2, .slice a0_3 x0.tail.length c0_3] 30]) (fun g => σ) (fun g => iter (fun q : (List UInt8) × Int × Nat => whittleref21_Apply_b1 x1 x0 q.1 q.2.1 q.2.2) g.1 = some r) (fun g => rounds (fun q : (List UInt8) × Int × Nat => whittleref21_Apply_b1 x1 x0 q.1 q.2.1 q.2.2) g.1) ((x0.front, 0, 0), ()) (Sub.pre 1 z) z (by repeat (first | exact trivial | refine ⟨z, ?_⟩)) hh (fun g1 j1 hg1 => ?_))))))
   obtain ⟨⟨s111, i112, k113⟩, _⟩ := g1
   have hh := hg1; clear hg1
   show TC _ _ _ (upds (mask _ j1 _) [(8, .string (bs s111)), (9, .int .i64 i112), (10, .int .i64 ((k113 : Nat) : Int))]) _ [Res.cells b101 #[.string (bs x0.front), .slice a0_0 x0.next.length c0_0, .slice a0_1 x0.outs.length c0_1, .slice a0_2 x0.fin.length c0_2, .slice a0_3 x0.tail.length c0_3] 30]
   obtain ⟨z1, hh, hR1⟩ := iter_e hh
   dsimp only [whittleref21_Apply_b1] at hh
   refine TC.seq (TC.a (TL.a z (.inl z) z z z (TL.v z (OpVal.moveStr (.inl z) z) z z (TL.v z (OpVal.lenBs z Tryz.underlying9 z) z z (TL.v z (OpVal.lss z z z) z z (TL.en (TC.cD z hh (fun h114 hh => ?_) (fun h114 hh => ?_))))))))
   ·refine TC.skip (S.n (TC.seq (TC.block (TC.a (TL.v z (OpVal.moveStr (.inl z) z) z z (TL.a z (.inl z) z z z (TL.v z (OpVal.indexBs z Tryz.underlying9 z z (by omega)) z z (TL.v z (OpVal.convN z Tryz.underlying5 Tryz.underlying3 z (by have := UInt8.toNat_lt (nth x1 k113 (0 : UInt8)); simp only [kmax]; omega)) z z (TL.a z (.inr z) z z z ?_)))))))))
    refine TL.en (TC.seq (TC.a (TL.v z (OpVal.fieldLoc z fo30_1 z) z z (TL.v z (OpVal.loadLoc z ag23 z (i := 0) z z) z z (TL.a z (.inl z) z z z ?_)))))
    have u38 := grd_c hh
    replace hh := grd_t hh
    refine TL.v z (OpVal.index z Tryz.underlying23 sz22 z z f0_0.isSl u38.1 u38.2) z z ?_
    obtain ⟨p115, hk115, hg115⟩ := RZ.seg f0_0 i112.toNat (by omega)
    replace hk115 : RS _ 1 Go.E.encI (.slice p115.1 (nth x0.next i112.toNat ([] : List Int)).length p115.2) (nth x0.next i112.toNat ([] : List Int)) := hk115
    have hk115b := hk115.rv.big
    refine TL.v z (OpVal.of (OpVal.loadSeg0 z ag22 z hg115 z) (v' := .slice p115.1 ((nth x0.next i112.toNat ([] : List Int)).length) p115.2) z) z z (TL.a z (.inl z) z z z ?_)
    have u41 := grd_c hh
    replace hh := grd_t hh
    refine TL.v z (OpVal.indexN z Tryz.underlying22 sz3 z z hk115.rv.sl (by omega)) z z (TL.v z (OpVal.loadS1 (0 : Int) z ag3 z hk115 (by omega) z) z z (TL.v z (OpVal.lss z z z) z z (TL.en (TC.cD z hh (fun h116 hh => ?_) (fun h116 hh => ?_)))))
    ·refine TC.a (TL.a z (.inl z) z z z (TL.v z (OpVal.moveStr (.inr z) z) z z (TL.a z (.inr z) z z z (TL.b z (.inr z) z z z (TL.a z (.inr z) z z z (TL.en (TC.ofSub (Sub.pre 0 z) (TC.ret (S.r ?_)))))))))
     refine B.r (S.r (S.r ?_))
     replace hh := fin_x hR1 hh
     refine B.r (S.r ?_)
     obtain rfl := so hh
     exact RetOk.mk' (rs := [.tmp 4, .tmp 5, .tmp 6, .tmp 7]) [] z (.inl z) (RVs.tmp z (RVs.tmp z (RVs.tmp z (RVs.tmp z RVs.nil)))) (List.sublist_append_left _ _) ⟨z, z, z⟩
    ·refine TC.skip (S.n (TC.a (TL.v z (OpVal.moveStr (.inl z) z) z z (TL.v z (OpVal.fieldLoc z fo30_2 z) z z (TL.v z (OpVal.loadLoc z ag27 z (i := 0) z z) z z (TL.a z (.inl z) z z z ?_))))))
     have u53 := grd_c hh
     replace hh := grd_t hh
     refine TL.v z (OpVal.index z Tryz.underlying27 sz28 z z f0_1.isSl u53.1 u53.2) z z ?_
     obtain ⟨p117, hk117, hg117⟩ := RZ.seg f0_1 i112.toNat (by omega)
     replace hk117 : RS _ 1 Go.E.encS (.slice p117.1 (nth x0.outs i112.toNat ([] : List (List UInt8))).length p117.2) (nth x0.outs i112.toNat ([] : List (List UInt8))) := hk117
     have hk117b := hk117.rv.big
     refine TL.v z (OpVal.of (OpVal.loadSeg0 z ag28 z hg117 z) (v' := .slice p117.1 ((nth x0.outs i112.toNat ([] : List (List UInt8))).length) p117.2) z) z z (TL.a z (.inl z) z z z ?_)
     have u56 := grd_c hh
     replace hh := grd_t hh
     refine TL.v z (OpVal.indexN z Tryz.underlying28 sz9 z z hk117.rv.sl (by omega)) z z (TL.v z (OpVal.loadS1 ([] : List UInt8) z ag9 z hk117 (by omega) z) z z ?_)
     have u58 := grd_c hh
     replace hh := grd_t hh
     refine TL.v z (OpVal.catBs z z z u58) z z (TL.v z (OpVal.moveStr (.inr z) z) z z (TL.en (TC.region (TL.v z (OpVal.fieldLoc z fo30_1 z) z z (TL.v z (OpVal.loadLoc z ag23 z (i := 0) z z) z z (TL.a z (.inl z) z z z ?_))))))
     have u63 := grd_c hh
     replace hh := grd_t hh
     refine TL.v z (OpVal.index z Tryz.underlying23 sz22 z z f0_0.isSl u63.1 u63.2) z z ?_
     obtain ⟨p118, hk118, hg118⟩ := RZ.seg f0_0 i112.toNat (by omega)
     replace hk118 : RS _ 1 Go.E.encI (.slice p118.1 (nth x0.next i112.toNat ([] : List Int)).length p118.2) (nth x0.next i112.toNat ([] : List Int)) := hk118
     have hk118b := hk118.rv.big
     refine TL.v z (OpVal.of (OpVal.loadSeg0 z ag22 z hg118 z) (v' := .slice p118.1 ((nth x0.next i112.toNat ([] : List Int)).length) p118.2) z) z z (TL.a z (.inl z) z z z ?_)
     have u66 := grd_c hh
     replace hh := grd_t hh
     refine TL.v z (OpVal.indexN z Tryz.underlying22 sz3 z z hk118.rv.sl (by omega)) z z (TL.v z (OpVal.loadS1 (0 : Int) z ag3 z hk118 (by omega) z) z z (TL.a z (.inr z) z z z (TL.nil (B.n (S.n (TC.region (TL.a z (.inl z) z z z (TL.v z (OpVal.succ z z z (by omega)) z z (TL.a z (.inr z) z z z ?_)))))))))
     refine TL.en ?_
     obtain ⟨hh, hlt119⟩ := nxt_x hR1 hh
     exact lf (((s111 ++ (nth (nth x0.outs i112.toNat ([] : List (List UInt8))) ((nth x1 k113 (0 : UInt8)).toNat) ([] : List UInt8))), (nth (nth x0.next i112.toNat ([] : List Int)) ((nth x1 k113 (0 : UInt8)).toNat) (0 : Int)), (k113 + 1)), ()) hlt119 hh (Sub.pre 1 z)
   ·refine TC.exit (S.x (S.x ?_))
    replace hh := fin_x hR1 hh
    refine TC.exitHere (S.n (TC.seq (TC.a (TL.v z (OpVal.fieldLoc z fo30_3 z) z z (TL.v z (OpVal.loadLoc z ag24 z (i := 0) z z) z z (TL.a z (.inl z) z z z ?_))))))
    have u75 := grd_c hh
    replace hh := grd_t hh
    refine TL.v z (OpVal.index z Tryz.underlying24 sz4 z z f0_2.rv.sl u75.1 u75.2) z z (TL.v z (OpVal.loadS1 false z ag4 z f0_2 (by omega) z) z z (TL.v z (OpVal.not z z) z z (TL.en (TC.cB z hh (fun h120 hh => ?_) (fun h120 hh => ?_)))))
    ·refine TC.a (TL.v z (OpVal.moveStr (.inl z) z) z z (TL.v z (OpVal.lenBs z Tryz.underlying9 z) z z (TL.v z (OpVal.moveStr (.inr z) z) z z (TL.a z (.inr z) z z z (TL.b z (.inr z) z z z (TL.a z (.inr z) z z z (TL.en (TC.ofSub (Sub.pre 0 z) (TC.ret ?_)))))))))
     refine S.r ?_
     obtain rfl := so hh
     exact RetOk.mk' (rs := [.tmp 4, .tmp 5, .tmp 6, .tmp 7]) [] z (.inl z) (RVs.tmp z (RVs.tmp z (RVs.tmp z (RVs.tmp z RVs.nil)))) (List.sublist_append_left _ _) ⟨z, z, z⟩
    ·refine TC.skip (S.n (TC.a (TL.v z (OpVal.moveStr (.inl z) z) z z (TL.v z (OpVal.fieldLoc z fo30_4 z) z z (TL.v z (OpVal.loadLoc z ag28 z (i := 0) z z) z z (TL.a z (.inl z) z z z ?_))))))
     have u88 := grd_c hh
     replace hh := grd_t hh
     refine TL.v z (OpVal.index z Tryz.underlying28 sz9 z z f0_3.rv.sl u88.1 u88.2) z z (TL.v z (OpVal.loadS1 ([] : List UInt8) z ag9 z f0_3 (by omega) z) z z ?_)
     have u90 := grd_c hh
     replace hh := grd_t hh
     refine TL.v z (OpVal.catBs z z z u90) z z (TL.v z (OpVal.moveStr (.inl z) z) z z (TL.v z (OpVal.lenBs z Tryz.underlying9 z) z z (TL.v z (OpVal.moveStr (.inr z) z) z z (TL.a z (.inr z) z z z (TL.b z (.inr z) z z z (TL.a z (.inr z) z z z (TL.en (TC.ofSub (Sub.pre 0 z) (TC.ret ?_)))))))))
     obtain rfl := so hh
     exact RetOk.mk' (rs := [.tmp 4, .tmp 5, .tmp 6, .tmp 7]) [] z (.inl z) (RVs.tmp z (RVs.tmp z (RVs.tmp z (RVs.tmp z RVs.nil)))) (List.sublist_append_left _ _) ⟨z, z, z⟩

noncomputable def whittleref24_own_b1 (x0 : List UInt8) (x1 : Int) (l112 : List Span) (k115 : Nat) : Option (((List Span) × Nat) ⊕ ((List Span))) :=
 iteO (decide (((k115 : Nat) : Int) < ((x0.length : Nat) : Int))) (grd ((l112.length + [(⟨IntKind.i64.wrap (x1 + ((k115 : Nat) : Int)), IntKind.i64.wrap ((IntKind.i64.wrap (x1 + ((k115 : Nat) : Int))) + 1)⟩ : Span)].length) * 16 ≤ 140737488355328) (nxt ((l112 ++ [(⟨IntKind.i64.wrap (x1 + ((k115 : Nat) : Int)), IntKind.i64.wrap ((IntKind.i64.wrap (x1 + ((k115 : Nat) : Int))) + 1)⟩ : Span)]), (k115 + 1)))) (fin (some l112))
noncomputable def whittleref24_own (x0 : List UInt8) (x1 : Int) : Option ((List Span)) :=
 grd (x0.length ≤ 281474976710656) (iter (fun q : (List Span) × Nat => whittleref24_own_b1 x0 x1 q.1 q.2) (([] : List Span), 0))
def whittleref24_own_P (σ : Store) (r : (List Span)) : Value → Store → List Res → Prop := fun v σ' H' =>
 ∃ (a1 : Option Addr), ∃ (c1 : Nat),  v = .slice a1 r.length c1 ∧ σ = σ' ∧ H' = [Res.rowS 56 2 encSpan (.slice a1 r.length c1) r]
theorem whittleref24_own_con {σ : Store} {x0 : List UInt8} {x1 : Int}  {r : (List Span)} (hh : whittleref24_own x0 x1 = some r) :
  Con Tryz.prog 36 #[.string (bs x0), .int .i64 x1] σ [] (whittleref24_own_P σ r) := by
 dsimp only [whittleref24_own] at hh
 refine Con.mk (n := 25) Tryz.func36 z z z (fun w0 => ?_)
 have x0b := grd_c hh
 replace hh := grd_t hh
 refine TC.a (TL.sl z (.inr z) z z z (TL.en (TC.a (TL.sl z (.inr z) z z z (TL.en (TC.seq (TC.a (TL.a z (.inr z) z z z (TL.en ?_)))))))))
 refine TC.block (TC.nilS 56 2 encSpan (TC.loopG (α := ((List Span) × Nat) × ((Option Addr) × Nat)) [5, 6, 7, 8, 9, 10, 11, 12, 13, 14, 15, 16, 17, 18, 19, 20, 21, 22, 23] (fun g => [(5, .slice g.2.1 g.1.1.length g.2.2), (6, .int .i64 ((g.1.2 : Nat) : Int))]) (fun g => [Res.rowS 56 2 encSpan (.slice g.2.1 g.1.1.length g.2.2) g.1.1]) (fun g => σ) (fun g => iter (fun q : (List Span) × Nat => whittleref24_own_b1 x0 x1 q.1 q.2) g.1 = some r) (fun g => rounds (fun q : (List Span) × Nat => whittleref24_own_b1 x0 x1 q.1 q.2) g.1) ((([] : List Span), 0), (none, 0)) (Sub.pre 1 z) z (by repeat (first | exact trivial | refine ⟨z, ?_⟩)) hh (fun g1 j1 hg1 => ?_)))
 obtain ⟨⟨l112, k115⟩, ⟨a113, c114⟩⟩ := g1
 have hh := hg1; clear hg1
 show TC _ _ _ (upds (mask _ j1 _) [(5, .slice a113 l112.length c114), (6, .int .i64 ((k115 : Nat) : Int))]) _ [Res.rowS 56 2 encSpan (.slice a113 l112.length c114) l112]
 obtain ⟨z1, hh, hR1⟩ := iter_e hh
 dsimp only [whittleref24_own_b1] at hh
 refine TC.isSl (i := 0) z (fun _ hb117 _ => ?_)
 refine TC.seq (TC.a (TL.a z (.inl z) z z z (TL.v z (OpVal.moveStr (.inl z) z) z z (TL.v z (OpVal.lenBs z Tryz.underlying9 z) z z (TL.v z (OpVal.lss z z z) z z (TL.en (TC.cD z hh (fun h118 hh => ?_) (fun h118 hh => ?_))))))))
 ·refine TC.skip (S.n (TC.seq (TC.block (TC.region (TL.sl z (.inl z) z z z (TL.a z (.inl z) z z z (TL.a z (.inl z) z z z (TL.v z (OpVal.addW z z z) z z (TL.a z (.inl z) z z z ?_)))))))))
  refine TL.a z (.inl z) z z z (TL.v z (OpVal.addW z z z) z z (TL.v z (OpVal.addW z z z) z z (TL.v z (OpVal.buildL z pl56 ze56 z) z z (TL.op z (OpOk.lit (enc := encSpan) [(⟨IntKind.i64.wrap (x1 + ((k115 : Nat) : Int)), IntKind.i64.wrap ((IntKind.i64.wrap (x1 + ((k115 : Nat) : Int))) + 1)⟩ : Span)] z Tryz.underlying34 sz56 ze56 z z z encSpan_len (by decide) (by decide) Span.zero z (by decide) z (by decide) encSpan_one (fun a119 c120 => ?_))))))
  refine TL.front 1 z z ?_
  have u18 := grd_c hh
  replace hh := grd_t hh
  refine TL.op z (OpOk.appendS z z Tryz.underlying34 sz56 by56 ze56 z z (by decide) z z z (.inr ⟨_, 0, z⟩) (by simpa using u18) (by decide) (fun a122 c123 => ?_))
  refine TL.sl z (.inr z) z z z (TL.nil (B.n (S.n (TC.region (TL.a z (.inl z) z z z (TL.v z (OpVal.succ z z z (by omega)) z z (TL.a z (.inr z) z z z (TL.en ?_))))))))
  obtain ⟨hh, hlt124⟩ := nxt_x hR1 hh
  exact lf (((l112 ++ [(⟨IntKind.i64.wrap (x1 + ((k115 : Nat) : Int)), IntKind.i64.wrap ((IntKind.i64.wrap (x1 + ((k115 : Nat) : Int))) + 1)⟩ : Span)]), (k115 + 1)), (a122, c123)) hlt124 hh (Sub.pre 1 z)
 ·refine TC.exit (S.x (S.x ?_))
  replace hh := fin_x hR1 hh
  refine TC.exitHere (S.n (TC.a (TL.sl z (.inl z) z z z (TL.sl z (.inr z) z z z (TL.en (TC.ret ?_))))))
  obtain rfl := so hh
  exact RetOk.mk' (rs := [.tmp 4]) [Res.rowS 56 2 encSpan (.slice a113 l112.length c114) l112] z (.inl z) (RVs.tmp z RVs.nil) (List.sublist_append_left _ _) ⟨a113, c114, z, z, z⟩

noncomputable def whittleref24_Right (x0 : Rule) : Option (Bool) :=
 bnd (whittleref11_Right x0.of) (fun v5 => iteO (!v5) (some false) (bnd (whittleref11_Right x0.left) (fun v10 => iteO (!v10) (some false) (bnd (whittleref11_Right x0.right) (fun v16 => iteO (!v16) (some false) (iteO x0.mapped (bnd (whittleref21_Right x0.by') (fun v24 => iteO v24 (some (decide (x0.out = ([] : List UInt8)))) (some false))) (iteO (decide (((x0.out.length : Nat) : Int) ≤ 256)) (iteO (decide (x0.by'.front = ([] : List UInt8))) (some (decide ((IntKind.i64.wrap ((IntKind.i64.wrap ((IntKind.i64.wrap (((x0.by'.next.length : Nat) : Int) + ((x0.by'.outs.length : Nat) : Int))) + ((x0.by'.fin.length : Nat) : Int))) + ((x0.by'.tail.length : Nat) : Int))) = 0))) (some false)) (some false))))))))
theorem whittleref24_Right_con {σ : Store} {x0 : Rule} {a0_0 : Option Addr} {c0_0 : Nat} {a0_1 : Option Addr} {c0_1 : Nat} {a0_2 : Option Addr} {c0_2 : Nat} {a0_3 : Option Addr} {c0_3 : Nat} {a0_4 : Option Addr} {c0_4 : Nat} {a0_5 : Option Addr} {c0_5 : Nat} {a0_6 : Option Addr} {c0_6 : Nat} {a0_7 : Option Addr} {c0_7 : Nat} {a0_8 : Option Addr} {c0_8 : Nat} {a0_9 : Option Addr} {c0_9 : Nat} {a0_10 : Option Addr} {c0_10 : Nat} {a0_11 : Option Addr} {c0_11 : Nat} {a0_12 : Option Addr} {c0_12 : Nat} (f0_0 : RS σ 1 Go.E.encI (.slice a0_0 x0.of.cls.length c0_0) x0.of.cls) (f0_1 : RZ σ (pkSl 1 Go.E.encI Go.E.encI_len) (.slice a0_1 x0.of.next.length c0_1) x0.of.next) (f0_2 : RS σ 1 encB (.slice a0_2 x0.of.fin.length c0_2) x0.of.fin) (f0_3 : RS σ 1 Go.E.encI (.slice a0_3 x0.left.cls.length c0_3) x0.left.cls) (f0_4 : RZ σ (pkSl 1 Go.E.encI Go.E.encI_len) (.slice a0_4 x0.left.next.length c0_4) x0.left.next) (f0_5 : RS σ 1 encB (.slice a0_5 x0.left.fin.length c0_5) x0.left.fin) (f0_6 : RS σ 1 Go.E.encI (.slice a0_6 x0.right.cls.length c0_6) x0.right.cls) (f0_7 : RZ σ (pkSl 1 Go.E.encI Go.E.encI_len) (.slice a0_7 x0.right.next.length c0_7) x0.right.next) (f0_8 : RS σ 1 encB (.slice a0_8 x0.right.fin.length c0_8) x0.right.fin) (f0_9 : RZ σ (pkSl 1 Go.E.encI Go.E.encI_len) (.slice a0_9 x0.by'.next.length c0_9) x0.by'.next) (f0_10 : RZ σ (pkSl 1 Go.E.encS Go.E.encS_len) (.slice a0_10 x0.by'.outs.length c0_10) x0.by'.outs) (f0_11 : RS σ 1 encB (.slice a0_11 x0.by'.fin.length c0_11) x0.by'.fin) (f0_12 : RS σ 1 Go.E.encS (.slice a0_12 x0.by'.tail.length c0_12) x0.by'.tail) {r : Bool} (hh : whittleref24_Right x0 = some r) :
  Con Tryz.prog 34 #[.agg #[.slice a0_0 x0.of.cls.length c0_0, .slice a0_1 x0.of.next.length c0_1, .slice a0_2 x0.of.fin.length c0_2, .slice a0_3 x0.left.cls.length c0_3, .slice a0_4 x0.left.next.length c0_4, .slice a0_5 x0.left.fin.length c0_5, .slice a0_6 x0.right.cls.length c0_6, .slice a0_7 x0.right.next.length c0_7, .slice a0_8 x0.right.fin.length c0_8, .string (bs x0.out), .bool x0.mapped, .string (bs x0.by'.front), .slice a0_9 x0.by'.next.length c0_9, .slice a0_10 x0.by'.outs.length c0_10, .slice a0_11 x0.by'.fin.length c0_11, .slice a0_12 x0.by'.tail.length c0_12]] σ [] (PureP (.bool r) σ) := by
 dsimp only [whittleref24_Right] at hh
 have f0_0b := f0_0.rv.big
 have f0_1b := f0_1.big
 have f0_2b := f0_2.rv.big
 have f0_3b := f0_3.rv.big
 have f0_4b := f0_4.big
 have f0_5b := f0_5.rv.big
 have f0_6b := f0_6.rv.big
 have f0_7b := f0_7.big
 have f0_8b := f0_8.rv.big
 have f0_9b := f0_9.big
 have f0_10b := f0_10.big
 have f0_11b := f0_11.rv.big
 have f0_12b := f0_12.rv.big
 refine Con.mk (n := 59) Tryz.func34 z z z (fun w0 => ?_)
 refine TC.a (TL.op z (OpOk.boxA z z z z (fun b101 => ?_)))
 refine TL.b z (.inr z) z z z (TL.en (TC.seq (TC.a (TL.v z (OpVal.fieldLoc z fo32_0 z) z z (TL.v z (OpVal.loadLocA z ag26 sz26 z (i := 0) z z z) z z ?_)))))
 obtain ⟨v5, u5, hh⟩ := bnd_e hh
 refine TL.op z (OpOk.callP (whittleref11_Right_con (x0 := x0.of) f0_0 f0_1 f0_2 u5) z z pf66 z z z ?_)
 refine TL.v z (OpVal.not z z) z z (TL.b z (.inl z) z z z (TL.split 8 z (fun h103 => ?_) (fun h103 => ?_)))
 ·replace hh := iteO_t h103 hh
  refine TL.goff z z z z z z z z (TL.goff z z z z z z z z (TL.goff z z z z z z z z (TL.goff z z z z z z z z (TL.v z (OpVal.pickTB z z z) z z (TL.b z (.inl z) z z z (TL.goff z z z z z z z z (TL.goff z z z z z z z z (TL.goff z z z z z z z z (TL.goff z z z z z z z z ?_)))))))))
  refine TL.v z (OpVal.pickTB z z z) z z (TL.en (TC.cond z (fun _ => ?_) (fun h => Bool.noConfusion h)))
  refine TC.a (TL.b z (.inr z) z z z (TL.en (TC.ofSub (Sub.pre 0 z) (TC.ret (S.r ?_)))))
  obtain rfl := so hh
  exact r1 2
 ·replace hh := iteO_f h103 hh
  refine TL.gv z z z z z (OpVal.fieldLoc z fo32_1 z) z z (TL.gv z z z z z (OpVal.loadLocA z ag26 sz26 z (i := 0) z z z) z z ?_)
  obtain ⟨v10, u10, hh⟩ := bnd_e hh
  refine TL.gon z z z z z (OpOk.callP (whittleref11_Right_con (x0 := x0.left) f0_3 f0_4 f0_5 u10) z z pf66 z z z ?_)
  refine TL.gv z z z z z (OpVal.not z z) z z (TL.v z (OpVal.pickFB z z z) z z (TL.b z (.inl z) z z z (TL.split 14 z (fun h104 => ?_) (fun h104 => ?_))))
  ·replace hh := iteO_t h104 hh
   refine TL.goff z z z z z z z z (TL.goff z z z z z z z z (TL.goff z z z z z z z z (TL.goff z z z z z z z z (TL.v z (OpVal.pickTB z z z) z z (TL.en (TC.cond z (fun _ => ?_) (fun h => Bool.noConfusion h)))))))
   refine TC.a (TL.b z (.inr z) z z z (TL.en (TC.ofSub (Sub.pre 0 z) (TC.ret (S.r ?_)))))
   obtain rfl := so hh
   exact r1 2
  ·replace hh := iteO_f h104 hh
   refine TL.gv z z z z z (OpVal.fieldLoc z fo32_2 z) z z (TL.gv z z z z z (OpVal.loadLocA z ag26 sz26 z (i := 0) z z z) z z ?_)
   obtain ⟨v16, u16, hh⟩ := bnd_e hh
   refine TL.gon z z z z z (OpOk.callP (whittleref11_Right_con (x0 := x0.right) f0_6 f0_7 f0_8 u16) z z pf66 z z z ?_)
   refine TL.gv z z z z z (OpVal.not z z) z z (TL.v z (OpVal.pickFB z z z) z z (TL.en (TC.cB z hh (fun h105 hh => ?_) (fun h105 hh => ?_))))
   ·refine TC.a (TL.b z (.inr z) z z z (TL.en (TC.ofSub (Sub.pre 0 z) (TC.ret (S.r ?_)))))
    obtain rfl := so hh
    exact r1 2
   ·refine TC.skip (S.n (TC.seq (TC.a (TL.v z (OpVal.fieldLoc z fo32_4 z) z z (TL.v z (OpVal.loadLoc z ag4 z (i := 0) z z) z z (TL.en (TC.cB z hh (fun h106 hh => ?_) (fun h106 hh => ?_))))))))
    ·refine TC.a (TL.v z (OpVal.fieldLoc z fo32_5 z) z z (TL.v z (OpVal.loadLocA z ag30 sz30 z (i := 0) z z z) z z ?_))
     obtain ⟨v24, u24, hh⟩ := bnd_e hh
     refine TL.op z (OpOk.callP (whittleref21_Right_con (x0 := x0.by') f0_9 f0_10 f0_11 f0_12 u24) z z pf67 z z z ?_)
     refine TL.b z (.inl z) z z z (TL.split 25 z (fun h107 => ?_) (fun h107 => ?_))
     ·replace hh := iteO_t h107 hh
      refine TL.gv z z z z z (OpVal.fieldLoc z fo32_3 z) z z (TL.gv z z z z z (OpVal.loadLoc z ag9 z (i := 0) z z) z z (TL.gv z z z z z (OpVal.eqlBs z z z) z z (TL.v z (OpVal.pickTB z z z) z z (TL.b z (.inr z) z z z (TL.en (TC.ofSub (Sub.pre 0 z) (TC.ret (S.r ?_))))))))
      obtain rfl := so hh
      exact r1 2
     ·replace hh := iteO_f h107 hh
      refine TL.goff z z z z z z z z (TL.goff z z z z z z z z (TL.goff z z z z z z z z (TL.v z (OpVal.pickFB z z z) z z (TL.b z (.inr z) z z z (TL.en (TC.ofSub (Sub.pre 0 z) (TC.ret (S.r ?_))))))))
      obtain rfl := so hh
      exact r1 2
    ·refine TC.skip (S.n (TC.a (TL.v z (OpVal.fieldLoc z fo32_5 z) z z (TL.v z (OpVal.loadLocA z ag30 sz30 z (i := 0) z z z) z z (TL.op z (OpOk.alloc z ze30 z z (fun b108 => ?_)))))))
     refine TL.op z (OpOk.storeAll z sz30 z z z z z z ?_)
     refine TL.en (TC.a (TL.v z (OpVal.fieldLoc z fo32_3 z) z z (TL.v z (OpVal.loadLoc z ag9 z (i := 1) z z) z z (TL.v z (OpVal.lenBs z Tryz.underlying9 z) z z (TL.v z (OpVal.leq z z z) z z (TL.b z (.inl z) z z z (TL.split 36 z (fun h110 => ?_) (fun h110 => ?_))))))))
     ·replace hh := iteO_t h110 hh
      replace h110 := of_decide_eq_true h110
      refine TL.gv z z z z z (OpVal.fieldLoc z fo30_0 z) z z (TL.gv z z z z z (OpVal.loadLoc z ag9 z (i := 0) z z) z z (TL.gv z z z z z (OpVal.eqlBs z z z) z z (TL.v z (OpVal.pickTB z z z) z z (TL.b z (.inl z) z z z (TL.split 41 z (fun h111 => ?_) (fun h111 => ?_))))))
      ·replace hh := iteO_t h111 hh
       replace h111 := of_decide_eq_true h111
       refine TL.gv z z z z z (OpVal.fieldLoc z fo30_1 z) z z (TL.gv z z z z z (OpVal.loadLoc z ag23 z (i := 0) z z) z z (TL.gv z z z z z (OpVal.lenC z Tryz.underlying23 z) z z (TL.gv z z z z z (OpVal.fieldLoc z fo30_2 z) z z (TL.gv z z z z z (OpVal.loadLoc z ag27 z (i := 0) z z) z z (TL.gv z z z z z (OpVal.lenC z Tryz.underlying27 z) z z (TL.gv z z z z z (OpVal.addW z z z) z z (TL.gv z z z z z (OpVal.fieldLoc z fo30_3 z) z z (TL.gv z z z z z (OpVal.loadLoc z ag24 z (i := 0) z z) z z (TL.gv z z z z z (OpVal.lenC z Tryz.underlying24 z) z z ?_)))))))))
       refine TL.gv z z z z z (OpVal.addW z z z) z z (TL.gv z z z z z (OpVal.fieldLoc z fo30_4 z) z z (TL.gv z z z z z (OpVal.loadLoc z ag28 z (i := 0) z z) z z (TL.gv z z z z z (OpVal.lenC z Tryz.underlying28 z) z z (TL.gv z z z z z (OpVal.addW z z z) z z (TL.gv z z z z z (OpVal.eql z z z) z z (TL.v z (OpVal.pickTB z z z) z z (TL.b z (.inr z) z z z (TL.en (TC.ofSub (Sub.pre 0 z) ?_)))))))))
       refine TC.ret ?_
       obtain rfl := so hh
       exact r1 2
      ·replace hh := iteO_f h111 hh
       replace h111 := of_decide_eq_false h111
       refine TL.goff z z z z z z z z (TL.goff z z z z z z z z (TL.goff z z z z z z z z (TL.goff z z z z z z z z (TL.goff z z z z z z z z (TL.goff z z z z z z z z (TL.goff z z z z z z z z (TL.goff z z z z z z z z (TL.goff z z z z z z z z (TL.goff z z z z z z z z ?_)))))))))
       refine TL.goff z z z z z z z z (TL.goff z z z z z z z z (TL.goff z z z z z z z z (TL.goff z z z z z z z z (TL.goff z z z z z z z z (TL.goff z z z z z z z z (TL.v z (OpVal.pickFB z z z) z z (TL.b z (.inr z) z z z (TL.en (TC.ofSub (Sub.pre 0 z) ?_)))))))))
       refine TC.ret ?_
       obtain rfl := so hh
       exact r1 2
     ·replace hh := iteO_f h110 hh
      replace h110 := of_decide_eq_false h110
      refine TL.goff z z z z z z z z (TL.goff z z z z z z z z (TL.goff z z z z z z z z (TL.v z (OpVal.pickFB z z z) z z (TL.b z (.inl z) z z z (TL.goff z z z z z z z z (TL.goff z z z z z z z z (TL.goff z z z z z z z z (TL.goff z z z z z z z z (TL.goff z z z z z z z z ?_)))))))))
      refine TL.goff z z z z z z z z (TL.goff z z z z z z z z (TL.goff z z z z z z z z (TL.goff z z z z z z z z (TL.goff z z z z z z z z (TL.goff z z z z z z z z (TL.goff z z z z z z z z (TL.goff z z z z z z z z (TL.goff z z z z z z z z (TL.goff z z z z z z z z ?_)))))))))
      refine TL.goff z z z z z z z z (TL.v z (OpVal.pickFB z z z) z z (TL.b z (.inr z) z z z (TL.en (TC.ofSub (Sub.pre 0 z) (TC.ret ?_)))))
      obtain rfl := so hh
      exact r1 2

noncomputable def whittleref24_Check (x0 : Rule) : Option (Int) :=
 bnd (whittleref24_Right x0) (fun v4 => iteO (!v4) (some 1) (some 0))
theorem whittleref24_Check_con {σ : Store} {x0 : Rule} {a0_0 : Option Addr} {c0_0 : Nat} {a0_1 : Option Addr} {c0_1 : Nat} {a0_2 : Option Addr} {c0_2 : Nat} {a0_3 : Option Addr} {c0_3 : Nat} {a0_4 : Option Addr} {c0_4 : Nat} {a0_5 : Option Addr} {c0_5 : Nat} {a0_6 : Option Addr} {c0_6 : Nat} {a0_7 : Option Addr} {c0_7 : Nat} {a0_8 : Option Addr} {c0_8 : Nat} {a0_9 : Option Addr} {c0_9 : Nat} {a0_10 : Option Addr} {c0_10 : Nat} {a0_11 : Option Addr} {c0_11 : Nat} {a0_12 : Option Addr} {c0_12 : Nat} (f0_0 : RS σ 1 Go.E.encI (.slice a0_0 x0.of.cls.length c0_0) x0.of.cls) (f0_1 : RZ σ (pkSl 1 Go.E.encI Go.E.encI_len) (.slice a0_1 x0.of.next.length c0_1) x0.of.next) (f0_2 : RS σ 1 encB (.slice a0_2 x0.of.fin.length c0_2) x0.of.fin) (f0_3 : RS σ 1 Go.E.encI (.slice a0_3 x0.left.cls.length c0_3) x0.left.cls) (f0_4 : RZ σ (pkSl 1 Go.E.encI Go.E.encI_len) (.slice a0_4 x0.left.next.length c0_4) x0.left.next) (f0_5 : RS σ 1 encB (.slice a0_5 x0.left.fin.length c0_5) x0.left.fin) (f0_6 : RS σ 1 Go.E.encI (.slice a0_6 x0.right.cls.length c0_6) x0.right.cls) (f0_7 : RZ σ (pkSl 1 Go.E.encI Go.E.encI_len) (.slice a0_7 x0.right.next.length c0_7) x0.right.next) (f0_8 : RS σ 1 encB (.slice a0_8 x0.right.fin.length c0_8) x0.right.fin) (f0_9 : RZ σ (pkSl 1 Go.E.encI Go.E.encI_len) (.slice a0_9 x0.by'.next.length c0_9) x0.by'.next) (f0_10 : RZ σ (pkSl 1 Go.E.encS Go.E.encS_len) (.slice a0_10 x0.by'.outs.length c0_10) x0.by'.outs) (f0_11 : RS σ 1 encB (.slice a0_11 x0.by'.fin.length c0_11) x0.by'.fin) (f0_12 : RS σ 1 Go.E.encS (.slice a0_12 x0.by'.tail.length c0_12) x0.by'.tail) {r : Int} (hh : whittleref24_Check x0 = some r) :
  Con Tryz.prog 14 #[.agg #[.slice a0_0 x0.of.cls.length c0_0, .slice a0_1 x0.of.next.length c0_1, .slice a0_2 x0.of.fin.length c0_2, .slice a0_3 x0.left.cls.length c0_3, .slice a0_4 x0.left.next.length c0_4, .slice a0_5 x0.left.fin.length c0_5, .slice a0_6 x0.right.cls.length c0_6, .slice a0_7 x0.right.next.length c0_7, .slice a0_8 x0.right.fin.length c0_8, .string (bs x0.out), .bool x0.mapped, .string (bs x0.by'.front), .slice a0_9 x0.by'.next.length c0_9, .slice a0_10 x0.by'.outs.length c0_10, .slice a0_11 x0.by'.fin.length c0_11, .slice a0_12 x0.by'.tail.length c0_12]] σ [] (PureP (.int .i64 r) σ) := by
 dsimp only [whittleref24_Check] at hh
 have f0_0b := f0_0.rv.big
 have f0_1b := f0_1.big
 have f0_2b := f0_2.rv.big
 have f0_3b := f0_3.rv.big
 have f0_4b := f0_4.big
 have f0_5b := f0_5.rv.big
 have f0_6b := f0_6.rv.big
 have f0_7b := f0_7.big
 have f0_8b := f0_8.rv.big
 have f0_9b := f0_9.big
 have f0_10b := f0_10.big
 have f0_11b := f0_11.rv.big
 have f0_12b := f0_12.rv.big
 refine Con.mk (n := 6) Tryz.func14 z z z (fun w0 => ?_)
 refine TC.a (TL.op z (OpOk.boxA z z z z (fun b101 => ?_)))
 refine TL.a z (.inr z) z z z (TL.en (TC.seq (TC.a (TL.v z (OpVal.loadAll z ag32 sz32 z (i := 0) z z) z z ?_))))
 obtain ⟨v4, u4, hh⟩ := bnd_e hh
 refine TL.op z (OpOk.callP (whittleref24_Right_con (x0 := x0) f0_0 f0_1 f0_2 f0_3 f0_4 f0_5 f0_6 f0_7 f0_8 f0_9 f0_10 f0_11 f0_12 u4) z z pf34 z z z ?_)
 refine TL.v z (OpVal.not z z) z z (TL.en (TC.cB z hh (fun h103 hh => ?_) (fun h103 hh => ?_)))
 ·refine TC.a (TL.a z (.inr z) z z z (TL.en (TC.ofSub (Sub.pre 0 z) (TC.ret (S.r ?_)))))
  obtain rfl := so hh
  exact r1 2
 ·refine TC.skip (S.n (TC.a (TL.a z (.inr z) z z z (TL.en (TC.ofSub (Sub.pre 0 z) (TC.ret ?_))))))
  obtain rfl := so hh
  exact r1 2

noncomputable def whittleref24_Plain (x0 : List UInt8) : Option (Piece × Int) :=
 grd (x0.length ≤ 281474976710656) (iteO (decide (4096 < ((x0.length : Nat) : Int))) (some ((⟨([] : List UInt8), ([] : List Span)⟩ : Piece), 2)) (bnd (whittleref24_own x0 0) (fun v11 => some ((⟨x0, v11⟩ : Piece), 0))))
def whittleref24_Plain_P (σ : Store) (r : Piece × Int) : Value → Store → List Res → Prop := fun v σ' H' =>
 ∃ (a1 : Option Addr), ∃ (c1 : Nat),  v = .tuple #[.agg #[.string (bs r.1.text), .slice a1 r.1.at'.length c1], .int .i64 r.2] ∧ RS σ' 2 encSpan (.slice a1 r.1.at'.length c1) r.1.at' ∧ H' = []
theorem whittleref24_Plain_con {σ : Store} {x0 : List UInt8}  {r : Piece × Int} (hh : whittleref24_Plain x0 = some r) :
  Con Tryz.prog 11 #[.string (bs x0)] σ [] (whittleref24_Plain_P σ r) := by
 dsimp only [whittleref24_Plain] at hh
 refine Con.mk (n := 12) Tryz.func11 z z z (fun w0 => ?_)
 have x0b := grd_c hh
 replace hh := grd_t hh
 refine TC.a (TL.op z (OpOk.alloc z ze36 z z (fun b101 => ?_)))
 refine TL.a z (.inr z) z z z (TL.en (TC.seq (TC.a (TL.v z (OpVal.moveStr (.inl z) z) z z (TL.v z (OpVal.lenBs z Tryz.underlying9 z) z z (TL.v z (OpVal.gtr z z z) z z (TL.en (TC.cD z hh (fun h103 hh => ?_) (fun h103 hh => ?_)))))))))
 ·refine TC.a (TL.v z (OpVal.buildL z pl36 ze36 z) z z (TL.op z (OpOk.storeAll z sz36 z z z z z z ?_)))
  refine TL.a z (.inr z) z z z (TL.en (TC.ret (S.r ?_)))
  obtain rfl := so hh
  exact RetOk.mk' (rs := [.cell 2 36, .tmp 3]) [] z (.inl z) (RVs.agg ag36 sz36 z (i := 0) z z (RVs.tmp z RVs.nil)) (List.sublist_append_left _ _) ⟨none, 0, z, (RS.nilF _ encSpan encSpan_len), z⟩
 ·refine TC.skip (S.n (TC.a (TL.v z (OpVal.moveStr (.inl z) z) z z (TL.v z (OpVal.moveStr (.inl z) z) z z ?_))))
  obtain ⟨v11, u11, hh⟩ := bnd_e hh
  refine TL.op z (OpOk.call (whittleref24_own_con u11) z z pf36 z z z z ?_)
  rintro _ _ _ hle104 ⟨a104_1, c104_1, rfl, rfl, rfl⟩
  refine TL.v z (OpVal.buildL z pl36 ze36 z) z z (TL.front 1 z z (TL.op z (OpOk.storeAll z sz36 z z z z z z ?_)))
  refine TL.a z (.inr z) z z z (TL.en (TC.front 1 z z (TC.sealS encSpan_len (fun τ108 hle107 hr106 => ?_))))
  have hr106b := hr106.rv.big
  refine TC.ret ?_
  obtain rfl := so hh
  exact RetOk.mk' (rs := [.cell 2 36, .tmp 3]) [] z (.inl z) (RVs.agg ag36 sz36 z (i := 0) z z (RVs.tmp z RVs.nil)) (List.sublist_append_left _ _) ⟨a104_1, c104_1, z, hr106, z⟩

noncomputable def whittleref24_becomes (x0 : Rule) (x1 : List UInt8) : Option ((List UInt8) × Bool) :=
 grd (x1.length ≤ 281474976710656) (iteO (!x0.mapped) (some (x0.out, false)) (bnd (whittleref21_Apply x0.by' x1) (fun v14 => iteO (!v14.2.2.1) (some (x1, true)) (some (v14.1, false)))))
theorem whittleref24_becomes_con {σ : Store} {x0 : Rule} {a0_0 : Option Addr} {c0_0 : Nat} {a0_1 : Option Addr} {c0_1 : Nat} {a0_2 : Option Addr} {c0_2 : Nat} {a0_3 : Option Addr} {c0_3 : Nat} {a0_4 : Option Addr} {c0_4 : Nat} {a0_5 : Option Addr} {c0_5 : Nat} {a0_6 : Option Addr} {c0_6 : Nat} {a0_7 : Option Addr} {c0_7 : Nat} {a0_8 : Option Addr} {c0_8 : Nat} {a0_9 : Option Addr} {c0_9 : Nat} {a0_10 : Option Addr} {c0_10 : Nat} {a0_11 : Option Addr} {c0_11 : Nat} {a0_12 : Option Addr} {c0_12 : Nat} {x1 : List UInt8} (f0_0 : RS σ 1 Go.E.encI (.slice a0_0 x0.of.cls.length c0_0) x0.of.cls) (f0_1 : RZ σ (pkSl 1 Go.E.encI Go.E.encI_len) (.slice a0_1 x0.of.next.length c0_1) x0.of.next) (f0_2 : RS σ 1 encB (.slice a0_2 x0.of.fin.length c0_2) x0.of.fin) (f0_3 : RS σ 1 Go.E.encI (.slice a0_3 x0.left.cls.length c0_3) x0.left.cls) (f0_4 : RZ σ (pkSl 1 Go.E.encI Go.E.encI_len) (.slice a0_4 x0.left.next.length c0_4) x0.left.next) (f0_5 : RS σ 1 encB (.slice a0_5 x0.left.fin.length c0_5) x0.left.fin) (f0_6 : RS σ 1 Go.E.encI (.slice a0_6 x0.right.cls.length c0_6) x0.right.cls) (f0_7 : RZ σ (pkSl 1 Go.E.encI Go.E.encI_len) (.slice a0_7 x0.right.next.length c0_7) x0.right.next) (f0_8 : RS σ 1 encB (.slice a0_8 x0.right.fin.length c0_8) x0.right.fin) (f0_9 : RZ σ (pkSl 1 Go.E.encI Go.E.encI_len) (.slice a0_9 x0.by'.next.length c0_9) x0.by'.next) (f0_10 : RZ σ (pkSl 1 Go.E.encS Go.E.encS_len) (.slice a0_10 x0.by'.outs.length c0_10) x0.by'.outs) (f0_11 : RS σ 1 encB (.slice a0_11 x0.by'.fin.length c0_11) x0.by'.fin) (f0_12 : RS σ 1 Go.E.encS (.slice a0_12 x0.by'.tail.length c0_12) x0.by'.tail) {r : (List UInt8) × Bool} (hh : whittleref24_becomes x0 x1 = some r) :
  Con Tryz.prog 37 #[.agg #[.slice a0_0 x0.of.cls.length c0_0, .slice a0_1 x0.of.next.length c0_1, .slice a0_2 x0.of.fin.length c0_2, .slice a0_3 x0.left.cls.length c0_3, .slice a0_4 x0.left.next.length c0_4, .slice a0_5 x0.left.fin.length c0_5, .slice a0_6 x0.right.cls.length c0_6, .slice a0_7 x0.right.next.length c0_7, .slice a0_8 x0.right.fin.length c0_8, .string (bs x0.out), .bool x0.mapped, .string (bs x0.by'.front), .slice a0_9 x0.by'.next.length c0_9, .slice a0_10 x0.by'.outs.length c0_10, .slice a0_11 x0.by'.fin.length c0_11, .slice a0_12 x0.by'.tail.length c0_12], .string (bs x1)] σ [] (PureP (.tuple #[.string (bs r.1), .bool r.2]) σ) := by
 dsimp only [whittleref24_becomes] at hh
 have f0_0b := f0_0.rv.big
 have f0_1b := f0_1.big
 have f0_2b := f0_2.rv.big
 have f0_3b := f0_3.rv.big
 have f0_4b := f0_4.big
 have f0_5b := f0_5.rv.big
 have f0_6b := f0_6.rv.big
 have f0_7b := f0_7.big
 have f0_8b := f0_8.rv.big
 have f0_9b := f0_9.big
 have f0_10b := f0_10.big
 have f0_11b := f0_11.rv.big
 have f0_12b := f0_12.rv.big
 refine Con.mk (n := 28) Tryz.func37 z z z (fun w0 => ?_)
 have x1b := grd_c hh
 replace hh := grd_t hh
 refine TC.a (TL.op z (OpOk.boxA z z z z (fun b101 => ?_)))
 refine TL.v z (OpVal.moveStr (.inr z) z) z z (TL.b z (.inr z) z z z (TL.en (TC.seq (TC.a (TL.v z (OpVal.fieldLoc z fo32_4 z) z z (TL.v z (OpVal.loadLoc z ag4 z (i := 0) z z) z z (TL.v z (OpVal.not z z) z z (TL.en (TC.cB z hh (fun h103 hh => ?_) (fun h103 hh => ?_))))))))))
 ·refine TC.a (TL.v z (OpVal.fieldLoc z fo32_3 z) z z (TL.v z (OpVal.loadLoc z ag9 z (i := 0) z z) z z (TL.v z (OpVal.moveStr (.inr z) z) z z (TL.b z (.inr z) z z z (TL.en (TC.ofSub (Sub.pre 0 z) (TC.ret (S.r ?_))))))))
  obtain rfl := so hh
  exact RetOk.mk' (rs := [.tmp 4, .tmp 5]) [] z (.inl z) (RVs.tmp z (RVs.tmp z RVs.nil)) (List.sublist_append_left _ _) ⟨z, z, z⟩
 ·refine TC.skip (S.n (TC.a (TL.v z (OpVal.fieldLoc z fo32_5 z) z z (TL.v z (OpVal.loadLocA z ag30 sz30 z (i := 0) z z z) z z (TL.v z (OpVal.moveStr (.inl z) z) z z ?_)))))
  obtain ⟨v14, u14, hh⟩ := bnd_e hh
  refine TL.op z (OpOk.callP (whittleref21_Apply_con (x0 := x0.by') f0_9 f0_10 f0_11 f0_12 u14) z z pf71 z z z ?_)
  refine TL.v z (OpVal.moveT (.inl z) z) z z (TL.v z (OpVal.extract z z z) z z (TL.v z (OpVal.extract z z z) z z (TL.v z (OpVal.extract z z z) z z (TL.v z (OpVal.extract z z z) z z (TL.v z (OpVal.moveStr (.inr z) z) z z (TL.a z (.inr z) z z z (TL.b z (.inr z) z z z (TL.a z (.inr z) z z z (TL.en ?_)))))))))
  refine TC.seq (TC.a (TL.b z (.inl z) z z z (TL.v z (OpVal.not z z) z z (TL.en (TC.cB z hh (fun h104 hh => ?_) (fun h104 hh => ?_))))))
  ·refine TC.a (TL.v z (OpVal.moveStr (.inl z) z) z z (TL.v z (OpVal.moveStr (.inr z) z) z z (TL.b z (.inr z) z z z (TL.en (TC.ofSub (Sub.pre 0 z) (TC.ret (S.r ?_)))))))
   obtain rfl := so hh
   exact RetOk.mk' (rs := [.tmp 4, .tmp 5]) [] z (.inl z) (RVs.tmp z (RVs.tmp z RVs.nil)) (List.sublist_append_left _ _) ⟨z, z, z⟩
  ·refine TC.skip (S.n (TC.a (TL.v z (OpVal.moveStr (.inl z) z) z z (TL.v z (OpVal.moveStr (.inr z) z) z z (TL.b z (.inr z) z z z (TL.en (TC.ofSub (Sub.pre 0 z) (TC.ret ?_))))))))
   obtain rfl := so hh
   exact RetOk.mk' (rs := [.tmp 4, .tmp 5]) [] z (.inl z) (RVs.tmp z (RVs.tmp z RVs.nil)) (List.sublist_append_left _ _) ⟨z, z, z⟩

noncomputable def whittleref24_Turn_j1 (k155 : Nat) (l158 : List Span) : Option (((List Span) × Nat) ⊕ (((List UInt8) × (List Span) × Int × Nat) ⊕ (Piece × Int))) :=
 nxt (l158, (k155 + 1))
noncomputable def whittleref24_Turn_b2 (v73 : (List UInt8) × Bool) (v17 : (List Span) × Int) (k130 : Nat) (s124 : List UInt8) (x1 : List UInt8) (i129 : Int) (l152 : List Span) (k155 : Nat) : Option (((List Span) × Nat) ⊕ (((List UInt8) × (List Span) × Int × Nat) ⊕ (Piece × Int))) :=
 iteO (decide (((k155 : Nat) : Int) < ((v73.1.length : Nat) : Int))) (iteO v73.2 (grd ((l152.length + [(⟨IntKind.i64.wrap (((nth v17.1 k130 Span.zero).frm) + ((k155 : Nat) : Int)), IntKind.i64.wrap ((IntKind.i64.wrap (((nth v17.1 k130 Span.zero).frm) + ((k155 : Nat) : Int))) + 1)⟩ : Span)].length) * 16 ≤ 140737488355328) (whittleref24_Turn_j1 k155 (l152 ++ [(⟨IntKind.i64.wrap (((nth v17.1 k130 Span.zero).frm) + ((k155 : Nat) : Int)), IntKind.i64.wrap ((IntKind.i64.wrap (((nth v17.1 k130 Span.zero).frm) + ((k155 : Nat) : Int))) + 1)⟩ : Span)]))) (grd ((l152.length + [(nth v17.1 k130 Span.zero)].length) * 16 ≤ 140737488355328) (whittleref24_Turn_j1 k155 (l152 ++ [(nth v17.1 k130 Span.zero)])))) (fin (nxt (((s124 ++ ((x1.take (((nth v17.1 k130 Span.zero).frm).toNat)).drop i129.toNat)) ++ v73.1), l152, ((nth v17.1 k130 Span.zero).to), (k130 + 1))))
noncomputable def whittleref24_Turn_b1 (v17 : (List Span) × Int) (x1 : List UInt8) (x0 : Rule) (s124 : List UInt8) (l126 : List Span) (i129 : Int) (k130 : Nat) : Option (((List UInt8) × (List Span) × Int × Nat) ⊕ (Piece × Int)) :=
 iteO (decide (((k130 : Nat) : Int) < ((v17.1.length : Nat) : Int))) (grd (0 ≤ i129 ∧ 0 ≤ ((nth v17.1 k130 Span.zero).frm) ∧ i129.toNat ≤ ((nth v17.1 k130 Span.zero).frm).toNat ∧ ((nth v17.1 k130 Span.zero).frm).toNat ≤ x1.length) (grd (s124.length + ((x1.take (((nth v17.1 k130 Span.zero).frm).toNat)).drop i129.toNat).length ≤ 9223372036854775807) (grd (0 ≤ i129 ∧ 0 ≤ ((nth v17.1 k130 Span.zero).frm) ∧ i129.toNat ≤ ((nth v17.1 k130 Span.zero).frm).toNat ∧ ((nth v17.1 k130 Span.zero).frm).toNat ≤ x1.length) (bnd (whittleref24_own ((x1.take (((nth v17.1 k130 Span.zero).frm).toNat)).drop i129.toNat) i129) (fun v62 => grd ((l126.length + v62.length) * 16 ≤ 140737488355328) (grd (0 ≤ ((nth v17.1 k130 Span.zero).frm) ∧ 0 ≤ ((nth v17.1 k130 Span.zero).to) ∧ ((nth v17.1 k130 Span.zero).frm).toNat ≤ ((nth v17.1 k130 Span.zero).to).toNat ∧ ((nth v17.1 k130 Span.zero).to).toNat ≤ x1.length) (bnd (whittleref24_becomes x0 ((x1.take (((nth v17.1 k130 Span.zero).to).toNat)).drop (((nth v17.1 k130 Span.zero).frm).toNat))) (fun v73 => grd ((s124 ++ ((x1.take (((nth v17.1 k130 Span.zero).frm).toNat)).drop i129.toNat)).length + v73.1.length ≤ 9223372036854775807) (iter (fun q : (List Span) × Nat => whittleref24_Turn_b2 v73 v17 k130 s124 x1 i129 q.1 q.2) ((l126 ++ v62), 0)))))))))) (fin (grd (0 ≤ i129 ∧ i129.toNat ≤ x1.length ∧ x1.length ≤ x1.length) (grd (s124.length + (x1.drop i129.toNat).length ≤ 9223372036854775807) (grd (0 ≤ i129 ∧ i129.toNat ≤ x1.length ∧ x1.length ≤ x1.length) (bnd (whittleref24_own (x1.drop i129.toNat) i129) (fun v137 => grd ((l126.length + v137.length) * 16 ≤ 140737488355328) (iteO (decide (4096 < (((s124 ++ (x1.drop i129.toNat)).length : Nat) : Int))) (some ((⟨([] : List UInt8), ([] : List Span)⟩ : Piece), 2)) (some ((⟨(s124 ++ (x1.drop i129.toNat)), (l126 ++ v137)⟩ : Piece), 0)))))))))
noncomputable def whittleref24_Turn (x0 : Rule) (x1 : List UInt8) : Option (Piece × Int) :=
 grd (x1.length ≤ 281474976710656) (bnd (whittleref24_Right x0) (fun v5 => iteO (!v5) (some ((⟨([] : List UInt8), ([] : List Span)⟩ : Piece), 1)) (bnd (whittleref23_Factors x0.of x0.left x0.right x1) (fun v17 => iteO (decide (v17.2 ≠ 0)) (some ((⟨([] : List UInt8), ([] : List Span)⟩ : Piece), v17.2)) (iter (fun q : (List UInt8) × (List Span) × Int × Nat => whittleref24_Turn_b1 v17 x1 x0 q.1 q.2.1 q.2.2.1 q.2.2.2) (([] : List UInt8), ([] : List Span), 0, 0))))))
def whittleref24_Turn_P (σ : Store) (r : Piece × Int) : Value → Store → List Res → Prop := fun v σ' H' =>
 ∃ (a1 : Option Addr), ∃ (c1 : Nat),  v = .tuple #[.agg #[.string (bs r.1.text), .slice a1 r.1.at'.length c1], .int .i64 r.2] ∧ RS σ' 2 encSpan (.slice a1 r.1.at'.length c1) r.1.at' ∧ H' = []
theorem whittleref24_Turn_con {σ : Store} {x0 : Rule} {a0_0 : Option Addr} {c0_0 : Nat} {a0_1 : Option Addr} {c0_1 : Nat} {a0_2 : Option Addr} {c0_2 : Nat} {a0_3 : Option Addr} {c0_3 : Nat} {a0_4 : Option Addr} {c0_4 : Nat} {a0_5 : Option Addr} {c0_5 : Nat} {a0_6 : Option Addr} {c0_6 : Nat} {a0_7 : Option Addr} {c0_7 : Nat} {a0_8 : Option Addr} {c0_8 : Nat} {a0_9 : Option Addr} {c0_9 : Nat} {a0_10 : Option Addr} {c0_10 : Nat} {a0_11 : Option Addr} {c0_11 : Nat} {a0_12 : Option Addr} {c0_12 : Nat} {x1 : List UInt8} (f0_0 : RS σ 1 Go.E.encI (.slice a0_0 x0.of.cls.length c0_0) x0.of.cls) (f0_1 : RZ σ (pkSl 1 Go.E.encI Go.E.encI_len) (.slice a0_1 x0.of.next.length c0_1) x0.of.next) (f0_2 : RS σ 1 encB (.slice a0_2 x0.of.fin.length c0_2) x0.of.fin) (f0_3 : RS σ 1 Go.E.encI (.slice a0_3 x0.left.cls.length c0_3) x0.left.cls) (f0_4 : RZ σ (pkSl 1 Go.E.encI Go.E.encI_len) (.slice a0_4 x0.left.next.length c0_4) x0.left.next) (f0_5 : RS σ 1 encB (.slice a0_5 x0.left.fin.length c0_5) x0.left.fin) (f0_6 : RS σ 1 Go.E.encI (.slice a0_6 x0.right.cls.length c0_6) x0.right.cls) (f0_7 : RZ σ (pkSl 1 Go.E.encI Go.E.encI_len) (.slice a0_7 x0.right.next.length c0_7) x0.right.next) (f0_8 : RS σ 1 encB (.slice a0_8 x0.right.fin.length c0_8) x0.right.fin) (f0_9 : RZ σ (pkSl 1 Go.E.encI Go.E.encI_len) (.slice a0_9 x0.by'.next.length c0_9) x0.by'.next) (f0_10 : RZ σ (pkSl 1 Go.E.encS Go.E.encS_len) (.slice a0_10 x0.by'.outs.length c0_10) x0.by'.outs) (f0_11 : RS σ 1 encB (.slice a0_11 x0.by'.fin.length c0_11) x0.by'.fin) (f0_12 : RS σ 1 Go.E.encS (.slice a0_12 x0.by'.tail.length c0_12) x0.by'.tail) {r : Piece × Int} (hh : whittleref24_Turn x0 x1 = some r) :
  Con Tryz.prog 9 #[.agg #[.slice a0_0 x0.of.cls.length c0_0, .slice a0_1 x0.of.next.length c0_1, .slice a0_2 x0.of.fin.length c0_2, .slice a0_3 x0.left.cls.length c0_3, .slice a0_4 x0.left.next.length c0_4, .slice a0_5 x0.left.fin.length c0_5, .slice a0_6 x0.right.cls.length c0_6, .slice a0_7 x0.right.next.length c0_7, .slice a0_8 x0.right.fin.length c0_8, .string (bs x0.out), .bool x0.mapped, .string (bs x0.by'.front), .slice a0_9 x0.by'.next.length c0_9, .slice a0_10 x0.by'.outs.length c0_10, .slice a0_11 x0.by'.fin.length c0_11, .slice a0_12 x0.by'.tail.length c0_12], .string (bs x1)] σ [] (whittleref24_Turn_P σ r) := by
 dsimp only [whittleref24_Turn] at hh
 have f0_0b := f0_0.rv.big
 have f0_1b := f0_1.big
 have f0_2b := f0_2.rv.big
 have f0_3b := f0_3.rv.big
 have f0_4b := f0_4.big
 have f0_5b := f0_5.rv.big
 have f0_6b := f0_6.rv.big
 have f0_7b := f0_7.big
 have f0_8b := f0_8.rv.big
 have f0_9b := f0_9.big
 have f0_10b := f0_10.big
 have f0_11b := f0_11.rv.big
 have f0_12b := f0_12.rv.big
 refine Con.mk (n := 133) Tryz.func9 z z z (fun w0 => ?_)
 have x1b := grd_c hh
 replace hh := grd_t hh
 refine TC.a (TL.op z (OpOk.boxA z z z z (fun b101 => ?_)))
 refine TL.op z (OpOk.alloc z ze36 z z (fun b103 => ?_))
 refine TL.a z (.inr z) z z z (TL.en (TC.seq (TC.a (TL.v z (OpVal.loadAll z ag32 sz32 z (i := 1) z z) z z ?_))))
 obtain ⟨v5, u5, hh⟩ := bnd_e hh
 refine TL.op z (OpOk.callP (whittleref24_Right_con (x0 := x0) f0_0 f0_1 f0_2 f0_3 f0_4 f0_5 f0_6 f0_7 f0_8 f0_9 f0_10 f0_11 f0_12 u5) z z pf34 z z z ?_)
 refine TL.v z (OpVal.not z z) z z (TL.en (TC.cB z hh (fun h105 hh => ?_) (fun h105 hh => ?_)))
 ·refine TC.a (TL.v z (OpVal.buildL z pl36 ze36 z) z z (TL.op z (OpOk.storeAll z sz36 z z z z z z ?_)))
  refine TL.a z (.inr z) z z z (TL.en (TC.ofSub (Sub.pre 1 z) (TC.ret (S.r ?_))))
  obtain rfl := so hh
  exact RetOk.mk' (rs := [.cell 4 36, .tmp 5]) [] z (.inl z) (RVs.agg ag36 sz36 z (i := 0) z z (RVs.tmp z RVs.nil)) (List.sublist_append_left _ _) ⟨none, 0, z, (RS.nilF _ encSpan encSpan_len), z⟩
 ·refine TC.skip (S.n (TC.a (TL.v z (OpVal.fieldLoc z fo32_0 z) z z (TL.v z (OpVal.loadLocA z ag26 sz26 z (i := 1) z z z) z z (TL.v z (OpVal.fieldLoc z fo32_1 z) z z (TL.v z (OpVal.loadLocA z ag26 sz26 z (i := 1) z z z) z z (TL.v z (OpVal.fieldLoc z fo32_2 z) z z (TL.v z (OpVal.loadLocA z ag26 sz26 z (i := 1) z z z) z z (TL.v z (OpVal.moveStr (.inl z) z) z z ?_)))))))))
  obtain ⟨v17, u17, hh⟩ := bnd_e hh
  refine TL.op z (OpOk.call (whittleref23_Factors_con (x0 := x0.of) (x1 := x0.left) (x2 := x0.right) f0_0 f0_1 f0_2 f0_3 f0_4 f0_5 f0_6 f0_7 f0_8 u17) z z pf35 z z z z ?_)
  rintro _ τ106 _ hle106 ⟨a106_1, c106_1, rfl, hr106_0, rfl⟩
  replace f0_0 := f0_0.mono hle106
  replace f0_1 := f0_1.mono hle106
  replace f0_2 := f0_2.mono hle106
  replace f0_3 := f0_3.mono hle106
  replace f0_4 := f0_4.mono hle106
  replace f0_5 := f0_5.mono hle106
  replace f0_6 := f0_6.mono hle106
  replace f0_7 := f0_7.mono hle106
  replace f0_8 := f0_8.mono hle106
  replace f0_9 := f0_9.mono hle106
  replace f0_10 := f0_10.mono hle106
  replace f0_11 := f0_11.mono hle106
  replace f0_12 := f0_12.mono hle106
  have hr106_0b := hr106_0.rv.big
  refine TL.v z (OpVal.moveT (.inl z) z) z z (TL.v z (OpVal.extract z z z) z z (TL.v z (OpVal.extract z z z) z z (TL.sl z (.inr z) z z z (TL.a z (.inr z) z z z (TL.en (TC.seq (TC.a (TL.a z (.inl z) z z z (TL.v z (OpVal.neq z z z) z z ?_)))))))))
  refine TL.en (TC.cD z hh (fun h107 hh => ?_) (fun h107 hh => ?_))
  ·refine TC.a (TL.v z (OpVal.buildL z pl36 ze36 z) z z (TL.a z (.inl z) z z z (TL.op z (OpOk.storeAll z sz36 z z z z z z ?_))))
   refine TL.a z (.inr z) z z z (TL.en (TC.ofSub (Sub.pre 1 z) (TC.ret (S.r ?_))))
   obtain rfl := so hh
   exact RetOk.mk' (rs := [.cell 4 36, .tmp 5]) [] z (.inl z) (RVs.agg ag36 sz36 z (i := 0) z z (RVs.tmp z RVs.nil)) (List.sublist_append_left _ _) ⟨none, 0, z, (RS.nilF _ encSpan encSpan_len), z⟩
  ·refine TC.skip (S.n (TC.a (TL.v z (OpVal.buildL z pl36 ze36 z) z z (TL.op z (OpOk.alloc z ze36 z z (fun b108 => ?_))))))
   refine TL.op z (OpOk.storeAll z sz36 z z z z z z ?_)
   refine TL.en (TC.a (TL.a z (.inr z) z z z (TL.en (TC.seq (TC.a (TL.a z (.inr z) z z z (TL.en (TC.block (TC.nilS 56 2 encSpan ?_)))))))))
   refine TC.loopG (α := ((List UInt8) × (List Span) × Int × Nat) × ((Option Addr) × Nat)) [9, 10, 11, 12, 13, 14, 35, 36, 37, 38, 39, 40, 41, 42, 43, 44, 45, 46, 47, 48, 49, 50, 51, 52, 53, 54, 55, 56, 57, 58, 59, 60, 61, 62, 63, 64, 65, 66, 67, 68, 69, 70, 71, 72, 73, 74, 75, 76, 77, 78, 79, 80, 81, 82, 83, 84, 85, 86, 87, 88, 89, 90, 91, 92, 93, 94, 95, 96, 97, 98, 99, 100, 101, 102, 103, 104, 105, 106, 107, 108, 109, 110] (fun g => [(9, .int .i64 g.1.2.2.1), (10, .int .i64 ((g.1.2.2.2 : Nat) : Int))]) (fun g => [Res.cells b101 #[.slice a0_0 x0.of.cls.length c0_0, .slice a0_1 x0.of.next.length c0_1, .slice a0_2 x0.of.fin.length c0_2, .slice a0_3 x0.left.cls.length c0_3, .slice a0_4 x0.left.next.length c0_4, .slice a0_5 x0.left.fin.length c0_5, .slice a0_6 x0.right.cls.length c0_6, .slice a0_7 x0.right.next.length c0_7, .slice a0_8 x0.right.fin.length c0_8, .string (bs x0.out), .bool x0.mapped, .string (bs x0.by'.front), .slice a0_9 x0.by'.next.length c0_9, .slice a0_10 x0.by'.outs.length c0_10, .slice a0_11 x0.by'.fin.length c0_11, .slice a0_12 x0.by'.tail.length c0_12] 32, Res.cells b103 #[.string (bs ([] : List UInt8)), .slice none 0 0] 36, Res.cells b108 #[.string (bs g.1.1), .slice g.2.1 g.1.2.1.length g.2.2] 36, Res.rowS 56 2 encSpan (.slice g.2.1 g.1.2.1.length g.2.2) g.1.2.1]) (fun g => τ106) (fun g => iter (fun q : (List UInt8) × (List Span) × Int × Nat => whittleref24_Turn_b1 v17 x1 x0 q.1 q.2.1 q.2.2.1 q.2.2.2) g.1 = some r) (fun g => rounds (fun q : (List UInt8) × (List Span) × Int × Nat => whittleref24_Turn_b1 v17 x1 x0 q.1 q.2.1 q.2.2.1 q.2.2.2) g.1) ((([] : List UInt8), ([] : List Span), 0, 0), (none, 0)) (Sub.f [1, 2, 3] 4) z (by repeat (first | exact trivial | refine ⟨z, ?_⟩)) hh (fun g1 j1 hg1 => ?_)
   obtain ⟨⟨s124, l126, i129, k130⟩, ⟨a127, c128⟩⟩ := g1
   have hh := hg1; clear hg1
   show TC _ _ _ (upds (mask _ j1 _) [(9, .int .i64 i129), (10, .int .i64 ((k130 : Nat) : Int))]) _ [Res.cells b101 #[.slice a0_0 x0.of.cls.length c0_0, .slice a0_1 x0.of.next.length c0_1, .slice a0_2 x0.of.fin.length c0_2, .slice a0_3 x0.left.cls.length c0_3, .slice a0_4 x0.left.next.length c0_4, .slice a0_5 x0.left.fin.length c0_5, .slice a0_6 x0.right.cls.length c0_6, .slice a0_7 x0.right.next.length c0_7, .slice a0_8 x0.right.fin.length c0_8, .string (bs x0.out), .bool x0.mapped, .string (bs x0.by'.front), .slice a0_9 x0.by'.next.length c0_9, .slice a0_10 x0.by'.outs.length c0_10, .slice a0_11 x0.by'.fin.length c0_11, .slice a0_12 x0.by'.tail.length c0_12] 32, Res.cells b103 #[.string (bs ([] : List UInt8)), .slice none 0 0] 36, Res.cells b108 #[.string (bs s124), .slice a127 l126.length c128] 36, Res.rowS 56 2 encSpan (.slice a127 l126.length c128) l126]
   obtain ⟨z1, hh, hR1⟩ := iter_e hh
   dsimp only [whittleref24_Turn_b1] at hh
   refine TC.isSl (i := 3) z (fun _ hb132 _ => ?_)
   refine TC.seq (TC.a (TL.a z (.inl z) z z z (TL.sl z (.inl z) z z z (TL.v z (OpVal.lenC z Tryz.underlying34 z) z z (TL.v z (OpVal.lss z z z) z z (TL.en (TC.cD z hh (fun h133 hh => ?_) (fun h133 hh => ?_))))))))
   ·refine TC.skip (S.n (TC.seq (TC.block (TC.a (TL.sl z (.inl z) z z z (TL.a z (.inl z) z z z (TL.v z (OpVal.indexN z Tryz.underlying34 sz56 z z hr106_0.rv.sl (by omega)) z z (TL.v z (OpVal.loadSA Span.zero z ag56 sz56 z hr106_0 (by omega) (by omega)) z z (TL.op z (OpOk.alloc z ze56 z z (fun b134 => ?_)))))))))))
    refine TL.op z (OpOk.storeAll z sz56 z z z z z z ?_)
    refine TL.en (TC.seq ?_)
    have u50 := grd_c hh
    replace hh := grd_t hh
    have u51 := grd_c hh
    replace hh := grd_t hh
    refine TC.draw [9] (by kernel_rfl) (TA.a 0 z (OpVal.fieldLoc z fo36_0 z) z (TA.b 1 z (OpVal.loadLoc z ag9 z (i := 3) z z) z (TA.a 2 z (OpVal.moveStr (.inl z) z) z (TA.a 3 z (OpVal.moveI (.inl z) z) z (TA.a 4 z (OpVal.fieldLoc z fo56_0 z) z (TA.b 5 z (OpVal.loadLoc z ag3 z (i := 0) z z) z (TA.b 6 rfl (OpVal.sliceBs (l := x1) (i := i129.toNat) (j := ((nth v17.1 k130 Span.zero).frm).toNat) rfl Tryz.underlying9 rfl (by show Value.int _ _ = _; rw [Int.toNat_of_nonneg (by omega)]) (by show Value.int _ _ = _; rw [Int.toNat_of_nonneg (by omega)]) (by omega) (by omega)) rfl (TA.a 7 z (OpVal.catBs z z z u51) z (TA.a 8 z (OpVal.fieldLoc z fo36_0 z) z ?_)))))))))
    refine TA.front 3 z z (TA.last 9 (by kernel_rfl) z z z (OpOk.storeStr z sz9 z z z z z ?_))
    refine TZ.done (by kernel_rfl) (S.n (TC.seq ?_))
    have u60 := grd_c hh
    replace hh := grd_t hh
    obtain ⟨v62, u62, hh⟩ := bnd_e hh
    have u63 := grd_c hh
    replace hh := grd_t hh
    refine TC.draw [9, 10, 11] (by kernel_rfl) (TA.a 0 z (OpVal.fieldLoc z fo36_1 z) z (TA.b 1 z (OpVal.loadLoc z ag34 z (i := 0) z z) z (TA.a 2 z (OpVal.moveStr (.inl z) z) z (TA.a 3 z (OpVal.moveI (.inl z) z) z (TA.a 4 z (OpVal.fieldLoc z fo56_0 z) z (TA.b 5 z (OpVal.loadLoc z ag3 z (i := 1) z z) z (TA.b 6 rfl (OpVal.sliceBs (l := x1) (i := i129.toNat) (j := ((nth v17.1 k130 Span.zero).frm).toNat) rfl Tryz.underlying9 rfl (by show Value.int _ _ = _; rw [Int.toNat_of_nonneg (by omega)]) (by show Value.int _ _ = _; rw [Int.toNat_of_nonneg (by omega)]) (by omega) (by omega)) rfl (TA.a 7 z (OpVal.moveI (.inl z) z) z (TA.ac 8 z (OpOk.call (whittleref24_own_con u62) z z pf36 z z z z ?_))))))))))
    rintro _ _ _ hle140 ⟨a140_1, c140_1, rfl, rfl, rfl⟩
    refine k1 (TA.front 5 z z (TA.last 9 (by kernel_rfl) z z z (OpOk.appendS z z Tryz.underlying34 sz56 by56 ze56 z z (by decide) z z z (.inr ⟨_, 0, z⟩) (by simpa using u63) (by decide) (fun a142 c143 => ?_))))
    refine TZ.v 10 (by kernel_rfl) z z z (OpVal.fieldLoc z fo36_1 z) z z (TZ.front 2 z z (TZ.last 11 (by kernel_rfl) z z z (OpOk.storeSl z sz34 z z z z z ?_)))
    refine TZ.done (by kernel_rfl) (S.n (TC.seq ?_))
    have u72 := grd_c hh
    replace hh := grd_t hh
    obtain ⟨v73, u73, hh⟩ := bnd_e hh
    refine TC.draw [] (by kernel_rfl) (TA.b 0 z (OpVal.loadAll z ag32 sz32 z (i := 4) z z) z (TA.a 1 z (OpVal.moveStr (.inl z) z) z (TA.a 2 z (OpVal.fieldLoc z fo56_0 z) z (TA.b 3 z (OpVal.loadLoc z ag3 z (i := 3) z z) z (TA.a 4 z (OpVal.fieldLoc z fo56_1 z) z (TA.b 5 z (OpVal.loadLoc z ag3 z (i := 3) z z) z (TA.b 6 rfl (OpVal.sliceBs (l := x1) (i := ((nth v17.1 k130 Span.zero).frm).toNat) (j := ((nth v17.1 k130 Span.zero).to).toNat) rfl Tryz.underlying9 rfl (by show Value.int _ _ = _; rw [Int.toNat_of_nonneg (by omega)]) (by show Value.int _ _ = _; rw [Int.toNat_of_nonneg (by omega)]) (by omega) (by omega)) rfl (TA.ac 7 z (OpOk.callP (whittleref24_becomes_con (x0 := x0) f0_0 f0_1 f0_2 f0_3 f0_4 f0_5 f0_6 f0_7 f0_8 f0_9 f0_10 f0_11 f0_12 u73) z z pf37 z z z (k0 ?_))))))))))
    refine TA.a 8 z (OpVal.moveT (.inl z) z) z (TA.a 9 z (OpVal.extract z z z) z (TA.a 10 z (OpVal.extract z z z) z (TA.a 11 z (OpVal.moveStr (.inr z) z) z (TA.a 12 z (OpVal.moveB (.inr z) z) z (TA.dn (S.n (TC.a (TL.v z (OpVal.fieldLoc z fo36_0 z) z z (TL.v z (OpVal.loadLoc z ag9 z (i := 0) z z) z z ?_)))))))))
    refine TL.v z (OpVal.moveStr (.inl z) z) z z ?_
    have u82 := grd_c hh
    replace hh := grd_t hh
    refine TL.v z (OpVal.catBs z z z u82) z z (TL.v z (OpVal.fieldLoc z fo36_0 z) z z (TL.op z (OpOk.storeStr z sz9 z z z z z ?_)))
    refine TL.en (TC.seq (TC.a (TL.a z (.inr z) z z z (TL.en (TC.block (TC.loopG (α := ((List Span) × Nat) × ((Option Addr) × Nat)) [14, 81, 82, 83, 84, 85, 86, 87, 88, 89, 90, 91, 92, 93, 94, 95, 96, 97, 98, 99, 100, 101, 102, 103, 104, 105, 106, 107, 108] (fun g => [(14, .int .i64 ((g.1.2 : Nat) : Int))]) (fun g => [Res.cells b101 #[.slice a0_0 x0.of.cls.length c0_0, .slice a0_1 x0.of.next.length c0_1, .slice a0_2 x0.of.fin.length c0_2, .slice a0_3 x0.left.cls.length c0_3, .slice a0_4 x0.left.next.length c0_4, .slice a0_5 x0.left.fin.length c0_5, .slice a0_6 x0.right.cls.length c0_6, .slice a0_7 x0.right.next.length c0_7, .slice a0_8 x0.right.fin.length c0_8, .string (bs x0.out), .bool x0.mapped, .string (bs x0.by'.front), .slice a0_9 x0.by'.next.length c0_9, .slice a0_10 x0.by'.outs.length c0_10, .slice a0_11 x0.by'.fin.length c0_11, .slice a0_12 x0.by'.tail.length c0_12] 32, Res.cells b103 #[.string (bs ([] : List UInt8)), .slice none 0 0] 36, Res.cells b108 #[.string (bs ((s124 ++ ((x1.take (((nth v17.1 k130 Span.zero).frm).toNat)).drop i129.toNat)) ++ v73.1)), .slice g.2.1 g.1.1.length g.2.2] 36, Res.rowS 56 2 encSpan (.slice g.2.1 g.1.1.length g.2.2) g.1.1, Res.cells b134 #[.int .i64 ((nth v17.1 k130 Span.zero).frm), .int .i64 ((nth v17.1 k130 Span.zero).to)] 56]) (fun g => τ106) (fun g => iter (fun q : (List Span) × Nat => whittleref24_Turn_b2 v73 v17 k130 s124 x1 i129 q.1 q.2) g.1 = some z1) (fun g => rounds (fun q : (List Span) × Nat => whittleref24_Turn_b2 v73 v17 k130 s124 x1 i129 q.1 q.2) g.1) (((l126 ++ v62), 0), (a142, c143)) (Sub.f [3, 2, 2, 5, 5] 5) z (by repeat (first | exact trivial | refine ⟨z, ?_⟩)) hh (fun g2 j2 hg2 => ?_)))))))
    obtain ⟨⟨l152, k155⟩, ⟨a153, c154⟩⟩ := g2
    have hh := hg2; clear hg2
    show TC _ _ _ (upds (mask _ j2 _) [(14, .int .i64 ((k155 : Nat) : Int))]) _ [Res.cells b101 #[.slice a0_0 x0.of.cls.length c0_0, .slice a0_1 x0.of.next.length c0_1, .slice a0_2 x0.of.fin.length c0_2, .slice a0_3 x0.left.cls.length c0_3, .slice a0_4 x0.left.next.length c0_4, .slice a0_5 x0.left.fin.length c0_5, .slice a0_6 x0.right.cls.length c0_6, .slice a0_7 x0.right.next.length c0_7, .slice a0_8 x0.right.fin.length c0_8, .string (bs x0.out), .bool x0.mapped, .string (bs x0.by'.front), .slice a0_9 x0.by'.next.length c0_9, .slice a0_10 x0.by'.outs.length c0_10, .slice a0_11 x0.by'.fin.length c0_11, .slice a0_12 x0.by'.tail.length c0_12] 32, Res.cells b103 #[.string (bs ([] : List UInt8)), .slice none 0 0] 36, Res.cells b108 #[.string (bs ((s124 ++ ((x1.take (((nth v17.1 k130 Span.zero).frm).toNat)).drop i129.toNat)) ++ v73.1)), .slice a153 l152.length c154] 36, Res.rowS 56 2 encSpan (.slice a153 l152.length c154) l152, Res.cells b134 #[.int .i64 ((nth v17.1 k130 Span.zero).frm), .int .i64 ((nth v17.1 k130 Span.zero).to)] 56]
    obtain ⟨z2, hh, hR2⟩ := iter_e hh
    dsimp only [whittleref24_Turn_b2] at hh
    refine TC.isSl (i := 3) z (fun _ hb156 _ => ?_)
    refine TC.seq (TC.a (TL.a z (.inl z) z z z (TL.v z (OpVal.moveStr (.inl z) z) z z (TL.v z (OpVal.lenBs z Tryz.underlying9 z) z z (TL.v z (OpVal.lss z z z) z z (TL.en (TC.cD z hh (fun h157 hh => ?_) (fun h157 hh => ?_))))))))
    ·refine TC.skip (S.n (TC.cutG (α := ((List Span)) × ((Option Addr) × Nat)) [87, 88, 89, 90, 91, 92, 93, 94, 95, 96, 97, 98, 99, 100, 101, 102, 103, 104, 105, 106, 107, 108] (fun g => []) (fun g => [Res.cells b101 #[.slice a0_0 x0.of.cls.length c0_0, .slice a0_1 x0.of.next.length c0_1, .slice a0_2 x0.of.fin.length c0_2, .slice a0_3 x0.left.cls.length c0_3, .slice a0_4 x0.left.next.length c0_4, .slice a0_5 x0.left.fin.length c0_5, .slice a0_6 x0.right.cls.length c0_6, .slice a0_7 x0.right.next.length c0_7, .slice a0_8 x0.right.fin.length c0_8, .string (bs x0.out), .bool x0.mapped, .string (bs x0.by'.front), .slice a0_9 x0.by'.next.length c0_9, .slice a0_10 x0.by'.outs.length c0_10, .slice a0_11 x0.by'.fin.length c0_11, .slice a0_12 x0.by'.tail.length c0_12] 32, Res.cells b103 #[.string (bs ([] : List UInt8)), .slice none 0 0] 36, Res.cells b108 #[.string (bs ((s124 ++ ((x1.take (((nth v17.1 k130 Span.zero).frm).toNat)).drop i129.toNat)) ++ v73.1)), .slice g.2.1 g.1.length g.2.2] 36, Res.rowS 56 2 encSpan (.slice g.2.1 g.1.length g.2.2) g.1, Res.cells b134 #[.int .i64 ((nth v17.1 k130 Span.zero).frm), .int .i64 ((nth v17.1 k130 Span.zero).to)] 56]) (fun g => τ106) (fun g => whittleref24_Turn_j1 k155 g.1 = some z2) ?_ (fun g j hg => ?_)))
     ·skip
      refine TC.block (TC.a (TL.b z (.inl z) z z z (TL.en (TC.cB z hh (fun h161 hh => ?_) (fun h161 hh => ?_)))))
      ·refine TC.region (TL.v z (OpVal.fieldLoc z fo36_1 z) z z (TL.v z (OpVal.loadLoc z ag34 z (i := 2) z z) z z (TL.v z (OpVal.fieldLoc z fo56_0 z) z z (TL.v z (OpVal.loadLoc z ag3 z (i := 4) z z) z z (TL.a z (.inl z) z z z (TL.v z (OpVal.addW z z z) z z (TL.v z (OpVal.fieldLoc z fo56_0 z) z z (TL.v z (OpVal.loadLoc z ag3 z (i := 4) z z) z z (TL.a z (.inl z) z z z ?_)))))))))
       refine TL.v z (OpVal.addW z z z) z z (TL.v z (OpVal.addW z z z) z z (TL.v z (OpVal.buildL z pl56 ze56 z) z z (TL.op z (OpOk.lit (enc := encSpan) [(⟨IntKind.i64.wrap (((nth v17.1 k130 Span.zero).frm) + ((k155 : Nat) : Int)), IntKind.i64.wrap ((IntKind.i64.wrap (((nth v17.1 k130 Span.zero).frm) + ((k155 : Nat) : Int))) + 1)⟩ : Span)] z Tryz.underlying34 sz56 ze56 z z z encSpan_len (by decide) (by decide) Span.zero z (by decide) z (by decide) encSpan_one (fun a162 c163 => ?_)))))
       refine TL.front 4 z z ?_
       have u104 := grd_c hh
       replace hh := grd_t hh
       refine TL.op z (OpOk.appendS z z Tryz.underlying34 sz56 by56 ze56 z z (by decide) z z z (.inr ⟨_, 0, z⟩) (by simpa using u104) (by decide) (fun a165 c166 => ?_))
       refine TL.v z (OpVal.fieldLoc z fo36_1 z) z z (TL.front 4 z z (TL.op z (OpOk.storeSl z sz34 z z z z z ?_)))
       exact TL.nil (B.n (S.n (cf ((l152 ++ [(⟨IntKind.i64.wrap (((nth v17.1 k130 Span.zero).frm) + ((k155 : Nat) : Int)), IntKind.i64.wrap ((IntKind.i64.wrap (((nth v17.1 k130 Span.zero).frm) + ((k155 : Nat) : Int))) + 1)⟩ : Span)]), (a165, c166)) hh (Sub.f [5, 2, 2, 5, 5] 5))))
      ·refine TC.region (TL.v z (OpVal.fieldLoc z fo36_1 z) z z (TL.v z (OpVal.loadLoc z ag34 z (i := 2) z z) z z (TL.v z (OpVal.loadAll z ag56 sz56 z (i := 4) z z) z z (TL.op z (OpOk.lit (enc := encSpan) [(nth v17.1 k130 Span.zero)] z Tryz.underlying34 sz56 ze56 z z z encSpan_len (by decide) (by decide) Span.zero z (by decide) z (by decide) encSpan_one (fun a167 c168 => ?_))))))
       refine TL.front 4 z z ?_
       have u111 := grd_c hh
       replace hh := grd_t hh
       refine TL.op z (OpOk.appendS z z Tryz.underlying34 sz56 by56 ze56 z z (by decide) z z z (.inr ⟨_, 0, z⟩) (by simpa using u111) (by decide) (fun a170 c171 => ?_))
       refine TL.v z (OpVal.fieldLoc z fo36_1 z) z z (TL.front 4 z z (TL.op z (OpOk.storeSl z sz34 z z z z z ?_)))
       exact TL.nil (B.n (S.n (cf ((l152 ++ [(nth v17.1 k130 Span.zero)]), (a170, c171)) hh (Sub.f [5, 2, 2, 5, 5] 5))))
     ·skip
      obtain ⟨l158, ⟨a159, c160⟩⟩ := g
      have hh := hg; clear hg
      show TC _ _ _ (upds (mask _ j _) []) _ [Res.cells b101 #[.slice a0_0 x0.of.cls.length c0_0, .slice a0_1 x0.of.next.length c0_1, .slice a0_2 x0.of.fin.length c0_2, .slice a0_3 x0.left.cls.length c0_3, .slice a0_4 x0.left.next.length c0_4, .slice a0_5 x0.left.fin.length c0_5, .slice a0_6 x0.right.cls.length c0_6, .slice a0_7 x0.right.next.length c0_7, .slice a0_8 x0.right.fin.length c0_8, .string (bs x0.out), .bool x0.mapped, .string (bs x0.by'.front), .slice a0_9 x0.by'.next.length c0_9, .slice a0_10 x0.by'.outs.length c0_10, .slice a0_11 x0.by'.fin.length c0_11, .slice a0_12 x0.by'.tail.length c0_12] 32, Res.cells b103 #[.string (bs ([] : List UInt8)), .slice none 0 0] 36, Res.cells b108 #[.string (bs ((s124 ++ ((x1.take (((nth v17.1 k130 Span.zero).frm).toNat)).drop i129.toNat)) ++ v73.1)), .slice a159 l158.length c160] 36, Res.rowS 56 2 encSpan (.slice a159 l158.length c160) l158, Res.cells b134 #[.int .i64 ((nth v17.1 k130 Span.zero).frm), .int .i64 ((nth v17.1 k130 Span.zero).to)] 56]
      dsimp only [whittleref24_Turn_j1] at hh
      refine TC.isSl (i := 3) z (fun _ hb172 _ => ?_)
      refine TC.region (TL.a z (.inl z) z z z (TL.v z (OpVal.succ z z z (by omega)) z z (TL.a z (.inr z) z z z (TL.en ?_))))
      obtain ⟨hh, hlt173⟩ := nxt_x hR2 hh
      exact lf ((l158, (k155 + 1)), (a159, c160)) hlt173 hh (Sub.f [4, 4, 4, 4, 4] 5)
    ·refine TC.exit (S.x (S.x ?_))
     replace hh := fin_x hR2 hh
     refine TC.exitHere (S.n (TC.region (TL.v z (OpVal.fieldLoc z fo56_1 z) z z (TL.v z (OpVal.loadLoc z ag3 z (i := 4) z z) z z (TL.a z (.inr z) z z z (TL.nil (B.n (S.n (TC.region ?_)))))))))
     refine TL.a z (.inl z) z z z (TL.v z (OpVal.succ z z z (by omega)) z z (TL.a z (.inr z) z z z (TL.en ?_)))
     obtain ⟨hh, hlt174⟩ := nxt_x hR1 hh
     exact lf ((((s124 ++ ((x1.take (((nth v17.1 k130 Span.zero).frm).toNat)).drop i129.toNat)) ++ v73.1), l152, ((nth v17.1 k130 Span.zero).to), (k130 + 1)), (a153, c154)) hlt174 hh (Sub.f [3, 3, 3, 3] 4)
   ·refine TC.exit (S.x (S.x ?_))
    replace hh := fin_x hR1 hh
    refine TC.exitHere (S.n (TC.seq ?_))
    have u127 := grd_c hh
    replace hh := grd_t hh
    have u128 := grd_c hh
    replace hh := grd_t hh
    refine TC.draw [7] (by kernel_rfl) (TA.a 0 z (OpVal.fieldLoc z fo36_0 z) z (TA.b 1 z (OpVal.loadLoc z ag9 z (i := 2) z z) z (TA.a 2 z (OpVal.moveStr (.inl z) z) z (TA.a 3 z (OpVal.moveI (.inl z) z) z (TA.b 4 rfl (OpVal.sliceBsL (l := x1) (i := i129.toNat) rfl Tryz.underlying9 rfl (by show Value.int _ _ = _; rw [Int.toNat_of_nonneg (by omega)]) (by omega) (by omega)) rfl (TA.a 5 z (OpVal.catBs z z z u128) z (TA.a 6 z (OpVal.fieldLoc z fo36_0 z) z (TA.front 2 z z (TA.last 7 (by kernel_rfl) z z z (OpOk.storeStr z sz9 z z z z z ?_))))))))))
    refine TZ.done (by kernel_rfl) (S.n (TC.seq ?_))
    have u135 := grd_c hh
    replace hh := grd_t hh
    obtain ⟨v137, u137, hh⟩ := bnd_e hh
    have u138 := grd_c hh
    replace hh := grd_t hh
    refine TC.draw [7, 8, 9] (by kernel_rfl) (TA.a 0 z (OpVal.fieldLoc z fo36_1 z) z (TA.b 1 z (OpVal.loadLoc z ag34 z (i := 0) z z) z (TA.a 2 z (OpVal.moveStr (.inl z) z) z (TA.a 3 z (OpVal.moveI (.inl z) z) z (TA.b 4 rfl (OpVal.sliceBsL (l := x1) (i := i129.toNat) rfl Tryz.underlying9 rfl (by show Value.int _ _ = _; rw [Int.toNat_of_nonneg (by omega)]) (by omega) (by omega)) rfl (TA.a 5 z (OpVal.moveI (.inl z) z) z (TA.ac 6 z (OpOk.call (whittleref24_own_con u137) z z pf36 z z z z ?_))))))))
    rintro _ _ _ hle179 ⟨a179_1, c179_1, rfl, rfl, rfl⟩
    refine k1 (TA.front 4 z z (TA.last 7 (by kernel_rfl) z z z (OpOk.appendS z z Tryz.underlying34 sz56 by56 ze56 z z (by decide) z z z (.inr ⟨_, 0, z⟩) (by simpa using u138) (by decide) (fun a181 c182 => ?_))))
    refine TZ.v 8 (by kernel_rfl) z z z (OpVal.fieldLoc z fo36_1 z) z z (TZ.front 2 z z (TZ.last 9 (by kernel_rfl) z z z (OpOk.storeSl z sz34 z z z z z ?_)))
    refine TZ.done (by kernel_rfl) (S.n (TC.seq (TC.a (TL.v z (OpVal.fieldLoc z fo36_0 z) z z (TL.v z (OpVal.loadLoc z ag9 z (i := 0) z z) z z (TL.v z (OpVal.lenBs z Tryz.underlying9 z) z z (TL.v z (OpVal.gtr z z z) z z (TL.en (TC.cD z hh (fun h183 hh => ?_) (fun h183 hh => ?_))))))))))
    ·refine TC.a (TL.v z (OpVal.buildL z pl36 ze36 z) z z (TL.front 4 z z (TL.op z (OpOk.storeAll z sz36 z z z z z z ?_))))
     refine TL.a z (.inr z) z z z (TL.en (TC.ofSub (Sub.pre 1 z) (TC.ret (S.r ?_))))
     obtain rfl := so hh
     exact RetOk.mk' (rs := [.cell 4 36, .tmp 5]) [] z (.inl z) (RVs.agg ag36 sz36 z (i := 0) z z (RVs.tmp z RVs.nil)) (List.sublist_append_left _ _) ⟨none, 0, z, (RS.nilF _ encSpan encSpan_len), z⟩
    ·refine TC.skip (S.n (TC.a (TL.v z (OpVal.loadAll z ag36 sz36 z (i := 0) z z) z z (TL.front 4 z z (TL.op z (OpOk.storeAll z sz36 z z z z z z ?_))))))
     refine TL.a z (.inr z) z z z (TL.en (TC.front 2 z z (TC.sealS encSpan_len (fun τ186 hle185 hr184 => ?_))))
     replace f0_0 := f0_0.mono hle185
     replace f0_1 := f0_1.mono hle185
     replace f0_2 := f0_2.mono hle185
     replace f0_3 := f0_3.mono hle185
     replace f0_4 := f0_4.mono hle185
     replace f0_5 := f0_5.mono hle185
     replace f0_6 := f0_6.mono hle185
     replace f0_7 := f0_7.mono hle185
     replace f0_8 := f0_8.mono hle185
     replace f0_9 := f0_9.mono hle185
     replace f0_10 := f0_10.mono hle185
     replace f0_11 := f0_11.mono hle185
     replace f0_12 := f0_12.mono hle185
     replace hr106_0 := hr106_0.mono hle185
     have hr184b := hr184.rv.big
     refine TC.ofSub (Sub.pre 1 z) (TC.ret ?_)
     obtain rfl := so hh
     exact RetOk.mk' (rs := [.cell 4 36, .tmp 5]) [] z (.inl z) (RVs.agg ag36 sz36 z (i := 0) z z (RVs.tmp z RVs.nil)) (List.sublist_append_left _ _) ⟨a181, c182, z, hr184, z⟩

end Go.Proofs.YtmfclggfajopkaaGreatDoor
end

/- ScRf -/
section
/- Automatons that go one way, and factors: the reference's side. Plain lemmas, no condition. -/
set_option linter.unusedVariables false
set_option linter.unusedSimpArgs false
namespace Go.Proofs.YtmfclggfajopkaaGreatDoor
open Go Go.E

theorem sets02_in (cls : List Int) (h256 : cls.length = 256) (k : Nat) (out : List BSet) (hk : k < 1000) (ho : out.length < 1000) :
    ∃ x, iter (fun q : (List Bool) × Nat => whittleref02_Sets_b3 cls k out q.1 q.2) ((List.replicate 256 false), 0) = some (.inl (out ++ [x], k + 1)) := by
  obtain ⟨r, h1, x, rfl⟩ := iter_for (step := fun q : (List Bool) × Nat => whittleref02_Sets_b3 cls k out q.1 q.2) (fun s k => (s, k)) cls 0 (fun _ s => s.length = 256) (fun r => ∃ x, r = .inl (out ++ [x], k + 1))
    (fun j s hj hI => by
      refine .inl ⟨s.set j (decide ((nth cls j (0 : Int)) = ((k : Nat) : Int))), ?_, by simpa using hI⟩
      simp only [whittleref02_Sets_b3]
      rw [show decide (((j : Nat) : Int) < 256) = true from decide_eq_true (by omega), iteO_true, grd_mk hj, grd_mk (by omega)]; rfl)
    (fun s hI => ⟨_, by
      simp only [whittleref02_Sets_b3]
      rw [show decide (((cls.length : Nat) : Int) < 256) = false from decide_eq_false (by omega), iteO_false, grd_mk hI, grd_mk (by simp; omega), grd_mk (by omega)]; rfl, _, rfl⟩) (s0 := List.replicate 256 false) List.length_replicate
  exact ⟨x, h1⟩
theorem sets02_out (cls : List Int) (h256 : cls.length = 256) (m : Nat) (hm : m ≤ 256) :
    ∃ r, iter (fun q : (List BSet) × Nat => whittleref02_Sets_b2 ((m : Int) - 1) cls q.1 q.2) (([] : List BSet), 0) = some r ∧ r.1.length = m ∧ r.2 = 0 := by
  obtain ⟨r, h1, h2⟩ := iter_for (step := fun q : (List BSet) × Nat => whittleref02_Sets_b2 ((m : Int) - 1) cls q.1 q.2) (fun s k => (s, k)) (List.replicate m ()) () (fun pre s => s.length = pre.length) (fun r => r.1.length = m ∧ r.2 = 0)
    (fun k s hk hI => by
      rw [List.length_replicate] at hk
      rw [List.length_take, List.length_replicate] at hI
      obtain ⟨x, hx⟩ := sets02_in cls h256 k s (by omega) (by omega)
      refine .inl ⟨s ++ [x], ?_, by simp [hI]⟩
      simp only [whittleref02_Sets_b2]
      rw [show decide (((k : Nat) : Int) ≤ (m : Int) - 1) = true from decide_eq_true (by omega), iteO_true]; exact hx)
    (fun s hI => by
      rw [List.length_replicate] at hI ⊢
      exact ⟨(s, 0), by simp only [whittleref02_Sets_b2]; rw [show decide (((m : Nat) : Int) ≤ (m : Int) - 1) = false from decide_eq_false (by omega), iteO_false]; rfl, hI, rfl⟩) (s0 := []) rfl
  exact ⟨r, h1, h2⟩
theorem sets02_ok (cls : List Int) : ∃ r, whittleref02_Sets cls = some r ∧ (((cls.length ≠ 256 ∨ cntF cls = none) ∧ r.2 = 1) ∨ (cls.length = 256 ∧ cntF cls = some r.1.length ∧ r.2 = 0)) := by
  unfold whittleref02_Sets
  by_cases h256 : cls.length = 256
  · rw [show decide (((cls.length : Nat) : Int) ≠ 256) = false from decide_eq_false (by omega), iteO_false]
    obtain ⟨r, h1, h2⟩ := iter_for (step := fun q : Int × Nat => whittleref02_Sets_b1 cls q.1 q.2) (fun s k => (s, k)) cls 0 (fun pre s => ∃ c, cntF pre = some c ∧ s = (c : Int) - 1) (fun r => (cntF cls = none ∧ r.2 = 1) ∨ (cntF cls = some r.1.length ∧ r.2 = 0))
      (fun k s hk ⟨c, hI, hs⟩ => by
        subst hs
        have hle := cntF_le _ _ _ hI
        rw [List.length_take, Nat.zero_add] at hle
        have hsp := take_split cls hk (0 : Int)
        have hstop : (nth cls k 0 < 0 ∨ (c : Int) < nth cls k 0) → cntF cls = none := fun hc => by
          rw [hsp, ← List.singleton_append, ← List.append_assoc]
          exact cntF_none (by rw [cntF_snoc, hI]; simp [cntS, hc])
        simp only [whittleref02_Sets_b1]
        rw [show decide (((k : Nat) : Int) < 256) = true from decide_eq_true (by omega), iteO_true, grd_mk hk]
        by_cases c1 : nth cls k 0 < 0
        · right; rw [decide_eq_true c1, iteO_true]; exact ⟨_, rfl, .inl ⟨hstop (.inl c1), rfl⟩⟩
        rw [decide_eq_false c1, iteO_false, grd_mk hk, wrap64_of (by omega) (by omega)]
        by_cases c2 : ((c : Int) - 1 + 1) < nth cls k 0
        · right; rw [decide_eq_true c2, iteO_true]; exact ⟨_, rfl, .inl ⟨hstop (.inr (by omega)), rfl⟩⟩
        rw [decide_eq_false c2, iteO_false, grd_mk hk]
        left
        refine ⟨_, rfl, if nth cls k 0 = (c : Int) then c + 1 else c, ?_, ?_⟩
        · rw [cntF_snoc, hI]
          simp only [cntS, Option.bind_some]
          rw [if_neg (by omega)]
        · split <;> omega)
      (fun s ⟨c, hI, hs⟩ => by
        subst hs
        have hle := cntF_le _ _ _ hI
        obtain ⟨r, h1, h2, h3⟩ := sets02_out cls h256 c (by omega)
        refine ⟨r, ?_, .inr ⟨by rw [hI, h2], h3⟩⟩
        simp only [whittleref02_Sets_b1]
        rw [show decide (((cls.length : Nat) : Int) < 256) = false from decide_eq_false (by omega), iteO_false, h1]; rfl) (s0 := -1) ⟨0, rfl, rfl⟩
    refine ⟨r, h1, ?_⟩
    rcases h2 with ⟨h2, h3⟩ | ⟨h2, h3⟩
    · exact .inl ⟨.inr h2, h3⟩
    · exact .inr ⟨h256, h2, h3⟩
  · rw [show decide (((cls.length : Nat) : Int) ≠ 256) = true from decide_eq_true (by omega), iteO_true]
    exact ⟨_, rfl, .inl ⟨.inl h256, rfl⟩⟩
theorem rgt_in (d : Dfa) (v : (List BSet) × Int) (k : Nat) (hv : (nth d.next k []).length = v.1.length) : ∃ r, iter (fun q : Nat => whittleref11_Right_b2 v d k q) 0 = some r ∧ (((nth d.next k []).all (goodS d.next.length) = true ∧ r = .inl (k + 1)) ∨ ((nth d.next k []).all (goodS d.next.length) = false ∧ r = .inr false)) :=
  iter_for (step := fun q : Nat => whittleref11_Right_b2 v d k q) (fun (_ : Unit) j => j) (nth d.next k []) 0 (fun pre _ => pre.all (goodS d.next.length) = true) (fun r => ((nth d.next k []).all (goodS d.next.length) = true ∧ r = .inl (k + 1)) ∨ ((nth d.next k []).all (goodS d.next.length) = false ∧ r = .inr false))
    (fun j s hj hI => by
      simp only [whittleref11_Right_b2]
      rw [show decide (((j : Nat) : Int) < ((v.1.length : Nat) : Int)) = true from decide_eq_true (by omega), iteO_true, grd_mk hj]
      by_cases c1 : nth (nth d.next k ([] : List Int)) j (0 : Int) < 0
      · right; rw [decide_eq_true c1, iteO_true]; exact ⟨_, rfl, .inr ⟨all_false_of hj 0 (by simp [goodS]; omega), rfl⟩⟩
      rw [decide_eq_false c1, iteO_false, grd_mk hj]
      by_cases c2 : ((d.next.length : Nat) : Int) ≤ nth (nth d.next k ([] : List Int)) j (0 : Int)
      · right; rw [decide_eq_true c2, iteO_true]; exact ⟨_, rfl, .inr ⟨all_false_of hj 0 (by simp [goodS]; omega), rfl⟩⟩
      rw [decide_eq_false c2, iteO_false]
      left
      exact ⟨(), rfl, by rw [all_snoc, hI]; simp [goodS]; omega⟩)
    (fun s hI => by
      simp only [whittleref11_Right_b2]
      rw [show decide ((((nth d.next k ([] : List Int)).length : Nat) : Int) < ((v.1.length : Nat) : Int)) = false from decide_eq_false (by omega), iteO_false]
      exact ⟨_, rfl, .inl ⟨hI, rfl⟩⟩) (s0 := ()) rfl
theorem rgt_out (d : Dfa) (v : (List BSet) × Int) : ∃ r, iter (fun q : Nat => whittleref11_Right_b1 d v q) 0 = some r ∧ r = d.next.all (goodR d.next.length v.1.length) :=
  iter_for (step := fun q : Nat => whittleref11_Right_b1 d v q) (fun (_ : Unit) j => j) d.next [] (fun pre _ => pre.all (goodR d.next.length v.1.length) = true) (fun r => r = d.next.all (goodR d.next.length v.1.length))
    (fun k s hk hI => by
      simp only [whittleref11_Right_b1]
      rw [show decide (((k : Nat) : Int) < ((d.next.length : Nat) : Int)) = true from decide_eq_true (by omega), iteO_true]
      by_cases c1 : (nth d.next k ([] : List Int)).length = v.1.length
      · rw [show decide ((((nth d.next k ([] : List Int)).length : Nat) : Int) ≠ ((v.1.length : Nat) : Int)) = false from decide_eq_false (by omega), iteO_false]
        obtain ⟨r, h1, h2 | h2⟩ := rgt_in d v k c1
        · left; rw [h1, h2.2]; exact ⟨(), rfl, by rw [all_snoc, hI]; simp [goodR, c1, h2.1]⟩
        · right; rw [h1, h2.2]; exact ⟨_, rfl, (all_false_of hk [] (by simp only [goodR, h2.1, Bool.and_false])).symm⟩
      · right
        rw [show decide ((((nth d.next k ([] : List Int)).length : Nat) : Int) ≠ ((v.1.length : Nat) : Int)) = true from decide_eq_true (by omega), iteO_true]
        exact ⟨_, rfl, (all_false_of hk [] (by simp [goodR, c1])).symm⟩)
    (fun s hI => by
      simp only [whittleref11_Right_b1]
      rw [show decide (((d.next.length : Nat) : Int) < ((d.next.length : Nat) : Int)) = false from decide_eq_false (by omega), iteO_false]
      exact ⟨_, rfl, hI.symm⟩) (s0 := ()) rfl
theorem right_eq (d : Dfa) : whittleref11_Right d = some (rightD d) := by
  unfold whittleref11_Right
  obtain ⟨v, hv, h⟩ := sets02_ok d.cls
  rw [bnd_some hv]
  rcases h with ⟨h1, h2⟩ | ⟨h1, h2, h3⟩
  · rw [decide_eq_true (show v.2 ≠ 0 by omega), iteO_true]
    rcases h1 with h1 | h1
    · simp [rightD, h1]
    · simp [rightD, h1]
  · rw [decide_eq_false (show ¬ v.2 ≠ 0 by omega), iteO_false]
    by_cases c1 : d.next.length < 1
    · rw [show decide (((d.next.length : Nat) : Int) < 1) = true from decide_eq_true (by omega), iteO_true]
      congr 1; symm; rw [Bool.eq_false_iff]; simp only [rightD, Ne, Bool.and_eq_true, decide_eq_true_eq]; omega
    rw [show decide (((d.next.length : Nat) : Int) < 1) = false from decide_eq_false (by omega), iteO_false]
    by_cases c2 : 1024 < d.next.length
    · rw [show decide (1024 < ((d.next.length : Nat) : Int)) = true from decide_eq_true (by omega), iteO_true]
      congr 1; symm; rw [Bool.eq_false_iff]; simp only [rightD, Ne, Bool.and_eq_true, decide_eq_true_eq]; omega
    rw [show decide (1024 < ((d.next.length : Nat) : Int)) = false from decide_eq_false (by omega), iteO_false]
    by_cases c3 : d.fin.length = d.next.length
    · rw [show decide (((d.fin.length : Nat) : Int) ≠ ((d.next.length : Nat) : Int)) = false from decide_eq_false (by omega), iteO_false]
      obtain ⟨r, hr, hr2⟩ := rgt_out d v
      rw [hr, hr2]
      congr 1
      simp only [rightD, h1, h2, c3, decide_true, Bool.true_and, Bool.and_true]
      rw [show decide (1 ≤ d.next.length ∧ d.next.length ≤ 1024) = true from decide_eq_true (by omega), Bool.and_true]
    · rw [show decide (((d.fin.length : Nat) : Int) ≠ ((d.next.length : Nat) : Int)) = true from decide_eq_true (by omega), iteO_true]
      congr 1; symm; rw [Bool.eq_false_iff]; simp only [rightD, Ne, Bool.and_eq_true, decide_eq_true_eq]; omega
theorem taken_loop {d : Dfa} (h : rightD d = true) (l : List UInt8) (hl : l.length ≤ 281474976710656) (j : Nat) (hj : j ≤ l.length) : ∀ (m i : Nat) (q : Int), j - i = m → i ≤ j → okS d q →
    iter (fun q : Int × Int => whittleref23_taken_b1 (j : Nat) d l q.1 q.2) (q, ((i : Nat) : Int)) = some (nth d.fin (runD d q ((l.take j).drop i)).toNat false)
  | 0, i, q, hm, hi, hq => by
    have hij : i = j := by omega
    subst hij
    have hf : 0 ≤ q ∧ q < (d.fin.length : Int) := by
      simp only [rightD, Bool.and_eq_true, decide_eq_true_eq] at h
      exact ⟨hq.1, by have := hq.2; omega⟩
    refine iter_done ?_
    simp only [whittleref23_taken_b1]
    rw [show decide (((i : Nat) : Int) < ((i : Nat) : Int)) = false from decide_eq_false (by omega), iteO_false, grd_mk hf]
    rw [List.drop_of_length_le (by rw [List.length_take]; omega)]; rfl
  | m + 1, i, q, hm, hi, hq => by
    have hs := dlt_ok h hq (nth l i (0 : UInt8))
    rw [part_step l (by omega) hj, runD, List.foldl_cons]
    refine iter_next ?_ (taken_loop h l hl j hj m (i + 1) (dlt d q (nth l i 0)) (by omega) (by omega) hs.nx)
    simp only [whittleref23_taken_b1]
    rw [show decide (((i : Nat) : Int) < ((j : Nat) : Int)) = true from decide_eq_true (by omega), iteO_true, grd_mk (show 0 ≤ q ∧ q < (d.next.length : Int) from hq), grd_mk (by omega), Int.toNat_natCast, grd_mk hs.cl, grd_mk hs.c, wrap64_of (by omega) (by omega)]
    rfl
theorem taken_eq {d : Dfa} (h : rightD d = true) (l : List UInt8) (hl : l.length ≤ 281474976710656) {i j : Nat} (hij : i ≤ j) (hj : j ≤ l.length) : whittleref23_taken d l (i : Nat) (j : Nat) = some (takD d l i j) := by
  unfold whittleref23_taken
  rw [grd_mk hl]
  exact taken_loop h l hl j hj _ i 0 rfl hij (ok0 h)
theorem rbef_in {d : Dfa} (h : rightD d = true) (l : List UInt8) (hl : l.length ≤ 4096) (out : List Bool) (ho : out.length ≤ 4097) (i : Nat) (hi : i ≤ l.length) :
    iter (fun q : Bool × Nat => whittleref23_Before_b2 i d l out q.1 q.2) (false, 0) = some (.inl (out ++ [anyTo d l i], i + 1)) := by
  obtain ⟨r, h1, rfl⟩ := iter_for (step := fun q : Bool × Nat => whittleref23_Before_b2 i d l out q.1 q.2) (fun s k => (s, k)) (List.range (i + 1)) 0 (fun pre s => s = pre.any fun j => takD d l j i) (fun r => r = .inl (out ++ [anyTo d l i], i + 1))
    (fun k s hk hI => by
      rw [List.length_range] at hk
      rw [nth_range hk]
      left
      refine ⟨s || takD d l k i, ?_, by rw [List.any_append, ← hI]; simp⟩
      simp only [whittleref23_Before_b2]
      rw [show decide (((k : Nat) : Int) ≤ ((i : Nat) : Int)) = true from decide_eq_true (by omega), iteO_true]
      cases s with
      | true => rw [iteO_true]; rfl
      | false => rw [iteO_false, bnd_some (taken_eq h l (by omega) (by omega) hi)]; rfl)
    (fun s hI => by
      rw [List.length_range]
      subst hI
      refine ⟨_, ?_, rfl⟩
      simp only [whittleref23_Before_b2]
      rw [show decide (((i + 1 : Nat) : Int) ≤ ((i : Nat) : Int)) = false from decide_eq_false (by omega), iteO_false, grd_mk (by simp; omega)]; rfl) (s0 := false) rfl
  exact h1
theorem wrong_eq (d : Dfa) (l : List UInt8) (hl : l.length ≤ 281474976710656) : whittleref23_wrong d l = some (wrongD d l) := by
  unfold whittleref23_wrong wrongD
  rw [grd_mk hl, bnd_some (right_eq d)]
  cases rightD d with
  | false => rfl
  | true =>
    rw [Bool.not_true, iteO_false, if_pos rfl]
    by_cases c : 4096 < l.length
    · rw [show decide (4096 < ((l.length : Nat) : Int)) = true from decide_eq_true (by omega), iteO_true, if_pos c]
    · rw [show decide (4096 < ((l.length : Nat) : Int)) = false from decide_eq_false (by omega), iteO_false, if_neg c]
theorem rbef_eq (d : Dfa) (l : List UInt8) (hl : l.length ≤ 281474976710656) : whittleref23_Before d l = some (if wrongD d l = 0 then (beforeD d l, 0) else ([], wrongD d l)) := by
  unfold whittleref23_Before
  rw [grd_mk hl, bnd_some (wrong_eq d l hl)]
  by_cases hw : wrongD d l = 0
  · rw [hw, show decide ((0 : Int) ≠ 0) = false from rfl, iteO_false, if_pos rfl]
    have hr : rightD d = true := by
      by_cases h : rightD d = true
      · exact h
      · rw [wrongD, if_neg h] at hw; cases hw
    have h4 : l.length ≤ 4096 := by
      rw [wrongD, if_pos hr] at hw
      by_cases c : 4096 < l.length
      · rw [if_pos c] at hw; cases hw
      · omega
    obtain ⟨r, h1, rfl⟩ := iter_for (step := fun q : (List Bool) × Nat => whittleref23_Before_b1 l d q.1 q.2) (fun s k => (s, k)) (List.range (l.length + 1)) 0 (fun pre s => s = pre.map (anyTo d l)) (fun r => r = (beforeD d l, 0))
      (fun k s hk hI => by
        rw [List.length_range] at hk
        rw [nth_range hk]
        left
        have hs : s.length = k := by rw [hI, List.length_map, List.length_take, List.length_range]; omega
        refine ⟨s ++ [anyTo d l k], ?_, by rw [List.map_append, ← hI]; rfl⟩
        simp only [whittleref23_Before_b1]
        rw [show decide (((k : Nat) : Int) ≤ ((l.length : Nat) : Int)) = true from decide_eq_true (by omega), iteO_true]
        exact rbef_in hr l h4 s (by omega) k (by omega))
      (fun s hI => by
        rw [List.length_range]
        refine ⟨(s, 0), ?_, by rw [hI]; rfl⟩
        simp only [whittleref23_Before_b1]
        rw [show decide (((l.length + 1 : Nat) : Int) ≤ ((l.length : Nat) : Int)) = false from decide_eq_false (by omega), iteO_false]; rfl) (s0 := []) rfl
    exact h1
  · rw [decide_eq_true hw, iteO_true, if_neg hw]
theorem raft_in {d : Dfa} (h : rightD d = true) (l : List UInt8) (hl : l.length ≤ 4096) (out : List Bool) (ho : out.length ≤ 4097) (i : Nat) (hi : i ≤ l.length) :
    iter (fun q : Bool × Nat => whittleref23_After_b2 l d i out q.1 q.2) (false, i) = some (.inl (out ++ [anyFrom d l i], i + 1)) := by
  obtain ⟨r, h1, rfl⟩ := iter_for (step := fun q : Bool × Nat => whittleref23_After_b2 l d i out q.1 q.2) (fun s k => (s, i + k)) (List.range (l.length + 1 - i)) 0 (fun pre s => s = pre.any fun j => takD d l i (i + j)) (fun r => r = .inl (out ++ [anyFrom d l i], i + 1))
    (fun k s hk hI => by
      rw [List.length_range] at hk
      rw [nth_range hk]
      left
      refine ⟨s || takD d l i (i + k), ?_, by rw [List.any_append, ← hI]; simp⟩
      simp only [whittleref23_After_b2]
      rw [show decide (((i + k : Nat) : Int) ≤ ((l.length : Nat) : Int)) = true from decide_eq_true (by omega), iteO_true]
      cases s with
      | true => rw [iteO_true]; rfl
      | false => rw [iteO_false, bnd_some (taken_eq h l (by omega) (by omega) (by omega))]; rfl)
    (fun s hI => by
      rw [List.length_range]
      subst hI
      refine ⟨_, ?_, rfl⟩
      simp only [whittleref23_After_b2]
      rw [show decide (((i + (l.length + 1 - i) : Nat) : Int) ≤ ((l.length : Nat) : Int)) = false from decide_eq_false (by omega), iteO_false, grd_mk (by simp; omega)]; rfl) (s0 := false) rfl
  exact h1
theorem raft_eq (d : Dfa) (l : List UInt8) (hl : l.length ≤ 281474976710656) : whittleref23_After d l = some (if wrongD d l = 0 then (afterD d l, 0) else ([], wrongD d l)) := by
  unfold whittleref23_After
  rw [grd_mk hl, bnd_some (wrong_eq d l hl)]
  by_cases hw : wrongD d l = 0
  · rw [hw, show decide ((0 : Int) ≠ 0) = false from rfl, iteO_false, if_pos rfl]
    have hr : rightD d = true := by
      by_cases h : rightD d = true
      · exact h
      · rw [wrongD, if_neg h] at hw; cases hw
    have h4 : l.length ≤ 4096 := by
      rw [wrongD, if_pos hr] at hw
      by_cases c : 4096 < l.length
      · rw [if_pos c] at hw; cases hw
      · omega
    obtain ⟨r, h1, rfl⟩ := iter_for (step := fun q : (List Bool) × Nat => whittleref23_After_b1 l d q.1 q.2) (fun s k => (s, k)) (List.range (l.length + 1)) 0 (fun pre s => s = pre.map (anyFrom d l)) (fun r => r = (afterD d l, 0))
      (fun k s hk hI => by
        rw [List.length_range] at hk
        rw [nth_range hk]
        left
        have hs : s.length = k := by rw [hI, List.length_map, List.length_take, List.length_range]; omega
        refine ⟨s ++ [anyFrom d l k], ?_, by rw [List.map_append, ← hI]; rfl⟩
        simp only [whittleref23_After_b1]
        rw [show decide (((k : Nat) : Int) ≤ ((l.length : Nat) : Int)) = true from decide_eq_true (by omega), iteO_true]
        exact raft_in hr l h4 s (by omega) k (by omega))
      (fun s hI => by
        rw [List.length_range]
        refine ⟨(s, 0), ?_, by rw [hI]; rfl⟩
        simp only [whittleref23_After_b1]
        rw [show decide (((l.length + 1 : Nat) : Int) ≤ ((l.length : Nat) : Int)) = false from decide_eq_false (by omega), iteO_false]; rfl) (s0 := []) rfl
    exact h1
  · rw [decide_eq_true hw, iteO_true, if_neg hw]
theorem rfac_j1 (p to : Nat) (r : List Span) (hr : r.length ≤ 5000) : whittleref23_Factors_j1 p r to = some (if to = p then .inl (r, p + 1) else .inl (r ++ [⟨((p : Nat) : Int), ((to : Nat) : Int)⟩], to)) := by
  unfold whittleref23_Factors_j1
  by_cases c : to = p
  · rw [iteO_dt (by omega), if_pos c]; rfl
  · rw [iteO_df (by omega), if_neg c, grd_mk (by simp only [List.length_cons, List.length_nil]; omega)]; rfl
theorem rfac_in {d : Dfa} (h : rightD d = true) (be af : List Bool) (e1 e2 : Int) (l : List UInt8) (hl : l.length ≤ 4096) (hb : be.length = l.length + 1) (ha : af.length = l.length + 1) (p : Nat) (hp : p < l.length) (r : List Span) (hr : r.length ≤ 5000) (hbp : nth be p false = true) : ∀ (m k : Nat), l.length - k = m → p ≤ k → k ≤ l.length →
    iter (fun q : Nat × Nat => whittleref23_Factors_b2 l p (be, e1) (af, e2) d r q.1 q.2) (keepF d af l p k, k + 1) = whittleref23_Factors_j1 p r (facTo d be af l p) := by
  intro m
  induction m with
  | zero =>
    intro k hm hpk hk
    have e : k = l.length := by omega
    subst e
    rw [rfac_j1 _ _ _ hr]
    refine iter_done ?_
    simp only [whittleref23_Factors_b2]
    rw [iteO_df (by omega), facTo, if_pos hbp, rfac_j1 _ _ _ hr]; rfl
  | succ m ih =>
    intro k hm hpk hk
    have := ih (k + 1) (by omega) (by omega) (by omega)
    rw [← this]
    refine iter_inl ?_
    simp only [whittleref23_Factors_b2, whittleref23_Factors_j2]
    rw [iteO_dt (by omega), grd_mk (by omega), hbp, iteO_true, grd_mk (by omega), keepF]
    cases ht : nth af (k + 1) false with
    | false => rw [iteO_false, if_neg (by simp)]; rfl
    | true =>
      rw [iteO_true, bnd_some (taken_eq h l (by omega) (i := p) (j := k + 1) (by omega) (by omega))]
      cases htk : takD d l p (k + 1) with
      | true => rw [iteO_true, if_pos ⟨by omega, rfl, rfl⟩]; rfl
      | false => rw [iteO_false, if_neg (by simp)]; rfl
theorem rfac_loop {d : Dfa} (h : rightD d = true) (be af : List Bool) (e1 e2 : Int) (l : List UInt8) (hl : l.length ≤ 4096) (hb : be.length = l.length + 1) (ha : af.length = l.length + 1) : ∀ (n p : Nat) (r : List Span), l.length ≤ p + n → p ≤ l.length → r.length ≤ p →
    iter (fun q : (List Span) × Nat => whittleref23_Factors_b1 l (be, e1) (af, e2) d q.1 q.2) (r, p) = some (r ++ facs d be af l n p, 0)
  | 0, p, r, hn, hp, hr => by
    refine iter_done ?_
    simp only [whittleref23_Factors_b1]
    rw [iteO_df (by omega), facs, List.append_nil]; rfl
  | n + 1, p, r, hn, hp, hr => by
    by_cases c : p < l.length
    · have ht := facTo_le d be af l hp
      have hg := facTo_ge d be af l p
      have key : whittleref23_Factors_b1 l (be, e1) (af, e2) d r p = whittleref23_Factors_j1 p r (facTo d be af l p) := by
        simp only [whittleref23_Factors_b1]
        rw [iteO_dt (by omega)]
        cases hbp : nth be p false with
        | true =>
          have := rfac_in h be af e1 e2 l hl hb ha p c r (by omega) hbp _ p rfl (Nat.le_refl _) hp
          rw [keepF_low d af l p p (Nat.le_refl _)] at this
          exact this
        | false =>
          have hf : facTo d be af l p = p := by rw [facTo, hbp, if_neg (by simp)]
          rw [hf, rfac_j1 _ _ _ (by omega)]
          refine iter_done ?_
          show whittleref23_Factors_b2 l p (be, e1) (af, e2) d r p (p + 1) = _
          unfold whittleref23_Factors_b2
          rw [iteO_dt (by omega), grd_mk (by show p < be.length; omega), hbp, iteO_false, rfac_j1 _ _ _ (by omega)]; rfl
      rw [rfac_j1 _ _ _ (by omega)] at key
      rw [facs, if_pos c]
      by_cases e : facTo d be af l p = p
      · rw [if_pos e] at key ⊢
        exact iter_next (s' := (r, p + 1)) key (rfac_loop h be af e1 e2 l hl hb ha n (p + 1) r (by omega) (by omega) (by omega))
      · rw [if_neg e] at key ⊢
        refine iter_next (s' := (r ++ [⟨((p : Nat) : Int), ((facTo d be af l p : Nat) : Int)⟩], facTo d be af l p)) key ?_
        rw [rfac_loop h be af e1 e2 l hl hb ha n (facTo d be af l p) _ (by omega) ht (by rw [List.length_append]; simp only [List.length_cons, List.length_nil]; omega), List.append_assoc]; rfl
    · refine iter_done ?_
      simp only [whittleref23_Factors_b1]
      rw [iteO_df (by omega), facs, if_neg c, List.append_nil]; rfl
theorem rfac_eq (d x y : Dfa) (l : List UInt8) (hl : l.length ≤ 281474976710656) : whittleref23_Factors d x y l = some (if wrongF d x y l = 0 then (facD d x y l, 0) else ([], wrongF d x y l)) := by
  unfold whittleref23_Factors
  rw [grd_mk hl, right_eq, bnd_mk]
  cases h1 : rightD d with
  | false => rw [iteO_nf, if_neg (by simp [wrongF, h1])]; simp [wrongF, h1]
  | true =>
    rw [iteO_nt, right_eq, bnd_mk]
    cases h2 : rightD x with
    | false => rw [iteO_nf, if_neg (by simp [wrongF, h2])]; simp [wrongF, h2]
    | true =>
      rw [iteO_nt, right_eq, bnd_mk]
      cases h3 : rightD y with
      | false => rw [iteO_nf, if_neg (by simp [wrongF, h3])]; simp [wrongF, h3]
      | true =>
        rw [iteO_nt, rbef_eq x l hl, bnd_mk]
        by_cases c : 4096 < l.length
        · have w1 : wrongD x l = 2 := by rw [wrongD, if_pos h2, if_pos c]
          have w2 : wrongF d x y l = 2 := by rw [wrongF, if_pos ⟨h1, h2, h3⟩, if_pos c]
          rw [w1, w2, if_neg (by decide), if_neg (by decide)]; rfl
        · have w1 : wrongD x l = 0 := by rw [wrongD, if_pos h2, if_neg c]
          have w2 : wrongD y l = 0 := by rw [wrongD, if_pos h3, if_neg c]
          have w3 : wrongF d x y l = 0 := by rw [wrongF, if_pos ⟨h1, h2, h3⟩, if_neg c]
          rw [w1, w3, if_pos rfl, if_pos rfl]
          simp only []
          rw [iteO_df (by omega), raft_eq y l hl, bnd_mk, w2, if_pos rfl]
          exact rfac_loop h1 (beforeD x l) (afterD y l) 0 0 l (by omega) (beforeD_len x l) (afterD_len y l) l.length 0 [] (by omega) (by omega) (by simp)
end Go.Proofs.YtmfclggfajopkaaGreatDoor
end
