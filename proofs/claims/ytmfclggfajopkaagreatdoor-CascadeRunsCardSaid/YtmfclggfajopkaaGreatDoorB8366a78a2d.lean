/- Parts of a proof, one behind the other: what a machine reaches, functions decompiled, plain lemmas. Conditions stand with each lemma. -/
import Derived.Test.YtmfclggfajopkaaGreatDoorB7934b6a072
import Derived.Test.YtmfclggfajopkaaGreatDoorBbf87f2988f
import Derived.Lib.Builder
import Derived.Lib.AppendStr
import Derived.Lib.UnsafeStr

/- S1b -/
section
/- Decompiled: an automaton that goes one way, from one that may go many. -/
set_option linter.unusedVariables false
set_option linter.unusedSimpArgs false
namespace Go.Proofs.YtmfclggfajopkaaGreatDoor
open Go Go.E Go.E.OpVal Go.E.OpOk Go.Proofs.Tryz
set_option maxRecDepth 100000
private theorem ag137 : Go.E.aggOf Tryz.prog 137 = some false := by kernel_rfl
private theorem ag138 : Go.E.aggOf Tryz.prog 138 = some false := by kernel_rfl
private theorem ag23 : Go.E.aggOf Tryz.prog 23 = some false := by kernel_rfl
private theorem ag24 : Go.E.aggOf Tryz.prog 24 = some false := by kernel_rfl
private theorem ag26 : Go.E.aggOf Tryz.prog 26 = some true := by kernel_rfl
private theorem ag37 : Go.E.aggOf Tryz.prog 37 = some false := by kernel_rfl
private theorem by22 : Go.E.byOf Tryz.prog 22 = some 24 := by kernel_rfl
private theorem by78 : Go.E.byOf Tryz.prog 78 = some 24 := by kernel_rfl
private theorem fo26_1 : Go.E.foOf Tryz.prog 26 1 = some 1 := by kernel_rfl
private theorem fo26_2 : Go.E.foOf Tryz.prog 26 2 = some 2 := by kernel_rfl
private theorem pf110 : Go.E.plainF Tryz.prog 110 = true := by kernel_rfl
private theorem pf77 : Go.E.plainF Tryz.prog 77 = true := by kernel_rfl
private theorem pf78 : Go.E.plainF Tryz.prog 78 = true := by kernel_rfl
private theorem pf79 : Go.E.plainF Tryz.prog 79 = true := by kernel_rfl
private theorem pf80 : Go.E.plainF Tryz.prog 80 = true := by kernel_rfl
private theorem pf81 : Go.E.plainF Tryz.prog 81 = true := by kernel_rfl
private theorem pf82 : Go.E.plainF Tryz.prog 82 = true := by kernel_rfl
private theorem pf83 : Go.E.plainF Tryz.prog 83 = true := by kernel_rfl
private theorem pf84 : Go.E.plainF Tryz.prog 84 = true := by kernel_rfl
private theorem pf85 : Go.E.plainF Tryz.prog 85 = true := by kernel_rfl
private theorem pl26 : Go.E.plOf Tryz.prog 26 = some #[(0, 1), (1, 1), (2, 1)] := by kernel_rfl
private theorem sz137 : Go.E.szOf Tryz.prog 137 = some 1 := by kernel_rfl
private theorem sz138 : Go.E.szOf Tryz.prog 138 = some 1 := by kernel_rfl
private theorem sz22 : Go.E.szOf Tryz.prog 22 = some 1 := by kernel_rfl
private theorem sz23 : Go.E.szOf Tryz.prog 23 = some 1 := by kernel_rfl
private theorem sz24 : Go.E.szOf Tryz.prog 24 = some 1 := by kernel_rfl
private theorem sz26 : Go.E.szOf Tryz.prog 26 = some 3 := by kernel_rfl
private theorem sz37 : Go.E.szOf Tryz.prog 37 = some 1 := by kernel_rfl
private theorem ze137 : Go.E.zeroOf Tryz.prog 137 = some (.slice none 0 0) := by kernel_rfl
private theorem ze138 : Go.E.zeroOf Tryz.prog 138 = some (.pointer none) := by kernel_rfl
private theorem ze22 : Go.E.zeroOf Tryz.prog 22 = some (.slice none 0 0) := by kernel_rfl
private theorem ze26 : Go.E.zeroOf Tryz.prog 26 = some (.agg #[.slice none 0 0, .slice none 0 0, .slice none 0 0]) := by kernel_rfl
private theorem ze37 : Go.E.zeroOf Tryz.prog 37 = some (.int .i64 0) := by kernel_rfl
private theorem ze78 : Go.E.zeroOf Tryz.prog 78 = some (.slice none 0 0) := by kernel_rfl

noncomputable def dfa_Of_j1 (l130 : List (List Arrow)) (x0 : Nfa) (k134 : Nat) : Option (((List (List Arrow)) × Nat) ⊕ (Dfa × Int)) :=
 nxt ((l130.set (((nth x0.edges k134 Arrow.zero).frm).toNat) ((nth l130 (((nth x0.edges k134 Arrow.zero).frm).toNat) ([] : List Arrow)) ++ [(nth x0.edges k134 Arrow.zero)])), (k134 + 1))
noncomputable def dfa_Of_j2 (k323 : Nat) (t335 : Bool) : Option ((Bool × Nat) ⊕ ((Int × (List (List Int)) × (FM (List UInt8) Int) × (List (List Int)) × (List Bool) × Nat) ⊕ (Dfa × Int))) :=
 nxt (t335, (k323 + 1))
noncomputable def dfa_Of_r256 (l130 : List (List Arrow)) (v116 : (List Int) × Int) (i388 : Int) (l391 : List (List Int)) (m397 : FM (List UInt8) Int) (l401 : List Int) (y256_0 : Int) (y256_1 : BSet) : Option (Nat × (Int × (List (List Int)) × (FM (List UInt8) Int) × (List Int))) :=
 bnd (dfa_behind l130 v116.1 y256_1) (fun v161 => bnd (putKeep (⟨(⟨l391, m397⟩ : IStore)⟩ : ITable) v161) (fun v162 => iteO (decide (v162.2.2.1 ≠ 0)) (some (1, (v162.2.2.1, v162.2.2.2.of.rows, v162.2.2.2.of.places, l401))) (iteO (decide (1024 ≤ v162.1)) (some (1, (2, v162.2.2.2.of.rows, v162.2.2.2.of.places, l401))) (grd (0 ≤ y256_0 ∧ y256_0 < (l401.length : Int)) (some (0, (i388, v162.2.2.2.of.rows, v162.2.2.2.of.places, (l401.set y256_0.toNat v162.1))))))))
noncomputable def dfa_Of_k256 (l277 : List (List Int)) (l283 : List Bool) (t322 : Bool) (k286 : Nat) (jz : Nat) (i388 : Int) (l391 : List (List Int)) (m397 : FM (List UInt8) Int) (l401 : List Int) : Option ((Int × (List (List Int)) × (FM (List UInt8) Int) × (List (List Int)) × (List Bool) × Nat) ⊕ (Dfa × Int)) :=
 jsel jz (grd ((l277.length + [l401].length) * 24 ≤ 140737488355328) (grd ((l283.length + [t322].length) * 1 ≤ 140737488355328) (grd (k286 + 1 ≤ 9223372036854775807) (nxt (i388, l391, m397, (l277 ++ [l401]), (l283 ++ [t322]), (k286 + 1)))))) (fun j_ => jsel j_ (fin (some ((⟨([] : List Int), ([] : List (List Int)), ([] : List Bool)⟩ : Dfa), i388))) (fun _ => none))
noncomputable def dfa_Of_b4 (v116 : (List Int) × Int) (l193 : List Bool) (v13 : (List BSet) × Int) (l130 : List (List Arrow)) (i264 : Int) (l268 : List (List Int)) (m274 : FM (List UInt8) Int) (l277 : List (List Int)) (l283 : List Bool) (k286 : Nat) (t322 : Bool) (k323 : Nat) : Option ((Bool × Nat) ⊕ ((Int × (List (List Int)) × (FM (List UInt8) Int) × (List (List Int)) × (List Bool) × Nat) ⊕ (Dfa × Int))) :=
 iteO (decide (((k323 : Nat) : Int) < ((v116.1.length : Nat) : Int))) (iteO t322 (dfa_Of_j2 k323 true) (grd (0 ≤ (nth v116.1 k323 (0 : Int)) ∧ (nth v116.1 k323 (0 : Int)) < (l193.length : Int)) (dfa_Of_j2 k323 (nth l193 ((nth v116.1 k323 (0 : Int)).toNat) false)))) (fin (grd (8 * v13.1.length ≤ 281474976710656) (bnd (dfa_classes v13.1) (fun v153 => bnd (dfa_classes_1 (stepY (fun (q : Int × (List (List Int)) × (FM (List UInt8) Int) × (List Int)) (x : Int × BSet) => dfa_Of_r256 l130 v116 q.1 q.2.1 q.2.2.1 q.2.2.2 x.1 x.2)) (0, (i264, l268, m274, (List.replicate v13.1.length (0 : Int)))) v153) (fun zr256 => dfa_Of_k256 l277 l283 t322 k286 zr256.1 zr256.2.1 zr256.2.2.1 zr256.2.2.2.1 zr256.2.2.2.2)))))
noncomputable def dfa_Of_b3 (l193 : List Bool) (v13 : (List BSet) × Int) (l130 : List (List Arrow)) (v26 : (List Int) × Int) (i264 : Int) (l268 : List (List Int)) (m274 : FM (List UInt8) Int) (l277 : List (List Int)) (l283 : List Bool) (k286 : Nat) : Option ((Int × (List (List Int)) × (FM (List UInt8) Int) × (List (List Int)) × (List Bool) × Nat) ⊕ (Dfa × Int)) :=
 bnd (intern_Table_Size (⟨(⟨l268, m274⟩ : IStore)⟩ : ITable)) (fun v112 => iteO (decide (((k286 : Nat) : Int) < v112)) (bnd (intern_Table_Row (⟨(⟨l268, m274⟩ : IStore)⟩ : ITable) ((k286 : Nat) : Int)) (fun v116 => iteO (decide (v116.2 ≠ 0)) (fin (some ((⟨([] : List Int), ([] : List (List Int)), ([] : List Bool)⟩ : Dfa), v116.2))) (iter (fun q : Bool × Nat => dfa_Of_b4 v116 l193 v13 l130 i264 l268 m274 l277 l283 k286 q.1 q.2) (false, 0)))) (fin (some ((⟨v26.1, l277, l283⟩ : Dfa), 0))))
noncomputable def dfa_Of_b2 (x0 : Nfa) (v13 : (List BSet) × Int) (l130 : List (List Arrow)) (v26 : (List Int) × Int) (l193 : List Bool) (k195 : Nat) : Option (((List Bool) × Nat) ⊕ (Dfa × Int)) :=
 iteO (decide (((k195 : Nat) : Int) < ((x0.ends.length : Nat) : Int))) (grd (0 ≤ (nth x0.ends k195 (0 : Int)) ∧ (nth x0.ends k195 (0 : Int)) < (l193.length : Int)) (nxt ((l193.set ((nth x0.ends k195 (0 : Int)).toNat) true), (k195 + 1)))) (fin (bnd (intern_New) (fun v85 => bnd (intern_Table_Put (⟨(⟨v85.of.rows, v85.of.places⟩ : IStore)⟩ : ITable) x0.starts) (fun v91 => iteO (decide (v91.2.2.1 ≠ 0)) (some ((⟨([] : List Int), ([] : List (List Int)), ([] : List Bool)⟩ : Dfa), v91.2.2.1)) (iter (fun q : Int × (List (List Int)) × (FM (List UInt8) Int) × (List (List Int)) × (List Bool) × Nat => dfa_Of_b3 l193 v13 l130 v26 q.1 q.2.1 q.2.2.1 q.2.2.2.1 q.2.2.2.2.1 q.2.2.2.2.2) (0, v91.2.2.2.of.rows, v91.2.2.2.of.places, ([] : List (List Int)), ([] : List Bool), 0))))))
noncomputable def dfa_Of_b1 (x0 : Nfa) (v13 : (List BSet) × Int) (v26 : (List Int) × Int) (l130 : List (List Arrow)) (k134 : Nat) : Option (((List (List Arrow)) × Nat) ⊕ (Dfa × Int)) :=
 iteO (decide (((k134 : Nat) : Int) < ((x0.edges.length : Nat) : Int))) (grd (0 ≤ ((nth x0.edges k134 Arrow.zero).frm) ∧ ((nth x0.edges k134 Arrow.zero).frm) < (l130.length : Int)) (grd (((nth l130 (((nth x0.edges k134 Arrow.zero).frm).toNat) ([] : List Arrow)).length + [(nth x0.edges k134 Arrow.zero)].length) * 48 ≤ 140737488355328) (grd (0 ≤ ((nth x0.edges k134 Arrow.zero).frm) ∧ ((nth x0.edges k134 Arrow.zero).frm) < (l130.length : Int)) (dfa_Of_j1 l130 x0 k134)))) (fin (grd (0 ≤ x0.states ∧ 1 * x0.states.toNat ≤ 281474976710656) (iter (fun q : (List Bool) × Nat => dfa_Of_b2 x0 v13 l130 v26 q.1 q.2) ((List.replicate x0.states.toNat false), 0))))
noncomputable def dfa_Of (x0 : Nfa) : Option (Dfa × Int) :=
 iteO (decide ((errB (checkB x0)) ≠ 0)) (some ((⟨([] : List Int), ([] : List (List Int)), ([] : List Bool)⟩ : Dfa), 1)) (bnd (dfa_unlike x0.edges) (fun v12 => bnd (part_Parts v12) (fun v13 => iteO (decide (v13.2 ≠ 0)) (some ((⟨([] : List Int), ([] : List (List Int)), ([] : List Bool)⟩ : Dfa), v13.2)) (bnd (part_Class v13.1) (fun v26 => iteO (decide (v26.2 ≠ 0)) (some ((⟨([] : List Int), ([] : List (List Int)), ([] : List Bool)⟩ : Dfa), v26.2)) (grd (0 ≤ x0.states ∧ 24 * x0.states.toNat ≤ 281474976710656) (iter (fun q : (List (List Arrow)) × Nat => dfa_Of_b1 x0 v13 v26 q.1 q.2) ((List.replicate x0.states.toNat ([] : List Arrow)), 0))))))))
def dfa_Of_P (σ : Store) (r : Dfa × Int) : Value → Store → List Res → Prop := fun v σ' H' =>
 ∃ (a1 : Option Addr), ∃ (c1 : Nat), ∃ (a2 : Option Addr), ∃ (c2 : Nat), ∃ (a3 : Option Addr), ∃ (c3 : Nat),  v = .tuple #[.agg #[.slice a1 r.1.cls.length c1, .slice a2 r.1.next.length c2, .slice a3 r.1.fin.length c3], .int .i64 r.2] ∧ RS σ' 1 Go.E.encI (.slice a1 r.1.cls.length c1) r.1.cls ∧ RZ σ' (pkSl 1 Go.E.encI Go.E.encI_len) (.slice a2 r.1.next.length c2) r.1.next ∧ RS σ' 1 encB (.slice a3 r.1.fin.length c3) r.1.fin ∧ H' = []
set_option maxHeartbeats 8000000 in
theorem dfa_Of_con {σ : Store} {x0 : Nfa} {a0_0 : Option Addr} {c0_0 : Nat} {a0_1 : Option Addr} {c0_1 : Nat} {a0_2 : Option Addr} {c0_2 : Nat} (hgl : GT σ 0 encU8 deB) (f0_0 : RS σ 1 Go.E.encI (.slice a0_0 x0.starts.length c0_0) x0.starts) (f0_1 : RS σ 1 Go.E.encI (.slice a0_1 x0.ends.length c0_1) x0.ends) (f0_2 : RS σ 6 encE (.slice a0_2 x0.edges.length c0_2) x0.edges) {r : Dfa × Int} (hh : dfa_Of x0 = some r) :
  Con Tryz.prog 41 #[.agg #[.int .i64 x0.states, .slice a0_0 x0.starts.length c0_0, .slice a0_1 x0.ends.length c0_1, .slice a0_2 x0.edges.length c0_2]] σ [] (dfa_Of_P σ r) := by
 dsimp only [dfa_Of] at hh
 have f0_0b := f0_0.rv.big
 have f0_1b := f0_1.rv.big
 have f0_2b := f0_2.rv.big
 refine Con.mk (n := 177) Tryz.func41 z z z (fun w0 => ?_)
 refine TC.a (TL.op z (boxA z z z z (fun b101 => ?_)))
 refine TL.op z (OpOk.alloc z ze26 z z (fun b103 => ?_))
 refine TL.op z (OpOk.alloc z ze37 z z (fun b105 => ?_))
 refine TL.en (TC.seq (TC.a (TL.w z (loadAll z ag80 sz80 z (i := 2) z z) (TL.op z (callP (check_con _ x0 ⟨a0_0, c0_0, a0_1, c0_1, a0_2, c0_2⟩ ⟨f0_0, f0_1, f0_2, fun x _ => x.set.isOk⟩) z z pf72 z z z ?_)))))
 refine TL.w z (OpVal.neq z z z) (TL.en (TC.cD z hh (fun h107 hh => ?_) (fun h107 hh => ?_)))
 ·refine TC.a (TL.w z (buildL z pl26 ze26 z) (TL.front 1 z z (TL.op z (storeAll z sz26 z z z z z z ?_))))
  refine TL.front 1 z z (TL.op z (storeI z sz37 z z z z z ?_))
  refine TL.en (TC.ofSub (Sub.f [1] 2) (TC.ret (S.r ?_)))
  obtain rfl := so hh
  exact ro [] z (RVs.agg ag26 sz26 z (i := 0) z z (RVs.one ag37 z (i := 1) z z RVs.nil)) ⟨none, 0, none, 0, none, 0, z, (RS.nilF _ Go.E.encI Go.E.encI_len), (RZ.nilF _ (pkSl 1 Go.E.encI Go.E.encI_len)), (RS.nilF _ encB encB_len), z⟩
 ·refine TC.skip (S.n (TC.a (TL.w z (fieldLoc z fo80_3 z) (TL.w z (loadLoc z ag78 z (i := 2) z z) ?_))))
  obtain ⟨v12, u12, hh⟩ := bnd_e hh
  refine TL.op z (OpOk.call (dfa_unlike_con f0_2 u12) z z pf78 z z z z ?_)
  rintro _ τ108 _ hle108 ⟨a108_1, c108_1, rfl, hr108_0, rfl⟩
  replace f0_0 := f0_0.mono hle108
  replace f0_1 := f0_1.mono hle108
  replace f0_2 := f0_2.mono hle108
  replace hgl := hgl.mono hle108
  have hr108_0b := hr108_0.rv.big
  obtain ⟨v13, u13, hh⟩ := bnd_e hh
  refine TL.op z (OpOk.call (part_Parts_con hr108_0 u13) z z pf77 z z z z ?_)
  rintro _ τ109 _ hle109 ⟨a109_1, c109_1, rfl, hr109_0, rfl⟩
  replace f0_0 := f0_0.mono hle109
  replace f0_1 := f0_1.mono hle109
  replace f0_2 := f0_2.mono hle109
  replace hgl := hgl.mono hle109
  have hr109_0b := hr109_0.rv.big
  refine TL.w z (moveT (.inl z) z) (TL.w z (OpVal.extract z z z) (TL.w z (OpVal.extract z z z) (TL.s z z (TL.i z z (TL.en (TC.seq (TC.a (TL.i z z (TL.w z (OpVal.neq z z z) (TL.en (TC.cD z hh (fun h110 hh => ?_) (fun h110 hh => ?_))))))))))))
  ·refine TC.a (TL.w z (buildL z pl26 ze26 z) (TL.i z z (TL.front 1 z z (TL.op z (storeAll z sz26 z z z z z z ?_)))))
   refine TL.front 1 z z (TL.op z (storeI z sz37 z z z z z ?_))
   refine TL.en (TC.ofSub (Sub.f [1] 2) (TC.ret (S.r ?_)))
   obtain rfl := so hh
   exact ro [] z (RVs.agg ag26 sz26 z (i := 0) z z (RVs.one ag37 z (i := 1) z z RVs.nil)) ⟨none, 0, none, 0, none, 0, z, (RS.nilF _ Go.E.encI Go.E.encI_len), (RZ.nilF _ (pkSl 1 Go.E.encI Go.E.encI_len)), (RS.nilF _ encB encB_len), z⟩
  ·refine TC.skip (S.n (TC.a (TL.s z z ?_)))
   obtain ⟨v26, u26, hh⟩ := bnd_e hh
   refine TL.op z (OpOk.call (part_Class_con hgl hr109_0 u26) z z pf79 z z z z ?_)
   rintro _ τ111 _ hle111 ⟨a111_1, c111_1, rfl, hr111_0, rfl⟩
   replace f0_0 := f0_0.mono hle111
   replace f0_1 := f0_1.mono hle111
   replace f0_2 := f0_2.mono hle111
   replace hgl := hgl.mono hle111
   replace hr109_0 := hr109_0.mono hle111
   have hr111_0b := hr111_0.rv.big
   refine TL.w z (moveT (.inl z) z) (TL.w z (OpVal.extract z z z) (TL.w z (OpVal.extract z z z) (TL.s z z (TL.i z z (TL.en (TC.seq (TC.a (TL.i z z (TL.w z (OpVal.neq z z z) (TL.en (TC.cD z hh (fun h112 hh => ?_) (fun h112 hh => ?_))))))))))))
   ·refine TC.a (TL.w z (buildL z pl26 ze26 z) (TL.i z z (TL.front 1 z z (TL.op z (storeAll z sz26 z z z z z z ?_)))))
    refine TL.front 1 z z (TL.op z (storeI z sz37 z z z z z ?_))
    refine TL.en (TC.ofSub (Sub.f [1] 2) (TC.ret (S.r ?_)))
    obtain rfl := so hh
    exact ro [] z (RVs.agg ag26 sz26 z (i := 0) z z (RVs.one ag37 z (i := 1) z z RVs.nil)) ⟨none, 0, none, 0, none, 0, z, (RS.nilF _ Go.E.encI Go.E.encI_len), (RZ.nilF _ (pkSl 1 Go.E.encI Go.E.encI_len)), (RS.nilF _ encB encB_len), z⟩
   ·refine TC.skip (S.n (TC.a (TL.w z (fieldLoc z fo80_0 z) (TL.w z (loadLoc z ag3 z (i := 2) z z) ?_))))
    have u40 := grd_c hh
    replace hh := grd_t hh
    refine TL.op rfl (makeN (q := x0.states.toNat) (E := 126) (size := 6) (enc := encE) rfl underlying137 sz78 by78 ze78 rfl rfl (by show Value.int _ _ = _; rw [Int.toNat_of_nonneg u40.1]) (by show Value.int _ _ = _; rw [Int.toNat_of_nonneg u40.1]) (by omega) (by decide) rfl (fun a113 c114 zf115 => ?_))
    refine TL.op z (OpOk.alloc z ze137 z z (fun b117 => ?_))
    refine TL.op z (storeSl z sz137 z z z z z ?_)
    refine TL.en (TC.seq (TC.a (TL.w z (fieldLoc z fo80_3 z) (TL.w z (loadLoc z ag78 z (i := 4) z z) (TL.w z (lenC z underlying78 z) (TL.i z z (TL.en (TC.block (TC.loopG (α := ((List (List Arrow)) × Nat) × ((List (NP Arrow)))) (rgs [(9, 1), (60, 17)]) (fun g => [(60, .int .i64 ((g.1.2 : Nat) : Int))]) (fun g => [Res.cells b101 #[.int .i64 x0.states, .slice a0_0 x0.starts.length c0_0, .slice a0_1 x0.ends.length c0_1, .slice a0_2 x0.edges.length c0_2] 80, Res.cells b103 #[.slice none 0 0, .slice none 0 0, .slice none 0 0] 26, Res.cells b105 #[.int .i64 0] 37, Res.cells b117 #[.slice a113 ((List.replicate x0.states.toNat ([] : List Arrow)).length) c114] 137, Res.nest 78 126 6 encE (.slice a113 (List.replicate x0.states.toNat ([] : List Arrow)).length c114) g.2]) (fun g => τ111) (fun g => iter (fun q : (List (List Arrow)) × Nat => dfa_Of_b1 x0 v13 v26 q.1 q.2) g.1 = some r ∧ g.1.1.length = (List.replicate x0.states.toNat ([] : List Arrow)).length ∧ Zn g.2 g.1.1) (fun g => rounds (fun q : (List (List Arrow)) × Nat => dfa_Of_b1 x0 v13 v26 q.1 q.2) g.1) (((List.replicate x0.states.toNat ([] : List Arrow)), 0), (List.replicate x0.states.toNat (nilN : NP Arrow))) (Sub.f [1, 1, 2, 3, 4] 5) z (by repeat (first | exact trivial | refine ⟨z, ?_⟩)) ⟨hh, z, zf115⟩ (fun g1 j1 hg1 => ?_))))))))))
    obtain ⟨⟨l130, k134⟩, z132⟩ := g1
    obtain ⟨hh, hn131, zf133⟩ := hg1
    try dsimp only at hn131 zf133 ⊢
    obtain ⟨z1, hh, hR1⟩ := iter_e hh
    dsimp only [dfa_Of_b1] at hh
    have hn131b := hn131
    have zf133b := zf133.len
    refine TC.know (isSl_nest (q := 4) z zf133) (fun ⟨_, hb135⟩ => ?_)
    refine TC.a (TL.w z (OpVal.lss z z z) (TL.en (TC.seq (TC.cD z hh (fun h136 hh => ?_) (fun h136 hh => ?_)))))
    ·refine TC.skip (S.n (TC.cutG (α := (Unit) × ((List (NP Arrow)))) (rgs [(9, 1), (62, 14)]) (fun g => []) (fun g => [Res.cells b101 #[.int .i64 x0.states, .slice a0_0 x0.starts.length c0_0, .slice a0_1 x0.ends.length c0_1, .slice a0_2 x0.edges.length c0_2] 80, Res.cells b103 #[.slice none 0 0, .slice none 0 0, .slice none 0 0] 26, Res.cells b105 #[.int .i64 0] 37, Res.cells b117 #[.slice a113 ((List.replicate x0.states.toNat ([] : List Arrow)).length) c114] 137, Res.nest 78 126 6 encE (.slice a113 (List.replicate x0.states.toNat ([] : List Arrow)).length c114) g.2]) (fun g => τ111) (fun g => dfa_Of_j1 l130 x0 k134 = some z1 ∧ (l130.set (((nth x0.edges k134 Arrow.zero).frm).toNat) ((nth l130 (((nth x0.edges k134 Arrow.zero).frm).toNat) ([] : List Arrow)) ++ [(nth x0.edges k134 Arrow.zero)])).length = (List.replicate x0.states.toNat ([] : List Arrow)).length ∧ Zn g.2 (l130.set (((nth x0.edges k134 Arrow.zero).frm).toNat) ((nth l130 (((nth x0.edges k134 Arrow.zero).frm).toNat) ([] : List Arrow)) ++ [(nth x0.edges k134 Arrow.zero)]))) ?_ (fun g j hg => ?_)))
     ·skip
      refine TC.block (TC.a (TL.w z (indexN z underlying78 sz126 z z f0_2.rv.sl (by omega)) (TL.w z (loadSA Arrow.zero z ag126 sz126 z f0_2 (by omega) (by omega)) (TL.op z (OpOk.alloc z ze126 z z (fun b140 => ?_))))))
      refine TL.op z (storeAll z sz126 z z z z z z ?_)
      refine TL.en ?_
      have u58 := grd_c hh
      replace hh := grd_t hh
      have u62 := grd_c hh
      replace hh := grd_t hh
      have u63 := grd_c hh
      replace hh := grd_t hh
      refine TC.drawR (Hr := [Res.cells b140 #[.int .i64 ((nth x0.edges k134 Arrow.zero).frm), .int .i64 ((nth x0.edges k134 Arrow.zero).to), .int .u64 ((((nth x0.edges k134 Arrow.zero).set).a : Nat) : Int), .int .u64 ((((nth x0.edges k134 Arrow.zero).set).b : Nat) : Int), .int .u64 ((((nth x0.edges k134 Arrow.zero).set).c : Nat) : Int), .int .u64 ((((nth x0.edges k134 Arrow.zero).set).d : Nat) : Int)] 126, Res.cells b101 #[.int .i64 x0.states, .slice a0_0 x0.starts.length c0_0, .slice a0_1 x0.ends.length c0_1, .slice a0_2 x0.edges.length c0_2] 80, Res.cells b103 #[.slice none 0 0, .slice none 0 0, .slice none 0 0] 26, Res.cells b105 #[.int .i64 0] 37, Res.cells b117 #[.slice a113 ((List.replicate x0.states.toNat ([] : List Arrow)).length) c114] 137]) (fun r hr => mem_pick [0, 1, 2, 3, 4] z hr) [] (by kernel_rfl) (TA.b 0 z (loadLoc z ag137 z (i := 4) z z) z (TA.a 1 z (fieldLoc z fo126_0 z) z (TA.b 2 z (loadLoc z ag3 z (i := 0) z z) z (TA.b 3 z (loadLoc z ag137 z (i := 4) z z) z (TA.a 4 z (fieldLoc z fo126_0 z) z (TA.b 5 z (loadLoc z ag3 z (i := 0) z z) z (TA.know (isSl_nest (q := 5) z zf133) (fun ⟨hs153, hs153b⟩ => ?_))))))))
      refine TA.b 6 z (OpVal.index z underlying137 sz78 z z hs153 u58.1 u58.2) z (TA.b 8 z (loadAll z ag126 sz126 z (i := 0) z z) z ?_)
      obtain ⟨p154, hz154, hm154⟩ := Zn.at zf133 (i := ((nth x0.edges k134 Arrow.zero).frm).toNat) (by omega)
      refine TA.actN [7, 9] (by kernel_rfl) (an z z (OpVal.ok (loadN z ag78 z (q := 5) z hz154 hm154) z z ⟨(fun w h => sees_of (Store.le.refl _) (fun r hr => mem_pick [0, 1, 2, 3, 4] z hr) w h), ?_⟩) (an z z (OpOk.lit (enc := encE) [(nth x0.edges k134 Arrow.zero)] z underlying78 sz126 ze126 z z z encE_len (by decide) (by decide) Arrow.zero z (by decide) z (by decide) encE_one (fun a155 c156 => ⟨(fun w h => sees_of (Store.le.refl _) (fun r hr => mem_pick [1, 2, 3, 4, 5] z hr) w h), ?_⟩)) (True.intro)))
      ·skip
       refine TA.ac 9 z (OpOk.lit (enc := encE) [(nth x0.edges k134 Arrow.zero)] z underlying78 sz126 ze126 z z z encE_len (by decide) (by decide) Arrow.zero z (by decide) z (by decide) encE_one (fun a158 c159 => ⟨(fun w h => sees_of (Store.le.refl _) (fun r hr => mem_pick [1, 2, 3, 4, 5] z hr) w h), ?_⟩))
       refine TA.front 6 z z (TA.by (fun w h => Reach.takeN hz154 hm154 h) (TA.ac 10 z (appendS z z underlying78 sz126 by126 ze126 z z (by decide) z z z (.inr ⟨_, 1, z⟩) (by simpa using u62) (by decide) (fun a162 c163 => (k3 ?_)))))
       refine TA.know (isSl_nestX (q := 1) z zf133) (fun ⟨hs164, hs164b⟩ => ?_)
       refine TA.b 11 z (OpVal.index z underlying137 sz78 z z hs164 u63.1 u63.2) z (TA.front 1 z z (TA.front 1 z z ?_))
       have hn166 : (l130.set (((nth x0.edges k134 Arrow.zero).frm).toNat) ((nth l130 (((nth x0.edges k134 Arrow.zero).frm).toNat) ([] : List Arrow)) ++ [(nth x0.edges k134 Arrow.zero)])).length = (List.replicate x0.states.toNat ([] : List Arrow)).length := (List.length_set ..).trans hn131
       refine TA.ac 12 rfl (storeX (l' := ((nth l130 (((nth x0.edges k134 Arrow.zero).frm).toNat) ([] : List Arrow)) ++ [(nth x0.edges k134 Arrow.zero)])) rfl sz78 rfl rfl rfl rfl rfl (by rw [zf133.len]; omega) zf133 (fun zf165 => (k2 ?_)))
       exact TA.dn (B.n (S.n (cf ((), (z132.set (((nth x0.edges k134 Arrow.zero).frm).toNat) (((nth l130 (((nth x0.edges k134 Arrow.zero).frm).toNat) ([] : List Arrow)) ++ [(nth x0.edges k134 Arrow.zero)]), (a162, c163)))) ⟨hh, hn166, zf165⟩ (Sub.f [6, 6, 6, 6] 5))))
      ·skip
       obtain ⟨p167, hz167, hm167⟩ := Zn.at zf133 (i := ((nth x0.edges k134 Arrow.zero).frm).toNat) (by omega)
       refine TA.ac 7 z (OpVal.ok (loadN z ag78 z (q := 6) z hz167 hm167) z z ⟨(fun w h => sees_of (Store.le.refl _) (fun r hr => mem_pick [1, 2, 3, 4, 5] z hr) w h), ?_⟩)
       refine TA.front 6 z z (TA.by (fun w h => Reach.takeN hz167 hm167 h) (TA.ac 10 z (appendS z z underlying78 sz126 by126 ze126 z z (by decide) z z z (.inr ⟨_, 1, z⟩) (by simpa using u62) (by decide) (fun a169 c170 => (k3 ?_)))))
       refine TA.know (isSl_nestX (q := 1) z zf133) (fun ⟨hs171, hs171b⟩ => ?_)
       refine TA.b 11 z (OpVal.index z underlying137 sz78 z z hs171 u63.1 u63.2) z (TA.front 1 z z (TA.front 1 z z ?_))
       have hn173 : (l130.set (((nth x0.edges k134 Arrow.zero).frm).toNat) ((nth l130 (((nth x0.edges k134 Arrow.zero).frm).toNat) ([] : List Arrow)) ++ [(nth x0.edges k134 Arrow.zero)])).length = (List.replicate x0.states.toNat ([] : List Arrow)).length := (List.length_set ..).trans hn131
       refine TA.ac 12 rfl (storeX (l' := ((nth l130 (((nth x0.edges k134 Arrow.zero).frm).toNat) ([] : List Arrow)) ++ [(nth x0.edges k134 Arrow.zero)])) rfl sz78 rfl rfl rfl rfl rfl (by rw [zf133.len]; omega) zf133 (fun zf172 => (k2 ?_)))
       exact TA.dn (B.n (S.n (cf ((), (z132.set (((nth x0.edges k134 Arrow.zero).frm).toNat) (((nth l130 (((nth x0.edges k134 Arrow.zero).frm).toNat) ([] : List Arrow)) ++ [(nth x0.edges k134 Arrow.zero)]), (a169, c170)))) ⟨hh, hn173, zf172⟩ (Sub.f [6, 6, 6, 6] 5))))
     ·skip
      obtain ⟨_, z138⟩ := g
      obtain ⟨hh, hn137, zf139⟩ := hg
      try dsimp only at hn137 zf139 ⊢
      dsimp only [dfa_Of_j1] at hh
      have hn137b := hn137
      have zf139b := zf139.len
      refine TC.know (isSl_nest (q := 4) z zf139) (fun ⟨_, hb174⟩ => ?_)
      refine TC.region (TL.w z (OpVal.succ z z z (by omega)) (TL.i z z (TL.en ?_)))
      obtain ⟨hh, hlt175⟩ := nxt_x hR1 hh
      exact lf (((l130.set (((nth x0.edges k134 Arrow.zero).frm).toNat) ((nth l130 (((nth x0.edges k134 Arrow.zero).frm).toNat) ([] : List Arrow)) ++ [(nth x0.edges k134 Arrow.zero)])), (k134 + 1)), z138) hlt175 ⟨hh, hn137, zf139⟩ (Sub.f [4, 4, 4, 4, 4] 5)
    ·refine TC.exit (S.x (S.x ?_))
     replace hh := fin_x hR1 hh
     refine TC.exitHere (S.n (TC.a (TL.w z (fieldLoc z fo80_0 z) (TL.w z (loadLoc z ag3 z (i := 0) z z) ?_))))
     have u69 := grd_c hh
     replace hh := grd_t hh
     refine TL.op rfl (makeS2 (m := x0.states.toNat) (enc := encB) false rfl underlying24 sz4 by4 ze4 rfl rfl (by show Value.int _ _ = _; rw [Int.toNat_of_nonneg u69.1]) (by show Value.int _ _ = _; rw [Int.toNat_of_nonneg u69.1]) (by omega) (by decide) encB_len (by decide) rfl encB_one (fun a176 c177 => ?_))
     refine TL.s z z (TL.en (TC.seq (TC.a (TL.w z (fieldLoc z fo80_2 z) (TL.w z (loadLoc z ag22 z (i := 1) z z) (TL.w z (lenC z underlying22 z) (TL.i z z (TL.en (TC.block (TC.loopG (α := ((List Bool) × Nat) × (Unit)) (rgs [(12, 1), (83, 8)]) (fun g => [(83, .int .i64 ((g.1.2 : Nat) : Int))]) (fun g => [Res.cells b101 #[.int .i64 x0.states, .slice a0_0 x0.starts.length c0_0, .slice a0_1 x0.ends.length c0_1, .slice a0_2 x0.edges.length c0_2] 80, Res.cells b103 #[.slice none 0 0, .slice none 0 0, .slice none 0 0] 26, Res.cells b105 #[.int .i64 0] 37, Res.cells b117 #[.slice a113 ((List.replicate x0.states.toNat ([] : List Arrow)).length) c114] 137, Res.nest 78 126 6 encE (.slice a113 (List.replicate x0.states.toNat ([] : List Arrow)).length c114) z132, Res.rowS 4 1 encB (.slice a176 (List.replicate x0.states.toNat false).length c177) g.1.1]) (fun g => τ111) (fun g => iter (fun q : (List Bool) × Nat => dfa_Of_b2 x0 v13 l130 v26 q.1 q.2) g.1 = some r ∧ l130.length = (List.replicate x0.states.toNat ([] : List Arrow)).length ∧ Zn z132 l130 ∧ g.1.1.length = (List.replicate x0.states.toNat false).length) (fun g => rounds (fun q : (List Bool) × Nat => dfa_Of_b2 x0 v13 l130 v26 q.1 q.2) g.1) (((List.replicate x0.states.toNat false), 0), ()) (Sub.f [5, 5, 5, 5, 5] 6) z (by repeat (first | exact trivial | refine ⟨z, ?_⟩)) ⟨hh, hn131, zf133, z⟩ (fun g2 j2 hg2 => ?_)))))))))))
     obtain ⟨⟨l193, k195⟩, _⟩ := g2
     obtain ⟨hh, hn191, zf192, hn194⟩ := hg2
     try dsimp only at hn191 zf192 hn194 ⊢
     obtain ⟨z1, hh, hR1⟩ := iter_e hh
     dsimp only [dfa_Of_b2] at hh
     have hn191b := hn191
     have zf192b := zf192.len
     have hn194b := hn194
     refine TC.know (isSl_nest (q := 4) z zf192) (fun ⟨_, hb196⟩ => ?_)
     refine TC.isSl (i := 5) z (fun _ hb197 _ => ?_)
     refine TC.a (TL.w z (OpVal.lss z z z) (TL.en (TC.seq (TC.cD z hh (fun h198 hh => ?_) (fun h198 hh => ?_)))))
     ·refine TC.skip (S.n (TC.seq (TC.block (TC.a (TL.w z (indexN z underlying22 sz3 z z f0_1.rv.sl (by omega)) (TL.w z (loadS1 (0 : Int) z ag3 z f0_1 (by omega) z) (TL.i z z (TL.en (TC.region (TL.s z z (TL.i z z ?_)))))))))))
      have u81 := grd_c hh
      replace hh := grd_t hh
      refine TL.isSl (i := 5) z (fun hs199 _ _ => ?_)
      refine TL.w z (OpVal.index z underlying24 sz4 z z hs199 u81.1 u81.2) (TL.front 5 z z ?_)
      have hn200 : (l193.set ((nth x0.ends k195 (0 : Int)).toNat) true).length = (List.replicate x0.states.toNat false).length := by rw [List.length_set]; exact hn194
      refine TL.op z (storeS true z sz4 z z z z encB_len encB_one (by omega) (by omega) ?_)
      refine TL.nil (B.n (S.n (TC.region (TL.w z (OpVal.succ z z z (by omega)) (TL.i z z (TL.en ?_))))))
      obtain ⟨hh, hlt201⟩ := nxt_x hR1 hh
      exact lf (((l193.set ((nth x0.ends k195 (0 : Int)).toNat) true), (k195 + 1)), ()) hlt201 ⟨hh, hn191, zf192, hn200⟩ (Sub.f [5, 5, 5, 5, 5] 6)
     ·refine TC.exit (S.x (S.x ?_))
      replace hh := fin_x hR1 hh
      refine TC.exitHere (S.n (TC.a ?_))
      obtain ⟨v85, u85, hh⟩ := bnd_e hh
      refine TL.op z (OpOk.call (intern_New_con u85) z z pf80 z z z z ?_)
      rintro _ τ202 _ hle202 ⟨b202_1, a202_2, c202_3, z202_4, b202_6, rfl, zf202_5, rfl⟩
      replace f0_0 := f0_0.mono hle202
      replace hgl := hgl.mono hle202
      replace hr109_0 := hr109_0.mono hle202
      replace hr111_0 := hr111_0.mono hle202
      have zf202_5b := zf202_5.length
      refine TL.op z (OpOk.alloc z ze138 z z (fun b206 => ?_))
      refine TL.op z (storeLoc z sz138 z z z z z ?_)
      refine TL.en (TC.seq (TC.a (TL.w z (loadLoc z ag138 z (i := 0) z z) (TL.w z (fieldLoc z fo80_1 z) (TL.w z (loadLoc z ag22 z (i := 4) z z) (TL.front 3 z z (TL.front 3 z z (TL.front 3 z z ?_))))))))
      obtain ⟨v91, u91, hh⟩ := bnd_e hh
      refine TL.op z (OpOk.call (intern_Table_Put_con zf202_5 f0_0 u91) z z pf81 z z z z ?_)
      rintro _ τ208 _ hle208 ⟨a208_1, c208_2, z208_3, b208_5, rfl, zf208_4, rfl⟩
      replace hgl := hgl.mono hle208
      replace hr109_0 := hr109_0.mono hle208
      replace hr111_0 := hr111_0.mono hle208
      have zf208_4b := zf208_4.length
      refine TL.w z (moveT (.inl z) z) (TL.w z (OpVal.extract z z z) (TL.w z (OpVal.extract z z z) (TL.w z (OpVal.extract z z z) (TL.i z z (TL.j z z (TL.i z z (TL.en (TC.a (TL.i z z (TL.w z (OpVal.neq z z z) (TL.en (TC.cD z hh (fun h211 hh => ?_) (fun h211 hh => ?_)))))))))))))
      ·refine TC.a (TL.w z (buildL z pl26 ze26 z) (TL.i z z (TL.front 5 z z (TL.op z (storeAll z sz26 z z z z z z ?_)))))
       refine TL.front 6 z z (TL.op z (storeI z sz37 z z z z z ?_))
       refine TL.en (TC.ofSub (Sub.f [1] 2) (TC.ret (S.r ?_)))
       obtain rfl := so hh
       exact ro [] z (RVs.agg ag26 sz26 z (i := 0) z z (RVs.one ag37 z (i := 1) z z RVs.nil)) ⟨none, 0, none, 0, none, 0, z, (RS.nilF _ Go.E.encI Go.E.encI_len), (RZ.nilF _ (pkSl 1 Go.E.encI Go.E.encI_len)), (RS.nilF _ encB encB_len), z⟩
      ·refine TC.skip (S.n (TC.a (TL.s z z (TL.w z (buildL z pl26 ze26 z) (TL.op z (OpOk.alloc z ze26 z z (fun b212 => ?_)))))))
       refine TL.op z (storeAll z sz26 z z z z z z ?_)
       refine TL.en (TC.seq (TC.a (TL.i z z (TL.en (TC.block ?_)))))
       rw [← hn191]
       refine TC.front 9 z z (TC.seals (fun w h => Reach.sealNest encE_len zf192 h) (fun τ289 hle288 hr287 => ?_))
       replace hgl := hgl.mono hle288
       replace hr109_0 := hr109_0.mono hle288
       replace hr111_0 := hr111_0.mono hle288
       replace zf208_4 := zf208_4.mono hle288
       have hr287b := hr287.big
       refine TC.nilS 22 1 (pkSl 1 Go.E.encI Go.E.encI_len).en ?_
       have zf290 := ZOk.nil τ289 (pkSl 1 Go.E.encI Go.E.encI_len)
       refine TC.nilS 4 1 encB (TC.loopG (α := (Int × (List (List Int)) × (FM (List UInt8) Int) × (List (List Int)) × (List Bool) × Nat) × ((Option Addr) × Nat × (List (List Int × (pkSl 1 Go.E.encI Go.E.encI_len).P)) × Nat × (Option Addr) × Nat × (List (List Int × (pkSl 1 Go.E.encI Go.E.encI_len).P)) × (Option Addr) × Nat × Store)) (rgs [(18, 4), (23, 2), (106, 35), (164, 12)]) (fun g => [(18, .int .i64 ((g.1.2.2.2.2.2 : Nat) : Int))]) (fun g => [Res.cells b103 #[.slice none 0 0, .slice none 0 0, .slice none 0 0] 26, Res.cells b105 #[.int .i64 g.1.1] 37, Res.cells b117 #[.slice a113 l130.length c114] 137, Res.rowS 4 1 encB (.slice a176 (List.replicate x0.states.toNat false).length c177) l193, Res.cells b206 #[loc b202_1 0] 138, Res.cells b202_1 #[.slice g.2.1 g.1.2.1.length g.2.2.1, .map (some g.2.2.2.2.1)] 170, Res.rowS 22 1 (pkSl 1 Go.E.encI Go.E.encI_len).en (.slice g.2.1 g.1.2.1.length g.2.2.1) g.2.2.2.1, Res.mapB keyS keyI (some g.2.2.2.2.1) g.1.2.2.1, Res.cells b212 #[.slice a111_1 v26.1.length c111_1, .slice g.2.2.2.2.2.1 g.1.2.2.2.1.length g.2.2.2.2.2.2.1, .slice g.2.2.2.2.2.2.2.2.1 g.1.2.2.2.2.1.length g.2.2.2.2.2.2.2.2.2.1] 26, Res.rowS 22 1 (pkSl 1 Go.E.encI Go.E.encI_len).en (.slice g.2.2.2.2.2.1 g.1.2.2.2.1.length g.2.2.2.2.2.2.1) g.2.2.2.2.2.2.2.1, Res.rowS 4 1 encB (.slice g.2.2.2.2.2.2.2.2.1 g.1.2.2.2.2.1.length g.2.2.2.2.2.2.2.2.2.1) g.1.2.2.2.2.1]) (fun g => g.2.2.2.2.2.2.2.2.2.2) (fun g => iter (fun q : Int × (List (List Int)) × (FM (List UInt8) Int) × (List (List Int)) × (List Bool) × Nat => dfa_Of_b3 l193 v13 l130 v26 q.1 q.2.1 q.2.2.1 q.2.2.2.1 q.2.2.2.2.1 q.2.2.2.2.2) g.1 = some r ∧ RZ g.2.2.2.2.2.2.2.2.2.2 (pkSl 6 encE encE_len) (.slice a113 l130.length c114) l130 ∧ l193.length = (List.replicate x0.states.toNat false).length ∧ ZOk g.2.2.2.2.2.2.2.2.2.2 (pkSl 1 Go.E.encI Go.E.encI_len) g.2.2.2.1 g.1.2.1 ∧ ZOk g.2.2.2.2.2.2.2.2.2.2 (pkSl 1 Go.E.encI Go.E.encI_len) g.2.2.2.2.2.2.2.1 g.1.2.2.2.1 ∧ Store.le τ289 g.2.2.2.2.2.2.2.2.2.2) (fun g => rounds (fun q : Int × (List (List Int)) × (FM (List UInt8) Int) × (List (List Int)) × (List Bool) × Nat => dfa_Of_b3 l193 v13 l130 v26 q.1 q.2.1 q.2.2.1 q.2.2.2.1 q.2.2.2.2.1 q.2.2.2.2.2) g.1) ((0, v91.2.2.2.of.rows, v91.2.2.2.of.places, ([] : List (List Int)), ([] : List Bool), 0), (a208_1, c208_2, z208_3, b208_5, none, 0, [], none, 0, τ289)) (Sub.f [1, 2, 5, 5, 5, 6, 11, 11, 11, 11] 11) z (by repeat (first | exact trivial | refine ⟨z, ?_⟩)) ⟨hh, hr287, hn194, zf208_4, zf290, (Store.le.refl _)⟩ (fun g3 j3 hg3 => ?_))
       obtain ⟨⟨i264, l268, m274, l277, l283, k286⟩, ⟨a269, c270, z271, b275, a278, c279, z280, a284, c285, τ293⟩⟩ := g3
       obtain ⟨hh, hr265, hn266, zf272, zf281, hle294⟩ := hg3
       try dsimp only at hr265
       try dsimp only at hn266
       try dsimp only at zf272
       try dsimp only at zf281
       dsimp only at hle294
       replace hgl := hgl.mono hle294
       replace hr109_0 := hr109_0.mono hle294
       replace hr111_0 := hr111_0.mono hle294
       try dsimp only
       obtain ⟨z1, hh, hR1⟩ := iter_e hh
       dsimp only [dfa_Of_b3] at hh
       have hr265b := hr265.big
       have hn266b := hn266
       have zf272b := zf272.length
       have zf281b := zf281.length
       refine TC.isSl (i := 3) z (fun _ hb295 _ => ?_)
       refine TC.isSl (i := 6) z (fun _ hb296 _ => ?_)
       refine TC.isSl (i := 9) z (fun _ hb297 _ => ?_)
       refine TC.isSl (i := 10) z (fun _ hb298 _ => ?_)
       refine TC.seq (TC.a (TL.i z z (TL.w z (loadLoc z ag138 z (i := 4) z z) (TL.front 7 z z (TL.front 7 z z (TL.front 7 z z ?_))))))
       obtain ⟨v112, u112, hh⟩ := bnd_e hh
       refine TL.op z (OpOk.call (intern_Table_Size_con zf272 u112) z z pf82 z z z z ?_)
       rintro _ _ _ hle299 ⟨rfl, rfl, rfl⟩
       refine TL.w z (OpVal.lss z z z) (TL.en (TC.cD z hh (fun h300 hh => ?_) (fun h300 hh => ?_)))
       ·refine TC.skip (S.n (TC.seq (TC.block (TC.a (TL.w z (loadLoc z ag138 z (i := 7) z z) (TL.i z z (TL.front 2 z z (TL.front 2 z z (TL.front 2 z z ?_)))))))))
        obtain ⟨v116, u116, hh⟩ := bnd_e hh
        refine TL.op z (OpOk.call (intern_Table_Row_con zf272 u116) z z pf83 z z z z ?_)
        rintro _ _ _ hle301 ⟨a301_1, c301_2, rfl, rfl, rfl⟩
        refine TL.w z (moveT (.inl z) z) (TL.w z (OpVal.extract z z z) (TL.w z (OpVal.extract z z z) (TL.op z (OpOk.alloc z ze22 z z (fun b303 => ?_)))))
        refine TL.op z (storeSl z sz22 z z z z z ?_)
        refine TL.i z z (TL.en (TC.seq (TC.a (TL.i z z (TL.w z (OpVal.neq z z z) (TL.en (TC.cD z hh (fun h305 hh => ?_) (fun h305 hh => ?_))))))))
        ·refine TC.a (TL.w z (buildL z pl26 ze26 z) (TL.i z z (TL.front 5 z z (TL.op z (storeAll z sz26 z z z z z z ?_)))))
         refine TL.front 6 z z (TL.op z (storeI z sz37 z z z z z ?_))
         refine TL.en (TC.ofSub (Sub.f [1] 2) (TC.ret (S.r (B.r (S.r (S.r ?_))))))
         replace hh := fin_x hR1 hh
         refine B.r (S.r ?_)
         obtain rfl := so hh
         exact ro [] z (RVs.agg ag26 sz26 z (i := 0) z z (RVs.one ag37 z (i := 1) z z RVs.nil)) ⟨none, 0, none, 0, none, 0, z, (RS.nilF _ Go.E.encI Go.E.encI_len), (RZ.nilF _ (pkSl 1 Go.E.encI Go.E.encI_len)), (RS.nilF _ encB encB_len), z⟩
        ·refine TC.skip (S.n (TC.a (TL.j z z (TL.en (TC.seq (TC.a (TL.w z (loadLoc z ag22 z (i := 0) z z) (TL.w z (lenC z underlying22 z) (TL.i z z (TL.en (TC.block (TC.loopG (α := (Bool × Nat) × (Store)) (rgs [(21, 1), (23, 1), (124, 12)]) (fun g => [(21, .bool g.1.1), (124, .int .i64 ((g.1.2 : Nat) : Int))]) (fun g => [Res.cells b103 #[.slice none 0 0, .slice none 0 0, .slice none 0 0] 26, Res.cells b105 #[.int .i64 i264] 37, Res.cells b117 #[.slice a113 l130.length c114] 137, Res.rowS 4 1 encB (.slice a176 (List.replicate x0.states.toNat false).length c177) l193, Res.cells b206 #[loc b202_1 0] 138, Res.cells b202_1 #[.slice a269 l268.length c270, .map (some b275)] 170, Res.rowS 22 1 (pkSl 1 Go.E.encI Go.E.encI_len).en (.slice a269 l268.length c270) z271, Res.mapB keyS keyI (some b275) m274, Res.cells b212 #[.slice a111_1 v26.1.length c111_1, .slice a278 l277.length c279, .slice a284 l283.length c285] 26, Res.rowS 22 1 (pkSl 1 Go.E.encI Go.E.encI_len).en (.slice a278 l277.length c279) z280, Res.rowS 4 1 encB (.slice a284 l283.length c285) l283, Res.cells b303 #[.slice a301_1 v116.1.length c301_2] 22, Res.rowS 3 1 Go.E.encI (.slice a301_1 v116.1.length c301_2) v116.1]) (fun g => g.2) (fun g => iter (fun q : Bool × Nat => dfa_Of_b4 v116 l193 v13 l130 i264 l268 m274 l277 l283 k286 q.1 q.2) g.1 = some z1 ∧ l193.length = (List.replicate x0.states.toNat false).length ∧ ZOk g.2 (pkSl 1 Go.E.encI Go.E.encI_len) z271 l268 ∧ ZOk g.2 (pkSl 1 Go.E.encI Go.E.encI_len) z280 l277 ∧ Store.le τ293 g.2) (fun g => rounds (fun q : Bool × Nat => dfa_Of_b4 v116 l193 v13 l130 i264 l268 m274 l277 l283 k286 q.1 q.2) g.1) ((false, 0), τ293) (Sub.f [1, 1, 12, 12, 12, 7, 7, 7, 12, 12, 12, 12, 12] 13) z (by repeat (first | exact trivial | refine ⟨z, ?_⟩)) ⟨hh, hn266, zf272, zf281, (Store.le.refl _)⟩ (fun g4 j4 hg4 => ?_)))))))))))))
         obtain ⟨⟨t322, k323⟩, τ324⟩ := g4
         obtain ⟨hh, hn319, zf320, zf321, hle325⟩ := hg4
         try dsimp only at hn319
         try dsimp only at zf320
         try dsimp only at zf321
         dsimp only at hle325
         replace hgl := hgl.mono hle325
         replace hr109_0 := hr109_0.mono hle325
         replace hr111_0 := hr111_0.mono hle325
         replace hr265 := hr265.mono hle325
         replace zf281 := zf281.mono hle325
         try dsimp only
         obtain ⟨z2, hh, hR2⟩ := iter_e hh
         dsimp only [dfa_Of_b4] at hh
         have hn319b := hn319
         have zf320b := zf320.length
         have zf321b := zf321.length
         refine TC.isSl (i := 3) z (fun _ hb326 _ => ?_)
         refine TC.isSl (i := 6) z (fun _ hb327 _ => ?_)
         refine TC.isSl (i := 9) z (fun _ hb328 _ => ?_)
         refine TC.isSl (i := 10) z (fun _ hb329 _ => ?_)
         refine TC.isSl (i := 12) z (fun _ hb330 _ => ?_)
         refine TC.a (TL.w z (OpVal.lss z z z) (TL.en (TC.seq (TC.cD z hh (fun h331 hh => ?_) (fun h331 hh => ?_)))))
         ·refine TC.skip (S.n (TC.cutG (α := (Bool) × (Store)) (rgs [(21, 1), (23, 1), (126, 9)]) (fun g => [(21, .bool g.1)]) (fun g => [Res.cells b103 #[.slice none 0 0, .slice none 0 0, .slice none 0 0] 26, Res.cells b105 #[.int .i64 i264] 37, Res.cells b117 #[.slice a113 l130.length c114] 137, Res.rowS 4 1 encB (.slice a176 (List.replicate x0.states.toNat false).length c177) l193, Res.cells b206 #[loc b202_1 0] 138, Res.cells b202_1 #[.slice a269 l268.length c270, .map (some b275)] 170, Res.rowS 22 1 (pkSl 1 Go.E.encI Go.E.encI_len).en (.slice a269 l268.length c270) z271, Res.mapB keyS keyI (some b275) m274, Res.cells b212 #[.slice a111_1 v26.1.length c111_1, .slice a278 l277.length c279, .slice a284 l283.length c285] 26, Res.rowS 22 1 (pkSl 1 Go.E.encI Go.E.encI_len).en (.slice a278 l277.length c279) z280, Res.rowS 4 1 encB (.slice a284 l283.length c285) l283, Res.cells b303 #[.slice a301_1 v116.1.length c301_2] 22, Res.rowS 3 1 Go.E.encI (.slice a301_1 v116.1.length c301_2) v116.1]) (fun g => g.2) (fun g => dfa_Of_j2 k323 g.1 = some z2 ∧ l193.length = (List.replicate x0.states.toNat false).length ∧ ZOk g.2 (pkSl 1 Go.E.encI Go.E.encI_len) z271 l268 ∧ ZOk g.2 (pkSl 1 Go.E.encI Go.E.encI_len) z280 l277 ∧ Store.le τ324 g.2) ?_ (fun g j hg => ?_)))
          ·skip
           refine TC.block (TC.a (TL.isSl (i := 12) z (fun hs336 _ _ => ?_)))
           refine TL.w z (indexN z underlying22 sz3 z z hs336 (by omega)) (TL.w z (loadO1 (0 : Int) z ag3 z (q := 12) z Go.E.encI_len (by omega) z) (TL.i z z (TL.en (TC.region (TL.j z z (TL.j z z (TL.split 129 z (fun h337 => ?_) (fun h337 => ?_))))))))
           ·replace hh := iteO_t h337 hh
            exact TL.f z (TL.f z (TL.f z (TL.f z (TL.w z (pickTB z z z) (TL.j z z (TL.nil (B.n (S.n (cf (true, τ324) ⟨hh, hn319, zf320, zf321, (Store.le.refl _)⟩ (Sub.f [12, 12, 12, 12, 12, 12, 12, 12, 12, 12, 12, 12, 12] 13))))))))))
           ·replace hh := iteO_f h337 hh
            refine TL.g z (moveSl (.inl z) z) (TL.g z (moveI (.inl z) z) ?_)
            have u141 := grd_c hh
            replace hh := grd_t hh
            refine TL.isSl (i := 3) z (fun hs338 _ _ => ?_)
            exact TL.g z (OpVal.index z underlying24 sz4 z z hs338 u141.1 u141.2) (TL.g z (loadO1 false z ag4 z (q := 3) z encB_len (by omega) z) (TL.w z (pickFB z z z) (TL.j z z (TL.nil (B.n (S.n (cf ((nth l193 ((nth v116.1 k323 (0 : Int)).toNat) false), τ324) ⟨hh, hn319, zf320, zf321, (Store.le.refl _)⟩ (Sub.f [12, 12, 12, 12, 12, 12, 12, 12, 12, 12, 12, 12, 12] 13))))))))
          ·skip
           obtain ⟨t335, τ339⟩ := g
           obtain ⟨hh, hn332, zf333, zf334, hle340⟩ := hg
           try dsimp only at hn332
           try dsimp only at zf333
           try dsimp only at zf334
           dsimp only at hle340
           replace hgl := hgl.mono hle340
           replace hr109_0 := hr109_0.mono hle340
           replace hr111_0 := hr111_0.mono hle340
           replace hr265 := hr265.mono hle340
           replace zf281 := zf281.mono hle340
           replace zf320 := zf320.mono hle340
           replace zf321 := zf321.mono hle340
           try dsimp only
           dsimp only [dfa_Of_j2] at hh
           have hn332b := hn332
           have zf333b := zf333.length
           have zf334b := zf334.length
           refine TC.isSl (i := 3) z (fun _ hb341 _ => ?_)
           refine TC.isSl (i := 6) z (fun _ hb342 _ => ?_)
           refine TC.isSl (i := 9) z (fun _ hb343 _ => ?_)
           refine TC.isSl (i := 10) z (fun _ hb344 _ => ?_)
           refine TC.isSl (i := 12) z (fun _ hb345 _ => ?_)
           refine TC.region (TL.w z (OpVal.succ z z z (by omega)) (TL.i z z (TL.en ?_)))
           obtain ⟨hh, hlt346⟩ := nxt_x hR2 hh
           exact lf ((t335, (k323 + 1)), τ339) hlt346 ⟨hh, hn332, zf333, zf334, (hle325.trans hle340)⟩ (Sub.f [12, 12, 12, 12, 12, 12, 12, 12, 12, 12, 12, 12, 12] 13)
         ·refine TC.exit (S.x (S.x ?_))
          replace hh := fin_x hR2 hh
          refine TC.exitHere (S.n (TC.a (TL.s z z (TL.w z (lenC z underlying131 z) ?_))))
          have u149 := grd_c hh
          replace hh := grd_t hh
          refine TL.op z (makeS2 (enc := Go.E.encI) (0 : Int) z underlying22 sz3 by3 ze3 z z z z (by omega) (by decide) Go.E.encI_len (by decide) z Go.E.encI_one (fun a347 c348 => ?_))
          refine TL.op z (OpOk.alloc z ze22 z z (fun b350 => ?_))
          refine TL.op z (storeSl z sz22 z z z z z ?_)
          refine TL.en (TC.seq (TC.a (TL.s z z ?_)))
          obtain ⟨v153, u153, hh⟩ := bnd_e hh
          refine TL.op z (OpOk.call (dfa_classes_con hr109_0 u153) z z pf84 z z z z ?_)
          rintro _ τ352 _ hle352 ⟨b352_4, a352_1, c352_2, rfl, f352_3, rfl⟩
          replace hgl := hgl.mono hle352
          replace hr111_0 := hr111_0.mono hle352
          replace hr265 := hr265.mono hle352
          replace zf281 := zf281.mono hle352
          replace zf320 := zf320.mono hle352
          replace zf321 := zf321.mono hle352
          have f352_3b := f352_3.rv.big
          refine TL.en (TC.block (TC.front 15 z z (TC.sealS Go.E.encI_len (fun τ405 hle404 hr403 => ?_))))
          replace hgl := hgl.mono hle404
          replace hr111_0 := hr111_0.mono hle404
          replace hr265 := hr265.mono hle404
          replace zf281 := zf281.mono hle404
          replace zf320 := zf320.mono hle404
          replace zf321 := zf321.mono hle404
          replace f352_3 := f352_3.mono hle404
          have hr403b := hr403.rv.big
          refine TC.ofSub (Sub.f [2, 2, 14, 14, 14, 14, 14, 14, 14, 14, 14, 14, 14, 14] 15) ?_
          obtain ⟨zr256, hz256, hh⟩ := bnd_e hh
          obtain ⟨jz256, ⟨i388, l391, m397, l401⟩⟩ := zr256
          dsimp only at hh
          refine TC.rangeG (A := (fun (x : Int × BSet) _ vs => vs = [.int .i64 x.1, setV x.2])) [.ret] (fun (q : Int × (List (List Int)) × (FM (List UInt8) Int) × (List Int)) (x : Int × BSet) => dfa_Of_r256 l130 v116 q.1 q.2.1 q.2.2.1 q.2.2.2 x.1 x.2) (fun (q : Int × (List (List Int)) × (FM (List UInt8) Int) × (List Int)) (τ406 : Store) Hs => ∃ (a392 : Option Addr), ∃ (c393 : Nat), ∃ (z394 : List (List Int × (pkSl 1 Go.E.encI Go.E.encI_len).P)), ∃ (b398 : Nat), Hs = [Res.cells b103 #[.slice none 0 0, .slice none 0 0, .slice none 0 0] 26, Res.cells b105 #[.int .i64 q.1] 37, Res.cells b117 #[.slice a113 l130.length c114] 137, Res.rowS 4 1 encB (.slice a176 (List.replicate x0.states.toNat false).length c177) l193, Res.cells b206 #[loc b202_1 0] 138, Res.cells b202_1 #[.slice a392 q.2.1.length c393, .map (some b398)] 170, Res.rowS 22 1 (pkSl 1 Go.E.encI Go.E.encI_len).en (.slice a392 q.2.1.length c393) z394, Res.mapB keyS keyI (some b398) q.2.2.1, Res.cells b212 #[.slice a111_1 v26.1.length c111_1, .slice a278 l277.length c279, .slice a284 l283.length c285] 26, Res.rowS 22 1 (pkSl 1 Go.E.encI Go.E.encI_len).en (.slice a278 l277.length c279) z280, Res.rowS 4 1 encB (.slice a284 l283.length c285) l283, Res.cells b303 #[.slice a301_1 v116.1.length c301_2] 22, Res.cells b350 #[.slice a347 ((List.replicate v13.1.length (0 : Int)).length) c348] 22, Res.rowS 3 1 Go.E.encI (.slice a347 (List.replicate v13.1.length (0 : Int)).length c348) q.2.2.2] ∧ l193.length = (List.replicate x0.states.toNat false).length ∧ ZOk τ406 (pkSl 1 Go.E.encI Go.E.encI_len) z394 q.2.1 ∧ ZOk τ406 (pkSl 1 Go.E.encI Go.E.encI_len) z280 l277 ∧ RS τ406 1 Go.E.encI (.slice a301_1 v116.1.length c301_2) v116.1 ∧ q.2.2.2.length = (List.replicate v13.1.length (0 : Int)).length) (s := (i264, l268, m274, (List.replicate v13.1.length (0 : Int)))) rfl pf110 rfl rfl (by rintro _ _ _ _ ⟨a392, c393, z394, b398, rfl, hn389, zf395, zf399, hr400, hn402⟩ hle_; exact ⟨a392, c393, z394, b398, rfl, hn389, zf395.mono hle_, zf399.mono hle_, hr400.mono hle_, hn402⟩) ⟨a269, c270, z271, b275, rfl, hn319, zf320, zf321, hr403, rfl⟩ (fun _ _ _ h_ => by subst h_; rfl) (dfa_classes_1_con f352_3 hz256) ?_ ?_
          ·clear hh hz256
           rintro l_ _ _ _ τ406 ⟨i388, l391, m397, l401⟩ ⟨y256_0, y256_1⟩ z256 _ _ hh hle407 rfl ⟨a392, c393, z394, b398, rfl, hn389, zf395, zf399, hr400, hn402⟩
           dsimp only [dfa_Of_r256] at hh
           replace hgl := hgl.mono hle407
           replace hr111_0 := hr111_0.mono hle407
           replace hr265 := hr265.mono hle407
           replace zf281 := zf281.mono hle407
           have hn389b := hn389
           have zf395b := zf395.length
           have zf399b := zf399.length
           have hr400b := hr400.rv.big
           have hn402b := hn402
           show TC _ _ _ (upds _ [(142, setV y256_1), (141, .int .i64 y256_0)]) τ406 [Res.cells b103 #[.slice none 0 0, .slice none 0 0, .slice none 0 0] 26, Res.cells b105 #[.int .i64 i388] 37, Res.cells b117 #[.slice a113 l130.length c114] 137, Res.rowS 4 1 encB (.slice a176 (List.replicate x0.states.toNat false).length c177) l193, Res.cells b206 #[loc b202_1 0] 138, Res.cells b202_1 #[.slice a392 l391.length c393, .map (some b398)] 170, Res.rowS 22 1 (pkSl 1 Go.E.encI Go.E.encI_len).en (.slice a392 l391.length c393) z394, Res.mapB keyS keyI (some b398) m397, Res.cells b212 #[.slice a111_1 v26.1.length c111_1, .slice a278 l277.length c279, .slice a284 l283.length c285] 26, Res.rowS 22 1 (pkSl 1 Go.E.encI Go.E.encI_len).en (.slice a278 l277.length c279) z280, Res.rowS 4 1 encB (.slice a284 l283.length c285) l283, Res.cells b303 #[.slice a301_1 v116.1.length c301_2] 22, Res.cells b350 #[.slice a347 ((List.replicate v13.1.length (0 : Int)).length) c348] 22, Res.rowS 3 1 Go.E.encI (.slice a347 (List.replicate v13.1.length (0 : Int)).length c348) l401]
           refine TC.isSl (i := 3) z (fun _ hb408 _ => ?_)
           refine TC.isSl (i := 6) z (fun _ hb409 _ => ?_)
           refine TC.isSl (i := 9) z (fun _ hb410 _ => ?_)
           refine TC.isSl (i := 10) z (fun _ hb411 _ => ?_)
           refine TC.isSl (i := 13) z (fun _ hb412 _ => ?_)
           refine TC.a (TL.i z z (TL.en (TC.region (TL.op z (OpOk.alloc z ze86 z z (fun b413 => ?_))))))
           refine TL.op z (storeAll z sz86 z z z z z z ?_)
           refine TL.nil (asg_n (fun _ _ _ => ?_))
           refine TC.block (TC.seq ?_)
           obtain ⟨v161, u161, hh⟩ := bnd_e hh
           obtain ⟨v162, u162, hh⟩ := bnd_e hh
           refine TC.drawR (Hr := [Res.cells b413 (setA y256_1) 86, Res.cells b103 #[.slice none 0 0, .slice none 0 0, .slice none 0 0] 26, Res.cells b105 #[.int .i64 i388] 37, Res.cells b117 #[.slice a113 l130.length c114] 137, Res.rowS 4 1 encB (.slice a176 (List.replicate x0.states.toNat false).length c177) l193, Res.cells b206 #[loc b202_1 0] 138, Res.cells b212 #[.slice a111_1 v26.1.length c111_1, .slice a278 l277.length c279, .slice a284 l283.length c285] 26, Res.rowS 22 1 (pkSl 1 Go.E.encI Go.E.encI_len).en (.slice a278 l277.length c279) z280, Res.rowS 4 1 encB (.slice a284 l283.length c285) l283, Res.cells b303 #[.slice a301_1 v116.1.length c301_2] 22, Res.cells b350 #[.slice a347 ((List.replicate v13.1.length (0 : Int)).length) c348] 22, Res.rowS 3 1 Go.E.encI (.slice a347 (List.replicate v13.1.length (0 : Int)).length c348) l401]) (fun r hr => mem_pick [0, 1, 2, 3, 4, 5, 9, 10, 11, 12, 13, 14] z hr) [] (by kernel_rfl) (TA.b 0 z (loadLoc z ag138 z (i := 5) z z) z (TA.b 1 z (loadLoc z ag137 z (i := 3) z z) z (TA.b 2 z (loadLoc z ag22 z (i := 9) z z) z (TA.b 3 z (loadAll z ag86 sz86 z (i := 0) z z) z (TA.ac 4 z (OpOk.call (dfa_behind_con hgl hr265 hr400 u161) z z pf85 z z z z ?_))))))
           rintro _ _ _ hle420 ⟨a420_1, c420_1, rfl, rfl, rfl⟩
           refine ⟨(fun w h => sees_of (Store.le.refl _) (fun r hr => mem_pick [1, 2, 3, 4, 5, 6, 10, 11, 12, 13, 14, 15] z hr) w h), ?_⟩
           refine TA.front 9 z z (TA.front 9 z z (TA.front 9 z z (TA.ac 5 z (OpOk.call (putKeep_con zf395 u162) z z pf81 z z z z ?_))))
           rintro _ τ422 _ hle422 ⟨a422_1, c422_2, z422_3, b422_5, rfl, zf422_4, rfl⟩
           replace hr111_0 := hr111_0.mono hle422
           replace hr265 := hr265.mono hle422
           replace zf281 := zf281.mono hle422
           replace zf395 := zf395.mono hle422
           replace zf399 := zf399.mono hle422
           replace hr400 := hr400.mono hle422
           have zf422_4b := zf422_4.length
           refine kl 4 hle422 (TA.a 6 z (moveT (.inl z) z) z (TA.a 7 z (OpVal.extract z z z) z (TA.a 8 z (OpVal.extract z z z) z (TA.a 9 z (OpVal.extract z z z) z (TA.a 10 z (moveI (.inr z) z) z (TA.a 11 z (moveB (.inr z) z) z (TA.a 12 z (moveI (.inr z) z) z (TA.dn (S.n (TC.seq (TC.a (TL.i z z (TL.w z (OpVal.neq z z z) (TL.en (TC.cD z hh (fun h425 hh => ?_) (fun h425 hh => ?_))))))))))))))))
           ·refine TC.a (TL.w z (buildL z pl26 ze26 z) (TL.i z z (TL.front 5 z z (TL.op z (storeAll z sz26 z z z z z z ?_)))))
            refine TL.front 6 z z (TL.op z (storeI z sz37 z z z z z ?_))
            refine TL.en (TC.ret (S.r (B.r ?_)))
            obtain rfl := so hh
            exact rnd_r 0 z ⟨z, _, Sub.f [15, 15, 15, 15, 15, 15, 10, 10, 10, 15, 15, 15, 12, 13] 14, ⟨a422_1, c422_2, z422_3, b422_5, z, hn389, zf422_4, zf399, hr400, hn402⟩⟩
           ·refine TC.skip (S.n (TC.seq (TC.a (TL.i z z (TL.w z (OpVal.geq z z z) (TL.en (TC.cD z hh (fun h426 hh => ?_) (fun h426 hh => ?_))))))))
            ·refine TC.a (TL.w z (buildL z pl26 ze26 z) (TL.front 5 z z (TL.op z (storeAll z sz26 z z z z z z ?_))))
             refine TL.front 6 z z (TL.op z (storeI z sz37 z z z z z ?_))
             refine TL.en (TC.ret (S.r (B.r ?_)))
             obtain rfl := so hh
             exact rnd_r 0 z ⟨z, _, Sub.f [15, 15, 15, 15, 15, 15, 10, 10, 10, 15, 15, 15, 12, 13] 14, ⟨a422_1, c422_2, z422_3, b422_5, z, hn389, zf422_4, zf399, hr400, hn402⟩⟩
            ·refine TC.skip (S.n (TC.region (TL.w z (loadLoc z ag22 z (i := 14) z z) (TL.i z z (TL.i z z ?_)))))
             have u184 := grd_c hh
             replace hh := grd_t hh
             refine TL.isSl (i := 15) z (fun hs427 _ _ => ?_)
             refine TL.w z (OpVal.index z underlying22 sz3 z z hs427 u184.1 u184.2) (TL.front 15 z z ?_)
             have hn428 : (l401.set y256_0.toNat v162.1).length = (List.replicate v13.1.length (0 : Int)).length := by rw [List.length_set]; exact hn402
             refine TL.op z (storeS v162.1 z sz3 z z z z Go.E.encI_len Go.E.encI_one (by omega) (by omega) ?_)
             refine TL.nil (B.n ?_)
             obtain rfl := so hh
             exact rnd_n ⟨z, _, Sub.f [15, 15, 15, 15, 15, 8, 8, 8, 15, 15, 15, 15, 15] 14, ⟨a422_1, c422_2, z422_3, b422_5, z, hn389, zf422_4, zf399, hr400, hn428⟩⟩
          ·rintro τ406 _ _ hle407 ⟨a392, c393, z394, b398, rfl, hn389, zf395, zf399, hr400, hn402⟩ ⟨rfl⟩
           replace hr111_0 := hr111_0.mono hle407
           replace hr265 := hr265.mono hle407
           replace zf281 := zf281.mono hle407
           have hn389b := hn389
           have zf395b := zf395.length
           have zf399b := zf399.length
           have hr400b := hr400.rv.big
           have hn402b := hn402
           dsimp only [dfa_Of_k256] at hh
           show jmpQ _ _ _ _ _ τ406 [Res.cells b103 #[.slice none 0 0, .slice none 0 0, .slice none 0 0] 26, Res.cells b105 #[.int .i64 i388] 37, Res.cells b117 #[.slice a113 l130.length c114] 137, Res.rowS 4 1 encB (.slice a176 (List.replicate x0.states.toNat false).length c177) l193, Res.cells b206 #[loc b202_1 0] 138, Res.cells b202_1 #[.slice a392 l391.length c393, .map (some b398)] 170, Res.rowS 22 1 (pkSl 1 Go.E.encI Go.E.encI_len).en (.slice a392 l391.length c393) z394, Res.mapB keyS keyI (some b398) m397, Res.cells b212 #[.slice a111_1 v26.1.length c111_1, .slice a278 l277.length c279, .slice a284 l283.length c285] 26, Res.rowS 22 1 (pkSl 1 Go.E.encI Go.E.encI_len).en (.slice a278 l277.length c279) z280, Res.rowS 4 1 encB (.slice a284 l283.length c285) l283, Res.cells b303 #[.slice a301_1 v116.1.length c301_2] 22, Res.cells b350 #[.slice a347 ((List.replicate v13.1.length (0 : Int)).length) c348] 22, Res.rowS 3 1 Go.E.encI (.slice a347 (List.replicate v13.1.length (0 : Int)).length c348) l401, Res.cells b352_4 #[.slice a352_1 v153.length c352_2] 131]
           refine jmp_split hh ?_ ?_ <;> clear hh
           ·intro hh
            refine B.n (S.n (TC.a (TL.w z (fieldLoc z fo26_1 z) (TL.w z (loadLoc z ag23 z (i := 8) z z) (TL.w z (loadLoc z ag22 z (i := 12) z z) ?_)))))
            rw [← hn402]
            refine TL.front 13 z z (TL.sealS Go.E.encI_len (fun τ433 hle432 hr431 => ?_))
            replace hr111_0 := hr111_0.mono hle432
            replace hr265 := hr265.mono hle432
            replace zf281 := zf281.mono hle432
            replace zf395 := zf395.mono hle432
            replace zf399 := zf399.mono hle432
            have hr431b := hr431.rv.big
            have zf434 : ZOk _ (pkSl 1 Go.E.encI Go.E.encI_len) ([(l401, (a347, c348))] : List (List Int × (pkSl 1 Go.E.encI Go.E.encI_len).P)) [l401] := ZOk.cons (hr431) (ZOk.nil _ _)
            refine TL.op z (litZ zf434 z underlying23 sz22 z ze22 z z z (by decide) (by decide) z (by decide) z (by decide) (fun a429 c430 => ?_))
            refine TL.front 10 z z ?_
            have u190 := grd_c hh
            replace hh := grd_t hh
            refine TL.op z (appendZ (k := (pkSl 1 Go.E.encI Go.E.encI_len)) zf399 zf434 z z underlying23 sz22 by22 ze22 z z (by decide) z z z (.inr ⟨_, 0, z⟩) (by simpa using u190) (by decide) (fun a436 c437 zf438 => ?_))
            refine TL.w z (fieldLoc z fo26_1 z) (TL.front 10 z z (TL.op z (storeSl z sz23 z z z z z ?_)))
            refine TL.en (TC.region (TL.w z (fieldLoc z fo26_2 z) (TL.w z (loadLoc z ag24 z (i := 0) z z) (TL.j z z (TL.op z (OpOk.lit (enc := encB) [t322] z underlying24 sz4 ze4 z z z encB_len (by decide) (by decide) false z (by decide) z (by decide) encB_one (fun a439 c440 => ?_)))))))
            refine TL.front 12 z z ?_
            have u197 := grd_c hh
            replace hh := grd_t hh
            refine TL.op z (appendS z z underlying24 sz4 by4 ze4 z z (by decide) z z z (.inr ⟨_, 0, z⟩) (by simpa using u197) (by decide) (fun a442 c443 => ?_))
            refine TL.w z (fieldLoc z fo26_2 z) (TL.front 2 z z (TL.op z (storeSl z sz24 z z z z z ?_)))
            refine TL.nil (B.n (S.n (TC.region (TL.i z z ?_))))
            have u201 := grd_c hh
            replace hh := grd_t hh
            refine TL.w z (OpVal.succ z z z (by omega)) (TL.i z z (TL.en ?_))
            obtain ⟨hh, hlt444⟩ := nxt_x hR1 hh
            exact lf ((i388, l391, m397, (l277 ++ [l401]), (l283 ++ [t322]), (k286 + 1)), (a392, c393, z394, b398, a436, c437, (z280 ++ ([(l401, (a347, c348))] : List (List Int × (pkSl 1 Go.E.encI Go.E.encI_len).P))), a442, c443, τ433)) hlt444 ⟨hh, hr265, hn389, zf395, zf438, (((((hle294.trans hle325).trans hle352).trans hle404).trans hle407).trans hle432)⟩ (Sub.f [1, 3, 2, 12, 12, 12, 12, 12, 12, 12, 12] 11)
           ·intro m_ c_ hh hc_
            refine jl_split hh hc_ ?_ ?_ <;> clear hh hc_
            ·intro hh
             refine TC.ofSub (Sub.f [1, 1] 2) (TC.ret (B.r (S.r (B.r (S.r (S.r ?_))))))
             replace hh := fin_x hR1 hh
             refine B.r (S.r ?_)
             obtain rfl := so hh
             exact ro [] z (RVs.agg ag26 sz26 z (i := 0) z z (RVs.one ag37 z (i := 1) z z RVs.nil)) ⟨none, 0, none, 0, none, 0, z, (RS.nilF _ Go.E.encI Go.E.encI_len), (RZ.nilF _ (pkSl 1 Go.E.encI Go.E.encI_len)), (RS.nilF _ encB encB_len), z⟩
            ·intro m_ hh hc_
             exact jl_nil hc_
       ·refine TC.exit (S.x (S.x ?_))
        replace hh := fin_x hR1 hh
        refine TC.exitHere (S.n (TC.a (TL.w z (loadAll z ag26 sz26 z (i := 8) z z) (TL.front 3 z z (TL.op z (storeAll z sz26 z z z z z z ?_))))))
        refine TL.front 4 z z (TL.op z (storeI z sz37 z z z z z ?_))
        refine TL.en (TC.front 9 z z (TC.sealZ zf281 (fun τ447 hle446 hr445 => ?_)))
        replace hr111_0 := hr111_0.mono hle446
        have hr445b := hr445.big
        refine TC.front 9 z z (TC.sealS encB_len (fun τ450 hle449 hr448 => ?_))
        replace hr111_0 := hr111_0.mono hle449
        replace hr445 := hr445.mono hle449
        have hr448b := hr448.rv.big
        refine TC.ofSub (Sub.f [1] 2) (TC.ret ?_)
        obtain rfl := so hh
        exact ro [] z (RVs.agg ag26 sz26 z (i := 0) z z (RVs.one ag37 z (i := 1) z z RVs.nil)) ⟨a111_1, c111_1, a278, c279, a284, c285, z, hr111_0, hr445, hr448, z⟩

end Go.Proofs.YtmfclggfajopkaaGreatDoor
end

/- Data2 -/
section
/- More plain data, and how they lie in cells. No program, no condition. -/
set_option linter.unusedVariables false
set_option linter.unusedSimpArgs false
namespace Go.E
open Go

structure Tip where
  state : Int
  out : List UInt8
  deriving DecidableEq
def Tip.zero : Tip := ⟨0, []⟩
structure Arc where
  frm : Int
  to : Int
  set : BSet
  out : List UInt8
  copy : Bool
  deriving DecidableEq
def Arc.zero : Arc := ⟨0, 0, BSet.zero, [], false⟩
structure FPair where
  state : Int
  out : List UInt8
  deriving DecidableEq
def FPair.zero : FPair := ⟨0, []⟩
structure Span where
  frm : Int
  to : Int
  deriving DecidableEq
def Span.zero : Span := ⟨0, 0⟩
def encSpan (x : Span) : List Value := [.int .i64 x.frm, .int .i64 x.to]
theorem encSpan_len (x : Span) : (encSpan x).length = 2 := rfl
theorem encSpan_one : ∀ x, ∀ u ∈ encSpan x, u.oneCell' = true := fun x u hu => by
  simp [encSpan] at hu
  rcases hu with rfl | rfl <;> rfl
/-- A transducer. -/
structure Fst where
  states : Int
  starts : List Tip
  ends : List Tip
  arcs : List Arc
  deriving DecidableEq
def Fst.zero : Fst := ⟨0, [], [], []⟩
end Go.E
end

/- Data6 -/
section
/- More of the program's data: transducers that go one way, rules, pieces. No program, no condition. -/
set_option linter.unusedVariables false
set_option linter.unusedSimpArgs false
namespace Go.E
open Go

structure Seq where
  front : List UInt8
  next : List (List Int)
  outs : List (List (List UInt8))
  fin : List Bool
  tail : List (List UInt8)
def Seq.zero : Seq := ⟨[], [], [], [], []⟩
structure SeqP where
  a1 : Option Addr
  c1 : Nat
  a2 : Option Addr
  c2 : Nat
  a3 : Option Addr
  c3 : Nat
  a4 : Option Addr
  c4 : Nat
def SeqP.zero : SeqP := ⟨none, 0, none, 0, none, 0, none, 0⟩
structure RSeq (σ : Store) (x : Seq) (p : SeqP) : Prop where
  n : RZ σ (pkSl 1 Go.E.encI encI_len) (.slice p.a1 x.next.length p.c1) x.next
  o : RZ σ (pkSl 1 Go.E.encS encS_len) (.slice p.a2 x.outs.length p.c2) x.outs
  e : RS σ 1 encB (.slice p.a3 x.fin.length p.c3) x.fin
  t : RS σ 1 Go.E.encS (.slice p.a4 x.tail.length p.c4) x.tail
theorem RSeq.mono {σ τ : Store} {x : Seq} {p : SeqP} (h : RSeq σ x p) (hle : σ.le τ) : RSeq τ x p := ⟨h.n.mono hle, h.o.mono hle, h.e.mono hle, h.t.mono hle⟩
def Seq.enc (x : Seq) (p : SeqP) : List Value := [.string (bs x.front), .slice p.a1 x.next.length p.c1, .slice p.a2 x.outs.length p.c2, .slice p.a3 x.fin.length p.c3, .slice p.a4 x.tail.length p.c4]
structure Rule where
  of : Dfa
  left : Dfa
  right : Dfa
  out : List UInt8
  mapped : Bool
  by' : Seq
def Rule.zero : Rule := ⟨Dfa.zero, Dfa.zero, Dfa.zero, [], false, Seq.zero⟩
structure RuleP where
  of : DfaP
  left : DfaP
  right : DfaP
  by' : SeqP
def RuleP.zero : RuleP := ⟨DfaP.zero, DfaP.zero, DfaP.zero, SeqP.zero⟩
structure RRule (σ : Store) (x : Rule) (p : RuleP) : Prop where
  o : RDfa σ x.of p.of
  l : RDfa σ x.left p.left
  r : RDfa σ x.right p.right
  b : RSeq σ x.by' p.by'
theorem RRule.mono {σ τ : Store} {x : Rule} {p : RuleP} (h : RRule σ x p) (hle : σ.le τ) : RRule τ x p := ⟨h.o.mono hle, h.l.mono hle, h.r.mono hle, h.b.mono hle⟩
def pkRule : Pk Rule where
  P := RuleP
  d := Rule.zero
  dp := RuleP.zero
  size := 16
  enc x p := [.slice p.of.a1 x.of.cls.length p.of.c1, .slice p.of.a2 x.of.next.length p.of.c2, .slice p.of.a3 x.of.fin.length p.of.c3,
    .slice p.left.a1 x.left.cls.length p.left.c1, .slice p.left.a2 x.left.next.length p.left.c2, .slice p.left.a3 x.left.fin.length p.left.c3,
    .slice p.right.a1 x.right.cls.length p.right.c1, .slice p.right.a2 x.right.next.length p.right.c2, .slice p.right.a3 x.right.fin.length p.right.c3,
    .string (bs x.out), .bool x.mapped,
    .string (bs x.by'.front), .slice p.by'.a1 x.by'.next.length p.by'.c1, .slice p.by'.a2 x.by'.outs.length p.by'.c2, .slice p.by'.a3 x.by'.fin.length p.by'.c3, .slice p.by'.a4 x.by'.tail.length p.by'.c4]
  ok σ x p := RRule σ x p
  len _ _ := rfl
  one _ _ u hu := by simp at hu; rcases hu with rfl | rfl | rfl | rfl | rfl | rfl | rfl | rfl | rfl | rfl | rfl | rfl | rfl | rfl | rfl | rfl <;> rfl
  mono hle h := h.mono hle
  zok σ :=
    have d : RDfa σ Dfa.zero DfaP.zero := ⟨RS.nilF σ Go.E.encI encI_len, RZ.nilF σ (pkSl 1 Go.E.encI encI_len), RS.nilF σ encB encB_len⟩
    ⟨d, d, d, ⟨RZ.nilF σ (pkSl 1 Go.E.encI encI_len), RZ.nilF σ (pkSl 1 Go.E.encS encS_len), RS.nilF σ encB encB_len, RS.nilF σ Go.E.encS encS_len⟩⟩
/-- A strings.Builder's bytes. -/
structure SB where
  buf : List UInt8
structure Turned where
  b : SB
  at' : List Span
structure How where
  r : Rule
structure Piece where
  text : List UInt8
  at' : List Span
def Piece.zero : Piece := ⟨[], []⟩
def pkPiece : Pk Piece where
  P := Option Addr × Nat
  d := Piece.zero
  dp := (none, 0)
  size := 2
  enc x p := [.string (bs x.text), .slice p.1 x.at'.length p.2]
  ok σ x p := RS σ 2 encSpan (.slice p.1 x.at'.length p.2) x.at'
  len _ _ := rfl
  one _ _ u hu := by simp at hu; rcases hu with rfl | rfl <;> rfl
  mono hle h := h.mono hle
  zok σ := RS.nilF σ encSpan encSpan_len
end Go.E
end

/- R2 -/
section
/- Decompiled: where factors stand in a text (what rules reach of it). -/
set_option linter.unusedVariables false
set_option linter.unusedSimpArgs false
namespace Go.Proofs.YtmfclggfajopkaaGreatDoor
open Go Go.E Go.E.OpVal Go.E.OpOk Go.Proofs.Tryz
set_option maxRecDepth 100000
private theorem ag56 : Go.E.aggOf Tryz.prog 56 = some true := by kernel_rfl
private theorem ag66 : Go.E.aggOf Tryz.prog 66 = some false := by kernel_rfl
private theorem by56 : Go.E.byOf Tryz.prog 56 = some 16 := by kernel_rfl
private theorem eg56 : Tryz.prog.eqGuardType Tryz.prog.depth 56 = false := by kernel_rfl
private theorem es56 (x y : Span) : Go.E.EqAt Tryz.prog 2 56 (.agg (Go.E.encSpan x).toArray) (.agg (Go.E.encSpan y).toArray) (decide (x = y)) :=
 (EqAt.struct (ts := [(false, 3, 0), (false, 3, 1)]) (by kernel_rfl) (by kernel_rfl) (by kernel_rfl) (EqC.one (by kernel_rfl) rfl rfl (EqAt.int underlying3 x.frm y.frm) (EqC.one (by kernel_rfl) rfl rfl (EqAt.int underlying3 x.to y.to) EqC.nil))).of (by rw [Bool.eq_iff_iff]; cases x; cases y; simp)
private theorem fo26_0 : Go.E.foOf Tryz.prog 26 0 = some 0 := by kernel_rfl
private theorem pf114 : Go.E.plainF Tryz.prog 114 = true := by kernel_rfl
private theorem pf43 : Go.E.plainF Tryz.prog 43 = true := by kernel_rfl
private theorem pf58 : Go.E.plainF Tryz.prog 58 = true := by kernel_rfl
private theorem pf59 : Go.E.plainF Tryz.prog 59 = true := by kernel_rfl
private theorem pf60 : Go.E.plainF Tryz.prog 60 = true := by kernel_rfl
private theorem pf61 : Go.E.plainF Tryz.prog 61 = true := by kernel_rfl
private theorem pf62 : Go.E.plainF Tryz.prog 62 = true := by kernel_rfl
private theorem pf94 : Go.E.plainF Tryz.prog 94 = true := by kernel_rfl
private theorem pf95 : Go.E.plainF Tryz.prog 95 = true := by kernel_rfl
private theorem pl56 : Go.E.plOf Tryz.prog 56 = some #[(0, 1), (1, 1)] := by kernel_rfl
private theorem sz56 : Go.E.szOf Tryz.prog 56 = some 2 := by kernel_rfl
private theorem ze24 : Go.E.zeroOf Tryz.prog 24 = some (.slice none 0 0) := by kernel_rfl
private theorem ze56 : Go.E.zeroOf Tryz.prog 56 = some (.agg #[.int .i64 0, .int .i64 0]) := by kernel_rfl

noncomputable def scan_check_b1 (x1 : List Dfa) (x0 : List UInt8) (k103 : Nat) : Option ((Nat) ⊕ (Int)) :=
 iteO (decide (((k103 : Nat) : Int) < ((x1.length : Nat) : Int))) (bnd (dfa_Check (nth x1 k103 Dfa.zero)) (fun v11 => iteO (decide (v11 ≠ 0)) (fin (some 1)) (nxt (k103 + 1)))) (fin (iteO (decide (4096 < ((x0.length : Nat) : Int))) (some 2) (some 0)))
noncomputable def scan_check (x0 : List UInt8) (x1 : List Dfa) : Option (Int) :=
 grd (x0.length ≤ 281474976710656) (iter (fun q : Nat => scan_check_b1 x1 x0 q) 0)
theorem scan_check_con {σ : Store} {x0 : List UInt8} {x1 : List Dfa} {a1_0 : Option Addr} {c1_0 : Nat} (f1_0 : RZ σ pkDfa (.slice a1_0 x1.length c1_0) x1) {r : Int} (hh : scan_check x0 x1 = some r) :
  Con Tryz.prog 58 #[.string (bs x0), .slice a1_0 x1.length c1_0] σ [] (PureP (.int .i64 r) σ) := by
 dsimp only [scan_check] at hh
 have f1_0b := f1_0.big
 refine Con.mk (n := 20) Tryz.func58 z z z (fun w0 => ?_)
 have x0b := grd_c hh
 replace hh := grd_t hh
 refine TC.a (TL.i z z (TL.en (TC.seq (TC.a (TL.s z z (TL.w z (lenC z underlying91 z) (TL.i z z (TL.en (TC.block (TC.loopG (α := (Nat) × (Unit)) (rgs [(4, 1), (6, 1), (9, 8)]) (fun g => [(9, .int .i64 ((g.1 : Nat) : Int))]) (fun g => []) (fun g => σ) (fun g => iter (fun q : Nat => scan_check_b1 x1 x0 q) g.1 = some r) (fun g => rounds (fun q : Nat => scan_check_b1 x1 x0 q) g.1) (0, ()) (Sub.pre 0 z) z (by repeat (first | exact trivial | refine ⟨z, ?_⟩)) hh (fun g1 j1 hg1 => ?_)))))))))))
 obtain ⟨k103, _⟩ := g1
 have hh := hg1; clear hg1
 try dsimp only
 obtain ⟨z1, hh, hR1⟩ := iter_e hh
 dsimp only [scan_check_b1] at hh
 refine TC.a (TL.w z (OpVal.lss z z z) (TL.en (TC.seq (TC.cD z hh (fun h104 hh => ?_) (fun h104 hh => ?_)))))
 ·refine TC.skip (S.n (TC.seq (TC.block (TC.a (TL.w z (indexN z underlying91 sz26 z z f1_0.isSl (by omega)) ?_)))))
  obtain ⟨p105, hk105, hg105⟩ := RZ.seg f1_0 k103 (by omega)
  replace hk105 : RDfa _ (nth x1 k103 Dfa.zero) p105 := hk105
  have hk105b := hk105.c.rv.big
  refine TL.w z (loadSegA z ag26 sz26 z hg105 z) (TL.op z (OpOk.alloc z ze26 z z (fun b106 => ?_)))
  refine TL.op z (storeAll z sz26 z z z z z z ?_)
  refine TL.en (TC.a (TL.w z (loadAll z ag26 sz26 z (i := 0) z z) ?_))
  obtain ⟨v11, u11, hh⟩ := bnd_e hh
  refine TL.op z (callP (dfa_Check_con (x0 := (nth x1 k103 Dfa.zero)) hk105.c hk105.n hk105.e u11) z z pf43 z z z ?_)
  refine TL.w z (OpVal.neq z z z) (TL.en (TC.cD z hh (fun h108 hh => ?_) (fun h108 hh => ?_)))
  ·refine TC.a (TL.i z z (TL.en (TC.rt 0 (B.r (S.r (S.r ?_))))))
   replace hh := fin_x hR1 hh
   refine B.r (S.r ?_)
   obtain rfl := so hh
   exact rq [4] ⟨z, z, z⟩
  ·refine TC.skip (B.n (S.n (TC.region (TL.w z (OpVal.succ z z z (by omega)) (TL.i z z (TL.en ?_))))))
   obtain ⟨hh, hlt109⟩ := nxt_x hR1 hh
   exact lf ((k103 + 1), ()) hlt109 hh (Sub.pre 0 z)
 ·refine TC.exit (S.x (S.x ?_))
  replace hh := fin_x hR1 hh
  refine TC.exitHere (S.n (TC.seq (TC.a (TL.w z (moveStr (.inl z) z) (TL.w z (lenBs z underlying9 z) (TL.w z (OpVal.gtr z z z) (TL.en (TC.cD z hh (fun h110 hh => ?_) (fun h110 hh => ?_)))))))))
  ·refine TC.a (TL.i z z (TL.en (TC.ret (S.r ?_))))
   obtain rfl := so hh
   exact rq [4] ⟨z, z, z⟩
  ·refine TC.skip (S.n (TC.a (TL.i z z (TL.en (TC.ret ?_)))))
   obtain rfl := so hh
   exact rq [4] ⟨z, z, z⟩

noncomputable def scan_Factors_1 (x0 : Int) (x1 : List Bool) : Option (Bool) :=
 grd (0 ≤ x0 ∧ x0 < (x1.length : Int)) (some (nth x1 x0.toNat false))
theorem scan_Factors_1_con {σ : Store} {x0 : Int} {x1 : List Bool} {b1_0 : Nat} {Eb1 : Nat} {a1_1 : Option Addr} {c1_2 : Nat} (f1_3 : RS σ 1 encB (.slice a1_1 x1.length c1_2) x1) {r : Bool} (hh : scan_Factors_1 x0 x1 = some r) :
  Con Tryz.prog 61 #[.int .i64 x0, loc b1_0 0] σ [Res.cells b1_0 #[.slice a1_1 x1.length c1_2] Eb1] (fun v σ' H' => v = .bool r ∧ σ = σ' ∧ H' = [Res.cells b1_0 #[.slice a1_1 x1.length c1_2] Eb1]) := by
 dsimp only [scan_Factors_1] at hh
 have f1_3b := f1_3.rv.big
 refine Con.mk (n := 8) Tryz.func61 z z z (fun w0 => ?_)
 refine TC.a (TL.j z z (TL.en (TC.a (TL.w z (loadLoc z ag24 z (i := 0) z z) (TL.i z z ?_)))))
 have u4 := grd_c hh
 replace hh := grd_t hh
 refine TL.w z (OpVal.index z underlying24 sz4 z z f1_3.rv.sl u4.1 u4.2) (TL.w z (loadS1 false z ag4 z f1_3 (by omega) z) (TL.j z z (TL.en (TC.ret ?_))))
 obtain rfl := so hh
 exact ro [Res.cells b1_0 #[.slice a1_1 x1.length c1_2] Eb1] z (RVs.tmp z RVs.nil) ⟨z, z, z⟩

noncomputable def longestF_j1 (x0 : Dfa) (i112 : Int) (x1 : List UInt8) (i113 : Int) (i115 : Int) : Option ((Int × Int × Int) ⊕ (Int)) :=
 nxt (i115, (nth (nth x0.next i112.toNat ([] : List Int)) ((nth x0.cls ((nth x1 i113.toNat (0 : UInt8)).toNat) (0 : Int)).toNat) (0 : Int)), (IntKind.i64.wrap (i113 + 1)))
noncomputable def longestF_b1 (x1 : List UInt8) (x0 : Dfa) (x3_0 : List Bool) (i111 : Int) (i112 : Int) (i113 : Int) : Option ((Int × Int × Int) ⊕ (Int)) :=
 iteO (decide (i113 < ((x1.length : Nat) : Int))) (grd (0 ≤ i112 ∧ i112 < (x0.next.length : Int)) (grd (0 ≤ i113 ∧ i113 < (x1.length : Int)) (grd ((nth x1 i113.toNat (0 : UInt8)).toNat < x0.cls.length) (grd (0 ≤ (nth x0.cls ((nth x1 i113.toNat (0 : UInt8)).toNat) (0 : Int)) ∧ (nth x0.cls ((nth x1 i113.toNat (0 : UInt8)).toNat) (0 : Int)) < ((nth x0.next i112.toNat ([] : List Int)).length : Int)) (grd (0 ≤ (nth (nth x0.next i112.toNat ([] : List Int)) ((nth x0.cls ((nth x1 i113.toNat (0 : UInt8)).toNat) (0 : Int)).toNat) (0 : Int)) ∧ (nth (nth x0.next i112.toNat ([] : List Int)) ((nth x0.cls ((nth x1 i113.toNat (0 : UInt8)).toNat) (0 : Int)).toNat) (0 : Int)) < (x0.fin.length : Int)) (iteO (nth x0.fin ((nth (nth x0.next i112.toNat ([] : List Int)) ((nth x0.cls ((nth x1 i113.toNat (0 : UInt8)).toNat) (0 : Int)).toNat) (0 : Int)).toNat) false) (bnd (scan_Factors_1 (IntKind.i64.wrap (i113 + 1)) x3_0) (fun v36 => iteO v36 (longestF_j1 x0 i112 x1 i113 (IntKind.i64.wrap (i113 + 1))) (longestF_j1 x0 i112 x1 i113 i111))) (longestF_j1 x0 i112 x1 i113 i111))))))) (fin (some i111))
noncomputable def longestF (x0 : Dfa) (x1 : List UInt8) (x2 : Int) (x3_0 : List Bool) : Option (Int) :=
 grd (x1.length ≤ 281474976710656) (iter (fun q : Int × Int × Int => longestF_b1 x1 x0 x3_0 q.1 q.2.1 q.2.2) (x2, 0, x2))
theorem longestF_con {σ : Store} {x0 : Dfa} {a0_0 : Option Addr} {c0_0 : Nat} {a0_1 : Option Addr} {c0_1 : Nat} {a0_2 : Option Addr} {c0_2 : Nat} {x1 : List UInt8} {x2 : Int} {x3_0 : List Bool} {b3_0_0 : Nat} {Eb3_0 : Nat} {a3_0_1 : Option Addr} {c3_0_2 : Nat} (f0_0 : RS σ 1 Go.E.encI (.slice a0_0 x0.cls.length c0_0) x0.cls) (f0_1 : RZ σ (pkSl 1 Go.E.encI Go.E.encI_len) (.slice a0_1 x0.next.length c0_1) x0.next) (f0_2 : RS σ 1 encB (.slice a0_2 x0.fin.length c0_2) x0.fin) (f3_0_3 : RS σ 1 encB (.slice a3_0_1 x3_0.length c3_0_2) x3_0) {r : Int} (hh : longestF x0 x1 x2 x3_0 = some r) :
  Con Tryz.prog 62 #[.agg #[.slice a0_0 x0.cls.length c0_0, .slice a0_1 x0.next.length c0_1, .slice a0_2 x0.fin.length c0_2], .string (bs x1), .int .i64 x2, .func (.func 61) #[] #[loc b3_0_0 0]] σ [Res.cells b3_0_0 #[.slice a3_0_1 x3_0.length c3_0_2] Eb3_0] (fun v σ' H' => v = .int .i64 r ∧ σ = σ' ∧ H' = [Res.cells b3_0_0 #[.slice a3_0_1 x3_0.length c3_0_2] Eb3_0]) := by
 dsimp only [longestF] at hh
 have f0_0b := f0_0.rv.big
 have f0_1b := f0_1.big
 have f0_2b := f0_2.rv.big
 have f3_0_3b := f3_0_3.rv.big
 refine Con.mk (n := 48) Tryz.func62 z z z (fun w0 => ?_)
 have x1b := grd_c hh
 replace hh := grd_t hh
 refine TC.a (TL.op z (boxA z z z z (fun b103 => ?_)))
 refine TL.i z z (TL.en (TC.a (TL.i z z (TL.i z z (TL.i z z (TL.en (TC.seq (TC.a (TL.i z z (TL.i z z (TL.en (TC.block (TC.loopG (α := (Int × Int × Int) × (Unit)) (rgs [(9, 3), (14, 33)]) (fun g => [(9, .int .i64 g.1.1), (10, .int .i64 g.1.2.1), (11, .int .i64 g.1.2.2)]) (fun g => [Res.cells b3_0_0 #[.slice a3_0_1 x3_0.length c3_0_2] Eb3_0, Res.cells b103 #[.slice a0_0 x0.cls.length c0_0, .slice a0_1 x0.next.length c0_1, .slice a0_2 x0.fin.length c0_2] 26]) (fun g => σ) (fun g => iter (fun q : Int × Int × Int => longestF_b1 x1 x0 x3_0 q.1 q.2.1 q.2.2) g.1 = some r) (fun g => rounds (fun q : Int × Int × Int => longestF_b1 x1 x0 x3_0 q.1 q.2.1 q.2.2) g.1) ((x2, 0, x2), ()) (Sub.f [1] 2) z (by repeat (first | exact trivial | refine ⟨z, ?_⟩)) hh (fun g1 j1 hg1 => ?_))))))))))))))
 obtain ⟨⟨i111, i112, i113⟩, _⟩ := g1
 have hh := hg1; clear hg1
 try dsimp only
 obtain ⟨z1, hh, hR1⟩ := iter_e hh
 dsimp only [longestF_b1] at hh
 refine TC.seq (TC.a (TL.i z z (TL.w z (moveStr (.inl z) z) (TL.w z (lenBs z underlying9 z) (TL.w z (OpVal.lss z z z) (TL.en (TC.cD z hh (fun h114 hh => ?_) (fun h114 hh => ?_))))))))
 ·refine TC.skip (S.n (TC.cutG (α := (Int) × (Unit)) (rgs [(9, 2), (20, 27)]) (fun g => [(9, .int .i64 g.1), (10, .int .i64 (nth (nth x0.next i112.toNat ([] : List Int)) ((nth x0.cls ((nth x1 i113.toNat (0 : UInt8)).toNat) (0 : Int)).toNat) (0 : Int)))]) (fun g => [Res.cells b3_0_0 #[.slice a3_0_1 x3_0.length c3_0_2] Eb3_0, Res.cells b103 #[.slice a0_0 x0.cls.length c0_0, .slice a0_1 x0.next.length c0_1, .slice a0_2 x0.fin.length c0_2] 26]) (fun g => σ) (fun g => longestF_j1 x0 i112 x1 i113 g.1 = some z1) ?_ (fun g j hg => ?_)))
  ·skip
   refine TC.block (TC.seq ?_)
   have u15 := grd_c hh
   replace hh := grd_t hh
   have u21 := grd_c hh
   replace hh := grd_t hh
   have u22 := grd_c hh
   replace hh := grd_t hh
   have u24 := grd_c hh
   replace hh := grd_t hh
   refine TC.draw [] (by kernel_rfl) (TA.a 0 z (fieldLoc z fo26_1 z) z (TA.b 1 z (loadLoc z ag23 z (i := 1) z z) z (TA.a 2 z (moveI (.inl z) z) z (TA.b 3 z (OpVal.index z underlying23 sz22 z z f0_1.isSl u15.1 u15.2) z ?_))))
   obtain ⟨p117, hk117, hg117⟩ := RZ.seg f0_1 i112.toNat (by omega)
   replace hk117 : RS _ 1 Go.E.encI (.slice p117.1 (nth x0.next i112.toNat ([] : List Int)).length p117.2) (nth x0.next i112.toNat ([] : List Int)) := hk117
   have hk117b := hk117.rv.big
   refine TA.b 4 z (OpVal.of (loadSeg0 z ag22 z hg117 z) (v' := .slice p117.1 ((nth x0.next i112.toNat ([] : List Int)).length) p117.2) z) z (TA.a 5 z (fieldLoc z fo26_0 z) z (TA.b 6 z (loadLoc z ag22 z (i := 1) z z) z (TA.a 7 z (moveStr (.inl z) z) z (TA.a 8 z (moveI (.inl z) z) z (TA.a 9 z (indexBsI z underlying9 z z u21.1 u21.2) z (TA.b 10 z (indexN z underlying22 sz3 z z f0_0.rv.sl (by omega)) z (TA.b 11 z (loadS1 (0 : Int) z ag3 z f0_0 (by omega) z) z (TA.b 12 z (OpVal.index z underlying22 sz3 z z hk117.rv.sl u24.1 u24.2) z (TA.b 13 z (loadS1 (0 : Int) z ag3 z hk117 (by omega) z) z (TA.a 14 z (moveI (.inr z) z) z (TA.dn (S.n (TC.a (TL.w z (fieldLoc z fo26_2 z) (TL.w z (loadLoc z ag24 z (i := 1) z z) ?_)))))))))))))))
   refine TL.i z z ?_
   have u30 := grd_c hh
   replace hh := grd_t hh
   refine TL.w z (OpVal.index z underlying24 sz4 z z f0_2.rv.sl u30.1 u30.2) (TL.w z (loadS1 false z ag4 z f0_2 (by omega) z) (TL.j z z (TL.split 39 z (fun h118 => ?_) (fun h118 => ?_))))
   ·replace hh := iteO_t h118 hh
    refine TL.g z (moveFn (.inl z) z) (TL.g z (moveI (.inl z) z) (TL.g z (addW z z z) ?_))
    obtain ⟨v36, u36, hh⟩ := bnd_e hh
    refine TL.gon z z z z z (OpOk.call (scan_Factors_1_con f3_0_3 u36) z z pf61 z z z z ?_)
    rintro _ _ _ hle119 ⟨rfl, rfl, rfl⟩
    refine TL.w z (pickTB z z z) (TL.en (TC.cB z hh (fun h120 hh => ?_) (fun h120 hh => ?_)))
    ·exact TC.region (TL.i z z (TL.w z (addW z z z) (TL.i z z (TL.nil (B.n (S.n (cf ((IntKind.i64.wrap (i113 + 1)), ()) hh (Sub.f [1, 1] 2))))))))
    ·exact TC.skip (B.n (S.n (cf (i111, ()) hh (Sub.f [1, 1] 2))))
   ·replace hh := iteO_f h118 hh
    exact TL.f z (TL.f z (TL.f z (TL.f z (TL.w z (pickFB z z z) (TL.en (TC.f z (TC.skip (B.n (S.n (cf (i111, ()) hh (Sub.f [1, 1] 2)))))))))))
  ·skip
   obtain ⟨i115, _⟩ := g
   have hh := hg; clear hg
   try dsimp only
   dsimp only [longestF_j1] at hh
   refine TC.region (TL.i z z (TL.w z (addW z z z) (TL.i z z (TL.en ?_))))
   obtain ⟨hh, hlt121⟩ := nxt_x hR1 hh
   exact lf ((i115, (nth (nth x0.next i112.toNat ([] : List Int)) ((nth x0.cls ((nth x1 i113.toNat (0 : UInt8)).toNat) (0 : Int)).toNat) (0 : Int)), (IntKind.i64.wrap (i113 + 1))), ()) hlt121 hh (Sub.f [1, 1] 2)
 ·refine TC.exit (S.x (S.x ?_))
  replace hh := fin_x hR1 hh
  refine TC.exitHere (S.n (TC.a (TL.i z z (TL.i z z (TL.en (TC.rt 1 ?_))))))
  obtain rfl := so hh
  exact ro [Res.cells b3_0_0 #[.slice a3_0_1 x3_0.length c3_0_2] Eb3_0] z (RVs.tmp z RVs.nil) ⟨z, z, z⟩

noncomputable def scan_Before_j2 (k208 : Nat) (l213 : List Bool) (l216 : List Bool) : Option (((List Bool) × (List Bool) × Nat) ⊕ (((List Bool) × (List Bool) × (List Bool) × Nat) ⊕ ((List Bool) × Int))) :=
 nxt (l213, l216, (k208 + 1))
noncomputable def scan_Before_j3 (k179 : Nat) (x1 : List UInt8) (k208 : Nat) (x0 : Dfa) (l206 : List Bool) (l220 : List Bool) : Option (((List Bool) × (List Bool) × Nat) ⊕ (((List Bool) × (List Bool) × (List Bool) × Nat) ⊕ ((List Bool) × Int))) :=
 iteO (decide (((k179 : Nat) : Int) < ((x1.length : Nat) : Int))) (grd (k208 < x0.next.length) (grd ((nth x1 k179 (0 : UInt8)).toNat < x0.cls.length) (grd (0 ≤ (nth x0.cls ((nth x1 k179 (0 : UInt8)).toNat) (0 : Int)) ∧ (nth x0.cls ((nth x1 k179 (0 : UInt8)).toNat) (0 : Int)) < ((nth x0.next k208 ([] : List Int)).length : Int)) (grd (0 ≤ (nth (nth x0.next k208 ([] : List Int)) ((nth x0.cls ((nth x1 k179 (0 : UInt8)).toNat) (0 : Int)).toNat) (0 : Int)) ∧ (nth (nth x0.next k208 ([] : List Int)) ((nth x0.cls ((nth x1 k179 (0 : UInt8)).toNat) (0 : Int)).toNat) (0 : Int)) < (l206.length : Int)) (scan_Before_j2 k208 l220 (l206.set ((nth (nth x0.next k208 ([] : List Int)) ((nth x0.cls ((nth x1 k179 (0 : UInt8)).toNat) (0 : Int)).toNat) (0 : Int)).toNat) true)))))) (scan_Before_j2 k208 l220 l206)
noncomputable def scan_Before_b2 (x0 : Dfa) (l170 : List Bool) (k179 : Nat) (x1 : List UInt8) (l203 : List Bool) (l206 : List Bool) (k208 : Nat) : Option (((List Bool) × (List Bool) × Nat) ⊕ (((List Bool) × (List Bool) × (List Bool) × Nat) ⊕ ((List Bool) × Int))) :=
 iteO (decide (((k208 : Nat) : Int) < (((List.replicate x0.next.length false).length : Nat) : Int))) (grd (k208 < (l170.set 0 true).length) (iteO (!(nth (l170.set 0 true) k208 false)) (scan_Before_j2 k208 l203 l206) (grd (k179 < l203.length) (iteO (nth l203 k179 false) (grd (k179 < l203.length) (scan_Before_j3 k179 x1 k208 x0 l206 (l203.set k179 true))) (grd (k208 < x0.fin.length) (grd (k179 < l203.length) (scan_Before_j3 k179 x1 k208 x0 l206 (l203.set k179 (nth x0.fin k208 false))))))))) (fin (nxt (l203, l206, (l170.set 0 true), (k179 + 1))))
noncomputable def scan_Before_b1 (x1 : List UInt8) (x0 : Dfa) (l167 : List Bool) (l170 : List Bool) (l175 : List Bool) (k179 : Nat) : Option (((List Bool) × (List Bool) × (List Bool) × Nat) ⊕ ((List Bool) × Int)) :=
 iteO (decide (((k179 : Nat) : Int) < (((List.replicate (x1.length + 1) false).length : Nat) : Int))) (grd (0 < l170.length) (iter (fun q : (List Bool) × (List Bool) × Nat => scan_Before_b2 x0 l170 k179 x1 q.1 q.2.1 q.2.2) (l167, (l175.take 0 ++ List.replicate (l175.length - 0) false), 0))) (fin (some (l167, 0)))
noncomputable def scan_Before_j1 (x1 : List UInt8) (x0 : Dfa) : Option ((List Bool) × Int) :=
 iter (fun q : (List Bool) × (List Bool) × (List Bool) × Nat => scan_Before_b1 x1 x0 q.1 q.2.1 q.2.2.1 q.2.2.2) ((List.replicate (x1.length + 1) false), (List.replicate x0.next.length false), (List.replicate x0.next.length false), 0)
noncomputable def scan_Before (x0 : Dfa) (x1 : List UInt8) : Option ((List Bool) × Int) :=
 grd (x1.length ≤ 281474976710656) (bnd (scan_check x1 [x0]) (fun v7 => iteO (decide (v7 ≠ 0)) (some (([] : List Bool), v7)) (grd (1 * (x1.length + 1) ≤ 281474976710656) (grd (1 * x0.next.length ≤ 281474976710656) (grd (1 * x0.next.length ≤ 281474976710656) (scan_Before_j1 x1 x0))))))
def scan_Before_P (σ : Store) (r : (List Bool) × Int) : Value → Store → List Res → Prop := fun v σ' H' =>
 ∃ (a1 : Option Addr), ∃ (c1 : Nat),  v = .tuple #[.slice a1 r.1.length c1, .int .i64 r.2] ∧ RS σ' 1 encB (.slice a1 r.1.length c1) r.1 ∧ H' = []
theorem scan_Before_con {σ : Store} {x0 : Dfa} {a0_0 : Option Addr} {c0_0 : Nat} {a0_1 : Option Addr} {c0_1 : Nat} {a0_2 : Option Addr} {c0_2 : Nat} {x1 : List UInt8} (f0_0 : RS σ 1 Go.E.encI (.slice a0_0 x0.cls.length c0_0) x0.cls) (f0_1 : RZ σ (pkSl 1 Go.E.encI Go.E.encI_len) (.slice a0_1 x0.next.length c0_1) x0.next) (f0_2 : RS σ 1 encB (.slice a0_2 x0.fin.length c0_2) x0.fin) {r : (List Bool) × Int} (hh : scan_Before x0 x1 = some r) :
  Con Tryz.prog 59 #[.agg #[.slice a0_0 x0.cls.length c0_0, .slice a0_1 x0.next.length c0_1, .slice a0_2 x0.fin.length c0_2], .string (bs x1)] σ [] (scan_Before_P σ r) := by
 dsimp only [scan_Before] at hh
 have f0_0b := f0_0.rv.big
 have f0_1b := f0_1.big
 have f0_2b := f0_2.rv.big
 refine Con.mk (n := 88) Tryz.func59 z z z (fun w0 => ?_)
 have x1b := grd_c hh
 replace hh := grd_t hh
 refine TC.a (TL.op z (boxA z z z z (fun b101 => ?_)))
 refine TL.s z z (TL.i z z (TL.en (TC.seq (TC.a (TL.w z (moveStr (.inl z) z) (TL.w z (loadAll z ag26 sz26 z (i := 0) z z) ?_))))))
 have zf105 : ZOk _ pkDfa ([(x0, ⟨a0_0, c0_0, a0_1, c0_1, a0_2, c0_2⟩)] : List (Dfa × pkDfa.P)) [x0] := ZOk.cons (⟨f0_0, f0_1, f0_2⟩) (ZOk.nil _ _)
 refine TL.op z (litZ zf105 z underlying91 sz26 z ze26 z z z (by decide) (by decide) z (by decide) z (by decide) (fun a103 c104 => ?_))
 refine TL.sealZ zf105 (fun τ109 hle108 hr107 => ?_)
 replace f0_0 := f0_0.mono hle108
 replace f0_1 := f0_1.mono hle108
 replace f0_2 := f0_2.mono hle108
 have hr107b := hr107.big
 obtain ⟨v7, u7, hh⟩ := bnd_e hh
 refine TL.op z (callP (scan_check_con hr107 u7) z z pf58 z z z ?_)
 refine TL.i z z (TL.en (TC.a (TL.i z z (TL.w z (OpVal.neq z z z) (TL.en (TC.cD z hh (fun h110 hh => ?_) (fun h110 hh => ?_)))))))
 ·refine TC.a (TL.i z z (TL.s z z (TL.i z z (TL.en (TC.rt 0 (S.r ?_))))))
  obtain rfl := so hh
  exact rq [4, 5] ⟨none, 0, z, (RS.nilF _ encB encB_len), z⟩
 ·refine TC.skip (S.n (TC.a (TL.w z (moveStr (.inl z) z) (TL.w z (lenBs z underlying9 z) (TL.w z (OpVal.succ z z z (by omega)) ?_)))))
  have u17 := grd_c hh
  replace hh := grd_t hh
  refine TL.op z (makeS2 (enc := encB) false z underlying24 sz4 by4 ze4 z z z z (by omega) (by decide) encB_len (by decide) z encB_one (fun a111 c112 => ?_))
  refine TL.s z z (TL.en (TC.cutG (α := (Unit) × ((Option Addr) × Nat × (Option Addr) × Nat)) (rgs [(8, 2), (24, 8)]) (fun g => [(8, .slice g.2.1 ((List.replicate x0.next.length false).length) g.2.2.1), (9, .slice g.2.2.2.1 ((List.replicate x0.next.length false).length) g.2.2.2.2)]) (fun g => [Res.cells b101 #[.slice a0_0 x0.cls.length c0_0, .slice a0_1 x0.next.length c0_1, .slice a0_2 x0.fin.length c0_2] 26, Res.rowS 4 1 encB (.slice a111 (List.replicate (x1.length + 1) false).length c112) (List.replicate (x1.length + 1) false), Res.rowS 4 1 encB (.slice g.2.1 (List.replicate x0.next.length false).length g.2.2.1) (List.replicate x0.next.length false), Res.rowS 4 1 encB (.slice g.2.2.2.1 (List.replicate x0.next.length false).length g.2.2.2.2) (List.replicate x0.next.length false)]) (fun g => τ109) (fun g => scan_Before_j1 x1 x0 = some r) ?_ (fun g j hg => ?_)))
  ·skip
   have u22 := grd_c hh
   replace hh := grd_t hh
   have u26 := grd_c hh
   replace hh := grd_t hh
   refine TC.draw [] (by kernel_rfl) (TA.a 0 z (fieldLoc z fo26_1 z) z (TA.b 1 z (loadLoc z ag23 z (i := 1) z z) z (TA.b 2 z (lenC z underlying23 z) z (TA.a 4 z (fieldLoc z fo26_1 z) z (TA.b 5 z (loadLoc z ag23 z (i := 1) z z) z (TA.b 6 z (lenC z underlying23 z) z (TA.actN [3, 7] (by kernel_rfl) (an z z (makeS2 (enc := encB) false z underlying24 sz4 by4 ze4 z z z z (by omega) (by decide) encB_len (by decide) z encB_one (fun a126 c127 => (k1 ?_))) (an z z (makeS2 (enc := encB) false z underlying24 sz4 by4 ze4 z z z z (by omega) (by decide) encB_len (by decide) z encB_one (fun a129 c130 => (k1 ?_))) (True.intro))))))))))
   ·skip
    refine TA.a 8 z (moveSl (.inr z) z) z (TA.ac 7 z (makeS2 (enc := encB) false z underlying24 sz4 by4 ze4 z z z z (by omega) (by decide) encB_len (by decide) z encB_one (fun a132 c133 => (k2 ?_))))
    exact TA.a 9 z (moveSl (.inr z) z) z (TA.dn (S.n (cf ((), (a126, c127, a132, c133)) hh (Sub.f [1, 2, 3] 4))))
   ·skip
    refine TA.ac 3 z (makeS2 (enc := encB) false z underlying24 sz4 by4 ze4 z z z z (by omega) (by decide) encB_len (by decide) z encB_one (fun a135 c136 => (k2 ?_)))
    exact TA.a 8 z (moveSl (.inr z) z) z (TA.a 9 z (moveSl (.inr z) z) z (TA.dn (S.n (cf ((), (a135, c136, a129, c130)) hh (Sub.f [1, 1, 2, 3] 4)))))
  ·skip
   obtain ⟨_, ⟨a115, c116, a118, c119⟩⟩ := g
   have hh := hg; clear hg
   try dsimp only
   dsimp only [scan_Before_j1] at hh
   refine TC.isSl (i := 1) z (fun _ hb138 _ => ?_)
   refine TC.isSl (i := 2) z (fun _ hb139 _ => ?_)
   refine TC.isSl (i := 3) z (fun _ hb140 _ => ?_)
   refine TC.seq (TC.a (TL.s z z (TL.w z (lenC z underlying24 z) (TL.i z z (TL.en (TC.block (TC.loopG (α := ((List Bool) × (List Bool) × (List Bool) × Nat) × ((Option Addr) × Nat × (Option Addr) × Nat)) (rgs [(8, 5), (34, 53)]) (fun g => [(8, .slice g.2.1 ((List.replicate x0.next.length false).length) g.2.2.1), (9, .slice g.2.2.2.1 ((List.replicate x0.next.length false).length) g.2.2.2.2), (34, .int .i64 ((g.1.2.2.2 : Nat) : Int))]) (fun g => [Res.cells b101 #[.slice a0_0 x0.cls.length c0_0, .slice a0_1 x0.next.length c0_1, .slice a0_2 x0.fin.length c0_2] 26, Res.rowS 4 1 encB (.slice a111 (List.replicate (x1.length + 1) false).length c112) g.1.1, Res.rowS 4 1 encB (.slice g.2.1 (List.replicate x0.next.length false).length g.2.2.1) g.1.2.1, Res.rowS 4 1 encB (.slice g.2.2.2.1 (List.replicate x0.next.length false).length g.2.2.2.2) g.1.2.2.1]) (fun g => τ109) (fun g => iter (fun q : (List Bool) × (List Bool) × (List Bool) × Nat => scan_Before_b1 x1 x0 q.1 q.2.1 q.2.2.1 q.2.2.2) g.1 = some r ∧ g.1.1.length = (List.replicate (x1.length + 1) false).length ∧ g.1.2.1.length = (List.replicate x0.next.length false).length ∧ g.1.2.2.1.length = (List.replicate x0.next.length false).length) (fun g => rounds (fun q : (List Bool) × (List Bool) × (List Bool) × Nat => scan_Before_b1 x1 x0 q.1 q.2.1 q.2.2.1 q.2.2.2) g.1) (((List.replicate (x1.length + 1) false), (List.replicate x0.next.length false), (List.replicate x0.next.length false), 0), (a115, c116, a118, c119)) (Sub.f [3, 3, 3, 3] 4) z (by repeat (first | exact trivial | refine ⟨z, ?_⟩)) ⟨hh, z, z, z⟩ (fun g1 j1 hg1 => ?_))))))))
   obtain ⟨⟨l167, l170, l175, k179⟩, ⟨a171, c172, a176, c177⟩⟩ := g1
   obtain ⟨hh, hn168, hn173, hn178⟩ := hg1
   try dsimp only at hn168 hn173 hn178 ⊢
   obtain ⟨z1, hh, hR1⟩ := iter_e hh
   dsimp only [scan_Before_b1] at hh
   have hn168b := hn168
   have hn173b := hn173
   have hn178b := hn178
   refine TC.isSl (i := 1) z (fun _ hb180 _ => ?_)
   refine TC.isSl (i := 2) z (fun _ hb181 _ => ?_)
   refine TC.isSl (i := 3) z (fun _ hb182 _ => ?_)
   refine TC.a (TL.w z (OpVal.lss z z z) (TL.en (TC.seq (TC.cD z hh (fun h183 hh => ?_) (fun h183 hh => ?_)))))
   ·refine TC.skip (S.n (TC.seq (TC.block (TC.a (TL.i z z (TL.i z z (TL.en (TC.a (TL.s z z ?_)))))))))
    have u36 := grd_c hh
    replace hh := grd_t hh
    refine TL.isSl (i := 2) z (fun hs184 _ _ => ?_)
    refine TL.w z (indexN (i := 0) z underlying24 sz4 z z hs184 (by omega)) (TL.front 2 z z ?_)
    have hn185 : (l170.set 0 true).length = (List.replicate x0.next.length false).length := by rw [List.length_set]; exact hn173
    refine TL.op z (storeS true z sz4 z z z z encB_len encB_one (by omega) (by omega) ?_)
    refine TL.en (TC.a (TL.s z z (TL.isSl (i := 3) z (fun hs186 _ _ => ?_))))
    refine TL.front 3 z z ?_
    have hn187 : (l175.take 0 ++ List.replicate (l175.length - 0) false).length = (List.replicate x0.next.length false).length := by simp only [List.length_append, List.length_take, List.length_replicate]; try simp only [List.length_replicate] at *; omega
    refine TL.op z (clearV (k := 0) false z underlying24 ze4 z z (VwOk.self hs186) (by omega) (by omega) encB_len (by decide) z encB_one ?_)
    refine TL.en (TC.seq (TC.a (TL.s z z (TL.w z (lenC z underlying24 z) (TL.i z z (TL.en (TC.block (TC.loopG (α := ((List Bool) × (List Bool) × Nat) × (Unit)) (rgs [(11, 2), (42, 42)]) (fun g => [(42, .int .i64 ((g.1.2.2 : Nat) : Int))]) (fun g => [Res.cells b101 #[.slice a0_0 x0.cls.length c0_0, .slice a0_1 x0.next.length c0_1, .slice a0_2 x0.fin.length c0_2] 26, Res.rowS 4 1 encB (.slice a111 (List.replicate (x1.length + 1) false).length c112) g.1.1, Res.rowS 4 1 encB (.slice a171 (List.replicate x0.next.length false).length c172) (l170.set 0 true), Res.rowS 4 1 encB (.slice a176 (List.replicate x0.next.length false).length c177) g.1.2.1]) (fun g => τ109) (fun g => iter (fun q : (List Bool) × (List Bool) × Nat => scan_Before_b2 x0 l170 k179 x1 q.1 q.2.1 q.2.2) g.1 = some z1 ∧ g.1.1.length = (List.replicate (x1.length + 1) false).length ∧ (l170.set 0 true).length = (List.replicate x0.next.length false).length ∧ g.1.2.1.length = (List.replicate x0.next.length false).length) (fun g => rounds (fun q : (List Bool) × (List Bool) × Nat => scan_Before_b2 x0 l170 k179 x1 q.1 q.2.1 q.2.2) g.1) ((l167, (l175.take 0 ++ List.replicate (l175.length - 0) false), 0), ()) (Sub.f [1, 3, 3] 4) z (by repeat (first | exact trivial | refine ⟨z, ?_⟩)) ⟨hh, hn168, hn185, hn187⟩ (fun g2 j2 hg2 => ?_)))))))))
    obtain ⟨⟨l203, l206, k208⟩, _⟩ := g2
    obtain ⟨hh, hn204, hn205, hn207⟩ := hg2
    try dsimp only at hn204 hn205 hn207 ⊢
    obtain ⟨z2, hh, hR2⟩ := iter_e hh
    dsimp only [scan_Before_b2] at hh
    have hn204b := hn204
    have hn205b := hn205
    have hn207b := hn207
    refine TC.isSl (i := 1) z (fun _ hb209 _ => ?_)
    refine TC.isSl (i := 2) z (fun _ hb210 _ => ?_)
    refine TC.isSl (i := 3) z (fun _ hb211 _ => ?_)
    refine TC.a (TL.w z (OpVal.lss z z z) (TL.en (TC.seq (TC.cD z hh (fun h212 hh => ?_) (fun h212 hh => ?_)))))
    ·refine TC.skip (S.n (TC.cutG (α := ((List Bool) × (List Bool)) × (Unit)) (rgs [(11, 2), (44, 39)]) (fun g => []) (fun g => [Res.cells b101 #[.slice a0_0 x0.cls.length c0_0, .slice a0_1 x0.next.length c0_1, .slice a0_2 x0.fin.length c0_2] 26, Res.rowS 4 1 encB (.slice a111 (List.replicate (x1.length + 1) false).length c112) g.1.1, Res.rowS 4 1 encB (.slice a171 (List.replicate x0.next.length false).length c172) (l170.set 0 true), Res.rowS 4 1 encB (.slice a176 (List.replicate x0.next.length false).length c177) g.1.2]) (fun g => τ109) (fun g => scan_Before_j2 k208 g.1.1 g.1.2 = some z2 ∧ g.1.1.length = (List.replicate (x1.length + 1) false).length ∧ (l170.set 0 true).length = (List.replicate x0.next.length false).length ∧ g.1.2.length = (List.replicate x0.next.length false).length) ?_ (fun g j hg => ?_)))
     ·skip
      refine TC.block (TC.a (TL.i z z ?_))
      have u45 := grd_c hh
      replace hh := grd_t hh
      refine TL.isSl (i := 2) z (fun hs218 _ _ => ?_)
      refine TL.w z (indexN z underlying24 sz4 z z hs218 (by omega)) (TL.w z (loadO1 false z ag4 z (q := 2) z encB_len (by omega) z) (TL.i z z (TL.j z z (TL.en (TC.seq (TC.a (TL.j z z (TL.w z (OpVal.not z z) (TL.en (TC.cB z hh (fun h219 hh => ?_) (fun h219 hh => ?_)))))))))))
      ·exact TC.exit (S.x (TC.exitHere (S.n (cf ((l203, l206), ()) ⟨hh, hn204, hn205, hn207⟩ (Sub.f [3, 3, 3, 3] 4)))))
      ·refine TC.skip (S.n (TC.cutG (α := ((List Bool)) × (Unit)) (rgs [(49, 14)]) (fun g => []) (fun g => [Res.cells b101 #[.slice a0_0 x0.cls.length c0_0, .slice a0_1 x0.next.length c0_1, .slice a0_2 x0.fin.length c0_2] 26, Res.rowS 4 1 encB (.slice a111 (List.replicate (x1.length + 1) false).length c112) g.1, Res.rowS 4 1 encB (.slice a171 (List.replicate x0.next.length false).length c172) (l170.set 0 true), Res.rowS 4 1 encB (.slice a176 (List.replicate x0.next.length false).length c177) l206]) (fun g => τ109) (fun g => scan_Before_j3 k179 x1 k208 x0 l206 g.1 = some z2 ∧ g.1.length = (List.replicate (x1.length + 1) false).length ∧ (l170.set 0 true).length = (List.replicate x0.next.length false).length ∧ l206.length = (List.replicate x0.next.length false).length) ?_ (fun g j hg => ?_)))
       ·skip
        refine TC.region (TL.s z z (TL.i z z (TL.s z z (TL.i z z ?_))))
        have u55 := grd_c hh
        replace hh := grd_t hh
        refine TL.isSl (i := 1) z (fun hs224 _ _ => ?_)
        refine TL.w z (indexN z underlying24 sz4 z z hs224 (by omega)) (TL.w z (loadO1 false z ag4 z (q := 1) z encB_len (by omega) z) (TL.j z z (TL.split 55 z (fun h225 => ?_) (fun h225 => ?_))))
        ·replace hh := iteO_t h225 hh
         refine TL.f z (TL.f z (TL.f z (TL.f z (TL.f z (TL.w z (pickTB z z z) ?_)))))
         have u64 := grd_c hh
         replace hh := grd_t hh
         refine TL.isSl (i := 1) z (fun hs226 _ _ => ?_)
         refine TL.w z (indexN z underlying24 sz4 z z hs226 (by omega)) (TL.front 1 z z ?_)
         have hn227 : (l203.set k179 true).length = (List.replicate (x1.length + 1) false).length := by rw [List.length_set]; exact hn204
         refine TL.op z (storeS true z sz4 z z z z encB_len encB_one (by omega) (by omega) ?_)
         exact TL.en (cf ((l203.set k179 true), ()) ⟨hh, hn227, hn205, hn207⟩ (Sub.f [3, 3, 2, 3] 4))
        ·replace hh := iteO_f h225 hh
         refine TL.g z (fieldLoc z fo26_2 z) (TL.g z (loadLoc z ag24 z (i := 0) z z) (TL.g z (moveI (.inl z) z) ?_))
         have u61 := grd_c hh
         replace hh := grd_t hh
         refine TL.g z (indexN z underlying24 sz4 z z f0_2.rv.sl (by omega)) (TL.g z (loadS1 false z ag4 z f0_2 (by omega) z) (TL.w z (pickFB z z z) ?_))
         have u64 := grd_c hh
         replace hh := grd_t hh
         refine TL.isSl (i := 1) z (fun hs228 _ _ => ?_)
         refine TL.w z (indexN z underlying24 sz4 z z hs228 (by omega)) (TL.front 1 z z ?_)
         have hn229 : (l203.set k179 (nth x0.fin k208 false)).length = (List.replicate (x1.length + 1) false).length := by rw [List.length_set]; exact hn204
         refine TL.op z (storeS (nth x0.fin k208 false) z sz4 z z z z encB_len encB_one (by omega) (by omega) ?_)
         exact TL.en (cf ((l203.set k179 (nth x0.fin k208 false)), ()) ⟨hh, hn229, hn205, hn207⟩ (Sub.f [3, 3, 2, 3] 4))
       ·skip
        obtain ⟨l220, _⟩ := g
        obtain ⟨hh, hn221, hn222, hn223⟩ := hg
        try dsimp only at hn221 hn222 hn223 ⊢
        dsimp only [scan_Before_j3] at hh
        have hn221b := hn221
        have hn222b := hn222
        have hn223b := hn223
        refine TC.isSl (i := 1) z (fun _ hb230 _ => ?_)
        refine TC.isSl (i := 2) z (fun _ hb231 _ => ?_)
        refine TC.isSl (i := 3) z (fun _ hb232 _ => ?_)
        refine TC.a (TL.i z z (TL.w z (moveStr (.inl z) z) (TL.w z (lenBs z underlying9 z) (TL.w z (OpVal.lss z z z) (TL.en (TC.cD z hh (fun h233 hh => ?_) (fun h233 hh => ?_)))))))
        ·have u74 := grd_c hh
         replace hh := grd_t hh
         have u81 := grd_c hh
         replace hh := grd_t hh
         have u83 := grd_c hh
         replace hh := grd_t hh
         have u85 := grd_c hh
         replace hh := grd_t hh
         refine TC.draw [16] (by kernel_rfl) (TA.a 0 z (moveSl (.inl z) z) z (TA.a 1 z (fieldLoc z fo26_1 z) z (TA.b 2 z (loadLoc z ag23 z (i := 0) z z) z (TA.a 3 z (moveI (.inl z) z) z (TA.b 4 z (indexN z underlying23 sz22 z z f0_1.isSl (by omega)) z ?_)))))
         obtain ⟨p237, hk237, hg237⟩ := RZ.seg f0_1 k208 (by omega)
         replace hk237 : RS _ 1 Go.E.encI (.slice p237.1 (nth x0.next k208 ([] : List Int)).length p237.2) (nth x0.next k208 ([] : List Int)) := hk237
         have hk237b := hk237.rv.big
         refine TA.b 5 z (OpVal.of (loadSeg0 z ag22 z hg237 z) (v' := .slice p237.1 ((nth x0.next k208 ([] : List Int)).length) p237.2) z) z (TA.a 6 z (fieldLoc z fo26_0 z) z (TA.b 7 z (loadLoc z ag22 z (i := 0) z z) z (TA.a 8 z (moveStr (.inl z) z) z (TA.a 9 z (moveI (.inl z) z) z (TA.a 10 z (indexBs z underlying9 z z (by omega)) z (TA.b 11 z (indexN z underlying22 sz3 z z f0_0.rv.sl (by omega)) z (TA.b 12 z (loadS1 (0 : Int) z ag3 z f0_0 (by omega) z) z (TA.b 13 z (OpVal.index z underlying22 sz3 z z hk237.rv.sl u83.1 u83.2) z (TA.b 14 z (loadS1 (0 : Int) z ag3 z hk237 (by omega) z) z (TA.isSl (i := 3) z (fun hs238 _ _ => ?_)))))))))))
         refine TA.b 15 z (OpVal.index z underlying24 sz4 z z hs238 u85.1 u85.2) z (TA.front 3 z z ?_)
         have hn239 : (l206.set ((nth (nth x0.next k208 ([] : List Int)) ((nth x0.cls ((nth x1 k179 (0 : UInt8)).toNat) (0 : Int)).toNat) (0 : Int)).toNat) true).length = (List.replicate x0.next.length false).length := by rw [List.length_set]; exact hn223
         refine TA.last 16 (by kernel_rfl) z z z (storeS true z sz4 z z z z encB_len encB_one (by omega) (by omega) ?_)
         exact TZ.done (by kernel_rfl) (B.n (S.n (cf ((l220, (l206.set ((nth (nth x0.next k208 ([] : List Int)) ((nth x0.cls ((nth x1 k179 (0 : UInt8)).toNat) (0 : Int)).toNat) (0 : Int)).toNat) true)), ()) ⟨hh, hn221, hn222, hn239⟩ (Sub.f [3, 3, 3] 4))))
        ·exact TC.skip (B.n (S.n (cf ((l220, l206), ()) ⟨hh, hn221, hn222, hn223⟩ (Sub.f [3, 3, 3, 3] 4))))
     ·skip
      obtain ⟨⟨l213, l216⟩, _⟩ := g
      obtain ⟨hh, hn214, hn215, hn217⟩ := hg
      try dsimp only at hn214 hn215 hn217 ⊢
      dsimp only [scan_Before_j2] at hh
      have hn214b := hn214
      have hn215b := hn215
      have hn217b := hn217
      refine TC.isSl (i := 1) z (fun _ hb240 _ => ?_)
      refine TC.isSl (i := 2) z (fun _ hb241 _ => ?_)
      refine TC.isSl (i := 3) z (fun _ hb242 _ => ?_)
      refine TC.region (TL.w z (OpVal.succ z z z (by omega)) (TL.i z z (TL.en ?_)))
      obtain ⟨hh, hlt243⟩ := nxt_x hR2 hh
      exact lf ((l213, l216, (k208 + 1)), ()) hlt243 ⟨hh, hn214, hn215, hn217⟩ (Sub.f [3, 3, 3, 3] 4)
    ·refine TC.exit (S.x (S.x ?_))
     replace hh := fin_x hR2 hh
     refine TC.exitHere (S.n (TC.region (TL.s z z (TL.s z z (TL.s z z (TL.s z z (TL.nil (B.n (S.n (TC.region (TL.w z (OpVal.succ z z z (by omega)) (TL.i z z (TL.en ?_)))))))))))))
     obtain ⟨hh, hlt244⟩ := nxt_x hR1 hh
     exact lf ((l203, l206, (l170.set 0 true), (k179 + 1)), (a176, c177, a171, c172)) hlt244 ⟨hh, hn204, hn207, hn205⟩ (Sub.f [2, 3, 3, 3] 4)
   ·refine TC.exit (S.x (S.x ?_))
    replace hh := fin_x hR1 hh
    refine TC.exitHere (S.n (TC.a (TL.s z z (TL.s z z (TL.i z z (TL.en ?_))))))
    rw [← hn168]
    refine TC.front 1 z z (TC.sealS encB_len (fun τ247 hle246 hr245 => ?_))
    have hr245b := hr245.rv.big
    refine TC.rt 0 ?_
    obtain rfl := so hh
    exact rq [4, 5] ⟨a111, c112, z, hr245, z⟩

noncomputable def slices_Backward_byte_byte_1_b1 {Sy : Type} (x1 : List UInt8) (Y : Sy → Int × UInt8 → Option (Sy × Bool)) (i111 : Int) (s112 : Sy) : Option ((Int × Sy) ⊕ (Sy)) :=
 iteO (decide (0 ≤ i111)) (grd (0 ≤ i111 ∧ i111 < (x1.length : Int)) (bnd (Y s112 (i111, (nth x1 i111.toNat (0 : UInt8)))) (fun v13 => iteO (!v13.2) (fin (some v13.1)) (nxt ((IntKind.i64.wrap (i111 - 1)), v13.1))))) (fin (some s112))
noncomputable def slices_Backward_byte_byte_1 {Sy : Type} (Y : Sy → Int × UInt8 → Option (Sy × Bool)) (s0 : Sy) (x1 : List UInt8) : Option (Sy) :=
 iter (fun q : Int × Sy => slices_Backward_byte_byte_1_b1 x1 Y q.1 q.2) ((IntKind.i64.wrap (((x1.length : Nat) : Int) - 1)), s0)
theorem slices_Backward_byte_byte_1_con {Sy : Type} {σ : Store} {Y : Sy → Int × UInt8 → Option (Sy × Bool)} {s0 : Sy} {x1 : List UInt8} {b1_0 : Nat} {Eb1 : Nat} {a1_1 : Option Addr} {c1_2 : Nat} (f1_3 : RS σ 1 encU8 (.slice a1_1 x1.length c1_2) x1) {r : Sy} (hh : slices_Backward_byte_byte_1 Y s0 x1 = some r) :
  IterOk Tryz.prog 114 [loc b1_0 0] (fun (x : Int × UInt8) _ vs => vs = [.int .i64 x.1, .int .u8 ((x.2.toNat : Nat) : Int)]) Y σ [Res.cells b1_0 #[.slice a1_1 x1.length c1_2] Eb1] s0 r (fun σ' H' => H' = [Res.cells b1_0 #[.slice a1_1 x1.length c1_2] Eb1]) := by
 intro l Z ry0 hY hys
 dsimp only [slices_Backward_byte_byte_1] at hh
 have f1_3b := f1_3.rv.big
 refine Con.mk (n := 19) Tryz.func114 z z z (fun w0 => ?_)
 refine TC.weakR (TC.a (TL.w z (loadLoc z ag66 z (i := 1) z z) (TL.w z (lenC z underlying66 z) (TL.w z (subW z z z) (TL.i z z (TL.en (TC.block (TC.loopG (α := (Int × Sy) × (Res × Store)) (rgs [(3, 1), (7, 12)]) (fun g => [(3, .int .i64 g.1.1)]) (fun g => [Res.cells b1_0 #[.slice a1_1 x1.length c1_2] Eb1, g.2.1]) (fun g => g.2.2) (fun g => iter (fun q : Int × Sy => slices_Backward_byte_byte_1_b1 x1 Y q.1 q.2) g.1 = some r ∧ YR Z g.1.2 g.2.2 g.2.1 ∧ Store.le σ g.2.2) (fun g => rounds (fun q : Int × Sy => slices_Backward_byte_byte_1_b1 x1 Y q.1 q.2) g.1) (((IntKind.i64.wrap (((x1.length : Nat) : Int) - 1)), s0), (ry0, σ)) (Sub.f [1] 2) z (by repeat (first | exact trivial | refine ⟨z, ?_⟩)) ⟨hh, hys, (Store.le.refl _)⟩ (fun g1 j1 hg1 => ?_)))))))))
 obtain ⟨⟨i111, s112⟩, ⟨ry113, τ115⟩⟩ := g1
 obtain ⟨hh, hy114, hle116⟩ := hg1
 try dsimp only at hy114
 dsimp only at hle116
 replace f1_3 := f1_3.mono hle116
 try dsimp only
 obtain ⟨z1, hh, hR1⟩ := iter_e hh
 dsimp only [slices_Backward_byte_byte_1_b1] at hh
 skip
 refine TC.seq (TC.a (TL.i z z (TL.w z (OpVal.geq z z z) (TL.en (TC.cD z hh (fun h117 hh => ?_) (fun h117 hh => ?_))))))
 ·refine TC.skip (S.n (TC.seq (TC.block (TC.a (TL.w z (OpVal.mv (.inl z)) (TL.i z z (TL.w z (loadLoc z ag66 z (i := 0) z z) (TL.i z z ?_))))))))
  have u11 := grd_c hh
  replace hh := grd_t hh
  refine TL.w z (OpVal.index z underlying66 sz5 z z f1_3.rv.sl u11.1 u11.2) (TL.w z (loadS1 (0 : UInt8) z ag5 z f1_3 (by omega) z) ?_)
  obtain ⟨v13, u13, hh⟩ := bnd_e hh
  refine TL.front 1 z z (TL.op z (callY hY hy114 u13 z z z z z z ?_))
  rintro τ118 ry118 hle118 hy118
  refine TL.w z (OpVal.not z z) (TL.en (TC.cB z hh (fun h119 hh => ?_) (fun h119 hh => ?_)))
  ·refine TC.ret (B.r (S.r (S.r ?_)))
   replace hh := fin_x hR1 hh
   refine B.r ?_
   obtain rfl := so hh
   refine ⟨_, Sub.f [1, 1] 2, ?_⟩
   exact ro [ry118, Res.cells b1_0 #[.slice a1_1 x1.length c1_2] Eb1] z RVs.nil ⟨_, _, z, hy118, z⟩
  ·refine TC.skip (B.n (S.n (TC.region (TL.i z z (TL.w z (subW z z z) (TL.i z z (TL.en ?_)))))))
   obtain ⟨hh, hlt120⟩ := nxt_x hR1 hh
   exact lf (((IntKind.i64.wrap (i111 - 1)), v13.1), (ry118, τ118)) hlt120 ⟨hh, hy118, (hle116.trans hle118)⟩ (Sub.f [1] 2)
 ·refine TC.exit (S.x (S.x ?_))
  replace hh := fin_x hR1 hh
  refine TC.exitHere ?_
  obtain rfl := so hh
  refine ⟨_, Sub.f [1] 2, ?_⟩
  exact RetOk.mk' (rs := []) [ry113, Res.cells b1_0 #[.slice a1_1 x1.length c1_2] Eb1] z (.inr z) RVs.nil (List.sublist_append_left _ _) ⟨_, _, z, hy114, z⟩

noncomputable def slices_Backward (x0 : List UInt8) : Option ((List UInt8)) :=
 some x0
theorem slices_Backward_con {σ : Store} {x0 : List UInt8} {a0_0 : Option Addr} {c0_0 : Nat} (f0_0 : RS σ 1 encU8 (.slice a0_0 x0.length c0_0) x0) {r : (List UInt8)} (hh : slices_Backward x0 = some r) :
  Con Tryz.prog 95 #[.slice a0_0 x0.length c0_0] σ [] (fun v σ' H' => ∃ (br4 : Nat), ∃ (ar1 : Option Addr), ∃ (cr2 : Nat), v = .func (.func 114) #[] #[loc br4 0] ∧ RS σ' 1 encU8 (.slice ar1 r.length cr2) r ∧ H' = [Res.cells br4 #[.slice ar1 r.length cr2] 66]) := by
 dsimp only [slices_Backward] at hh
 have f0_0b := f0_0.rv.big
 refine Con.mk (n := 4) Tryz.func95 z z z (fun w0 => ?_)
 refine TC.a (TL.op z (OpOk.box z z z z (fun b103 => ?_)))
 refine TL.w z (OpVal.mv (.inr z)) (TL.en (TC.a (TL.w z (makeFn z) (TL.w z (moveFn (.inr z) z) (TL.en (TC.ret ?_))))))
 obtain rfl := so hh
 exact ro [Res.cells b103 #[.slice a0_0 x0.length c0_0] 66] z (RVs.tmp z RVs.nil) ⟨b103, a0_0, c0_0, z, f0_0, z⟩

theorem cloneB_con {σ : Store} {a : Option Addr} {c : Nat} {l : List Bool} (hl : RS σ 1 encB (.slice a l.length c) l) (hsz : l.length * 1 ≤ 140737488355328) :
  Con Tryz.prog 94 #[.slice a l.length c] σ [] (RowP 4 1 encB l σ) := by
 have hb := hl.rv.big
 refine Con.mk (n := 8) Tryz.func94 z z z (fun w0 => ?_)
 refine TC.a (TL.s z z (TL.nilS 4 1 encB (TL.en (TC.seq (TC.a (TL.s z z (TL.w z (eqlNilSl z underlying24 z z) (TL.en (TC.cond z (fun h2 => ?_) (fun h2 => ?_))))))))))
 ·refine TC.a (TL.s z z (TL.nilS 4 1 encB (TL.en (TC.ret (S.r ?_)))))
  cases a with
  | some _ => simp at h2
  | none =>
   obtain rfl := hl.none_nil
   exact ret1R z z
 ·refine TC.skip (S.n (TC.a (TL.op z (lit0 (enc := encB) z z underlying24 sz4 z z (fun a4 c5 => ?_)))))
  refine TL.s z z (TL.op z (appendS z z underlying24 sz4 by4 ze4 z z (by decide) z z z (.inl hl) (by simpa using hsz) (by decide) (fun a7 c8 => ?_)))
  exact TL.s z z (TL.en (TC.ret (ret1R z z)))

noncomputable def scan_After_j2 (k375 : Nat) (l381 : List Bool) : Option (((List Bool) × Nat) ⊕ (Nat × ((List Bool) × (List Bool) × (List Bool)))) :=
 nxt (l381, (k375 + 1))
noncomputable def scan_After_b1 (x0 : Dfa) (y4_1 : UInt8) (l351 : List Bool) (y4_0 : Int) (l348 : List Bool) (l373 : List Bool) (k375 : Nat) : Option (((List Bool) × Nat) ⊕ (Nat × ((List Bool) × (List Bool) × (List Bool)))) :=
 iteO (decide (((k375 : Nat) : Int) < ((x0.fin.length : Nat) : Int))) (iteO (nth x0.fin k375 false) (grd (k375 < l373.length) (scan_After_j2 k375 (l373.set k375 true))) (grd (k375 < x0.next.length) (grd (y4_1.toNat < x0.cls.length) (grd (0 ≤ (nth x0.cls y4_1.toNat (0 : Int)) ∧ (nth x0.cls y4_1.toNat (0 : Int)) < ((nth x0.next k375 ([] : List Int)).length : Int)) (grd (0 ≤ (nth (nth x0.next k375 ([] : List Int)) ((nth x0.cls y4_1.toNat (0 : Int)).toNat) (0 : Int)) ∧ (nth (nth x0.next k375 ([] : List Int)) ((nth x0.cls y4_1.toNat (0 : Int)).toNat) (0 : Int)) < (l351.length : Int)) (grd (k375 < l373.length) (scan_After_j2 k375 (l373.set k375 (nth l351 ((nth (nth x0.next k375 ([] : List Int)) ((nth x0.cls y4_1.toNat (0 : Int)).toNat) (0 : Int)).toNat) false))))))))) (fin (grd (0 < l373.length) (grd (0 ≤ y4_0 ∧ y4_0 < (l348.length : Int)) (some (0, ((l348.set y4_0.toNat (nth l373 0 false)), l373, l351))))))
noncomputable def scan_After_r4 (x0 : Dfa) (l348 : List Bool) (l351 : List Bool) (l355 : List Bool) (y4_0 : Int) (y4_1 : UInt8) : Option (Nat × ((List Bool) × (List Bool) × (List Bool))) :=
 iter (fun q : (List Bool) × Nat => scan_After_b1 x0 y4_1 l351 y4_0 l348 q.1 q.2) (l355, 0)
noncomputable def scan_After_k4 (jz : Nat) (l348 : List Bool) (l351 : List Bool) (l355 : List Bool) : Option ((List Bool) × Int) :=
 jsel jz (some (l348, 0)) (fun _ => none)
noncomputable def scan_After_j1 (x0 : Dfa) (x1 : List UInt8) : Option ((List Bool) × Int) :=
 grd (0 < x0.fin.length) (grd (x1.length < (List.replicate (x1.length + 1) false).length) (grd (x1.length ≤ 281474976710656) (bnd (slices_Backward x1) (fun v41 => bnd (slices_Backward_byte_byte_1 (stepY (fun (q : (List Bool) × (List Bool) × (List Bool)) (x : Int × UInt8) => scan_After_r4 x0 q.1 q.2.1 q.2.2 x.1 x.2)) (0, (((List.replicate (x1.length + 1) false).set x1.length (nth x0.fin 0 false)), x0.fin, (List.replicate x0.fin.length false))) v41) (fun zr4 => scan_After_k4 zr4.1 zr4.2.1 zr4.2.2.1 zr4.2.2.2)))))
noncomputable def scan_After (x0 : Dfa) (x1 : List UInt8) : Option ((List Bool) × Int) :=
 grd (x1.length ≤ 281474976710656) (bnd (scan_check x1 [x0]) (fun v7 => iteO (decide (v7 ≠ 0)) (some (([] : List Bool), v7)) (grd (1 * (x1.length + 1) ≤ 281474976710656) (grd (x0.fin.length * 1 ≤ 140737488355328) (grd (1 * x0.fin.length ≤ 281474976710656) (scan_After_j1 x0 x1))))))
def scan_After_P (σ : Store) (r : (List Bool) × Int) : Value → Store → List Res → Prop := fun v σ' H' =>
 ∃ (a1 : Option Addr), ∃ (c1 : Nat),  v = .tuple #[.slice a1 r.1.length c1, .int .i64 r.2] ∧ RS σ' 1 encB (.slice a1 r.1.length c1) r.1 ∧ H' = []
theorem scan_After_con {σ : Store} {x0 : Dfa} {a0_0 : Option Addr} {c0_0 : Nat} {a0_1 : Option Addr} {c0_1 : Nat} {a0_2 : Option Addr} {c0_2 : Nat} {x1 : List UInt8} (f0_0 : RS σ 1 Go.E.encI (.slice a0_0 x0.cls.length c0_0) x0.cls) (f0_1 : RZ σ (pkSl 1 Go.E.encI Go.E.encI_len) (.slice a0_1 x0.next.length c0_1) x0.next) (f0_2 : RS σ 1 encB (.slice a0_2 x0.fin.length c0_2) x0.fin) {r : (List Bool) × Int} (hh : scan_After x0 x1 = some r) :
  Con Tryz.prog 60 #[.agg #[.slice a0_0 x0.cls.length c0_0, .slice a0_1 x0.next.length c0_1, .slice a0_2 x0.fin.length c0_2], .string (bs x1)] σ [] (scan_After_P σ r) := by
 dsimp only [scan_After] at hh
 have f0_0b := f0_0.rv.big
 have f0_1b := f0_1.big
 have f0_2b := f0_2.rv.big
 refine Con.mk (n := 83) Tryz.func60 z z z (fun w0 => ?_)
 have x1b := grd_c hh
 replace hh := grd_t hh
 refine TC.a (TL.op z (boxA z z z z (fun b101 => ?_)))
 refine TL.s z z (TL.i z z (TL.en (TC.seq (TC.a (TL.w z (moveStr (.inl z) z) (TL.w z (loadAll z ag26 sz26 z (i := 0) z z) ?_))))))
 have zf105 : ZOk _ pkDfa ([(x0, ⟨a0_0, c0_0, a0_1, c0_1, a0_2, c0_2⟩)] : List (Dfa × pkDfa.P)) [x0] := ZOk.cons (⟨f0_0, f0_1, f0_2⟩) (ZOk.nil _ _)
 refine TL.op z (litZ zf105 z underlying91 sz26 z ze26 z z z (by decide) (by decide) z (by decide) z (by decide) (fun a103 c104 => ?_))
 refine TL.sealZ zf105 (fun τ109 hle108 hr107 => ?_)
 replace f0_0 := f0_0.mono hle108
 replace f0_1 := f0_1.mono hle108
 replace f0_2 := f0_2.mono hle108
 have hr107b := hr107.big
 obtain ⟨v7, u7, hh⟩ := bnd_e hh
 refine TL.op z (callP (scan_check_con hr107 u7) z z pf58 z z z ?_)
 refine TL.i z z (TL.en (TC.a (TL.i z z (TL.w z (OpVal.neq z z z) (TL.en (TC.cD z hh (fun h110 hh => ?_) (fun h110 hh => ?_)))))))
 ·refine TC.a (TL.i z z (TL.s z z (TL.i z z (TL.en (TC.rt 0 (S.r ?_))))))
  obtain rfl := so hh
  exact rq [4, 5] ⟨none, 0, z, (RS.nilF _ encB encB_len), z⟩
 ·refine TC.skip (S.n (TC.a (TL.w z (moveStr (.inl z) z) (TL.w z (lenBs z underlying9 z) (TL.w z (OpVal.succ z z z (by omega)) ?_)))))
  have u17 := grd_c hh
  replace hh := grd_t hh
  refine TL.op z (makeS2 (enc := encB) false z underlying24 sz4 by4 ze4 z z z z (by omega) (by decide) encB_len (by decide) z encB_one (fun a111 c112 => ?_))
  refine TL.op z (OpOk.alloc z ze24 z z (fun b114 => ?_))
  refine TL.op z (storeSl z sz24 z z z z z ?_)
  refine TL.en (TC.cutG (α := (Unit) × (Nat × (Option Addr) × Nat × Nat × (Option Addr) × Nat)) (rgs [(8, 2), (25, 7)]) (fun g => [(8, loc g.2.1 0), (9, loc g.2.2.2.2.1 0)]) (fun g => [Res.cells b101 #[.slice a0_0 x0.cls.length c0_0, .slice a0_1 x0.next.length c0_1, .slice a0_2 x0.fin.length c0_2] 26, Res.cells b114 #[.slice a111 ((List.replicate (x1.length + 1) false).length) c112] 24, Res.rowS 4 1 encB (.slice a111 (List.replicate (x1.length + 1) false).length c112) (List.replicate (x1.length + 1) false), Res.cells g.2.1 #[.slice g.2.2.1 x0.fin.length g.2.2.2.1] 24, Res.rowS 4 1 encB (.slice g.2.2.1 x0.fin.length g.2.2.2.1) x0.fin, Res.cells g.2.2.2.2.1 #[.slice g.2.2.2.2.2.1 ((List.replicate x0.fin.length false).length) g.2.2.2.2.2.2] 24, Res.rowS 4 1 encB (.slice g.2.2.2.2.2.1 (List.replicate x0.fin.length false).length g.2.2.2.2.2.2) (List.replicate x0.fin.length false)]) (fun g => τ109) (fun g => scan_After_j1 x0 x1 = some r) ?_ (fun g j hg => ?_))
  ·skip
   have u22 := grd_c hh
   replace hh := grd_t hh
   have u26 := grd_c hh
   replace hh := grd_t hh
   refine TC.drawR (Hr := [Res.cells b114 #[.slice a111 ((List.replicate (x1.length + 1) false).length) c112] 24, Res.rowS 4 1 encB (.slice a111 (List.replicate (x1.length + 1) false).length c112) (List.replicate (x1.length + 1) false), Res.cells b101 #[.slice a0_0 x0.cls.length c0_0, .slice a0_1 x0.next.length c0_1, .slice a0_2 x0.fin.length c0_2] 26]) (fun r hr => mem_pick [0, 1, 2] z hr) [] (by kernel_rfl) (TA.a 0 z (fieldLoc z fo26_2 z) z (TA.b 1 z (loadLoc z ag24 z (i := 2) z z) z (TA.a 3 z (fieldLoc z fo26_2 z) z (TA.b 4 z (loadLoc z ag24 z (i := 2) z z) z (TA.b 5 z (lenC z underlying24 z) z (TA.actN [2, 6, 7, 8] (by kernel_rfl) (an z z (OpOk.call (cloneB_con f0_2 u22) z z pf94 z z z z ?_) (an z z (makeS2 (enc := encB) false z underlying24 sz4 by4 ze4 z z z z (by omega) (by decide) encB_len (by decide) z encB_one (fun a139 c140 => (k1 ?_))) (an z z (OpOk.alloc z ze24 z z (fun b142 => (k1 ?_))) (an z z (OpOk.alloc z ze24 z z (fun b144 => (k1 ?_))) (True.intro)))))))))))
   ·skip
    rintro _ _ _ _ ⟨⟨a136, c137, rfl⟩, rfl, rfl⟩
    refine k1 (TA.actN [6, 7, 8] (by kernel_rfl) (an z z (makeS2 (enc := encB) false z underlying24 sz4 by4 ze4 z z z z (by omega) (by decide) encB_len (by decide) z encB_one (fun a146 c147 => (k2 ?_))) (an z z (OpOk.alloc z ze24 z z (fun b149 => (k2 ?_))) (an z z (OpOk.alloc z ze24 z z (fun b151 => (k2 ?_))) (True.intro)))))
    ·skip
     refine TA.actN [7, 8] (by kernel_rfl) (an z z (OpOk.alloc z ze24 z z (fun b153 => (k3 ?_))) (an z z (OpOk.alloc z ze24 z z (fun b155 => (k3 ?_))) (True.intro)))
     ·skip
      refine TA.ac 8 z (OpOk.alloc z ze24 z z (fun b157 => (kc 4 ?_)))
      refine TA.front 1 z z (TA.ac 9 z (storeSl z sz24 z z z z z (kc 4 ?_)))
      refine TA.front 1 z z (TA.ac 10 z (storeSl z sz24 z z z z z (kc 4 ?_)))
      exact TA.dn (S.n (cf ((), (b153, a136, c137, b157, a146, c147)) hh (Sub.f [2, 1, 3, 3, 5, 5, 6] 7)))
     ·skip
      refine TA.ac 7 z (OpOk.alloc z ze24 z z (fun b159 => (kc 4 ?_)))
      refine TA.ac 9 z (storeSl z sz24 z z z z z (kc 4 ?_))
      refine TA.front 1 z z (TA.ac 10 z (storeSl z sz24 z z z z z (kc 4 ?_)))
      exact TA.dn (S.n (cf ((), (b159, a136, c137, b155, a146, c147)) hh (Sub.f [2, 1, 3, 3, 5, 5, 6] 7)))
    ·skip
     refine TA.actN [6, 8] (by kernel_rfl) (an z z (makeS2 (enc := encB) false z underlying24 sz4 by4 ze4 z z z z (by omega) (by decide) encB_len (by decide) z encB_one (fun a161 c162 => (k3 ?_))) (an z z (OpOk.alloc z ze24 z z (fun b164 => (k3 ?_))) (True.intro)))
     ·skip
      refine TA.ac 8 z (OpOk.alloc z ze24 z z (fun b166 => (kc 4 ?_)))
      refine TA.front 2 z z (TA.ac 9 z (storeSl z sz24 z z z z z (kc 4 ?_)))
      refine TA.front 1 z z (TA.ac 10 z (storeSl z sz24 z z z z z (kc 4 ?_)))
      exact TA.dn (S.n (cf ((), (b149, a136, c137, b166, a161, c162)) hh (Sub.f [2, 1, 3, 3, 5, 5, 6] 7)))
     ·skip
      refine TA.actN [6, 9] (by kernel_rfl) (an z z (makeS2 (enc := encB) false z underlying24 sz4 by4 ze4 z z z z (by omega) (by decide) encB_len (by decide) z encB_one (fun a168 c169 => (kc 4 ?_))) (an z z (OpOk.front 1 z z (storeSl z sz24 z z z z z (k3 ?_))) (True.intro)))
      ·skip
       refine TA.front 2 z z (TA.ac 9 z (storeSl z sz24 z z z z z (kc 4 ?_)))
       refine TA.front 2 z z (TA.ac 10 z (storeSl z sz24 z z z z z (kc 4 ?_)))
       exact TA.dn (S.n (cf ((), (b149, a136, c137, b164, a168, c169)) hh (Sub.f [2, 1, 3, 3, 5, 5, 6] 7)))
      ·skip
       refine TA.ac 6 z (makeS2 (enc := encB) false z underlying24 sz4 by4 ze4 z z z z (by omega) (by decide) encB_len (by decide) z encB_one (fun a171 c172 => (kc 4 ?_)))
       refine TA.front 2 z z (TA.ac 10 z (storeSl z sz24 z z z z z (kc 4 ?_)))
       exact TA.dn (S.n (cf ((), (b149, a136, c137, b164, a171, c172)) hh (Sub.f [1, 1, 3, 3, 5, 5, 6] 7)))
    ·skip
     refine TA.actN [6, 7] (by kernel_rfl) (an z z (makeS2 (enc := encB) false z underlying24 sz4 by4 ze4 z z z z (by omega) (by decide) encB_len (by decide) z encB_one (fun a174 c175 => (k3 ?_))) (an z z (OpOk.alloc z ze24 z z (fun b177 => (k3 ?_))) (True.intro)))
     ·skip
      refine TA.ac 7 z (OpOk.alloc z ze24 z z (fun b179 => (kc 4 ?_)))
      refine TA.ac 9 z (storeSl z sz24 z z z z z (kc 4 ?_))
      refine TA.front 2 z z (TA.ac 10 z (storeSl z sz24 z z z z z (kc 4 ?_)))
      exact TA.dn (S.n (cf ((), (b179, a136, c137, b151, a174, c175)) hh (Sub.f [2, 1, 3, 3, 5, 5, 6] 7)))
     ·skip
      refine TA.actN [6, 9] (by kernel_rfl) (an z z (makeS2 (enc := encB) false z underlying24 sz4 by4 ze4 z z z z (by omega) (by decide) encB_len (by decide) z encB_one (fun a181 c182 => (kc 4 ?_))) (an z z (storeSl z sz24 z z z z z (k3 ?_)) (True.intro)))
      ·skip
       refine TA.front 1 z z (TA.ac 9 z (storeSl z sz24 z z z z z (kc 4 ?_)))
       refine TA.front 2 z z (TA.ac 10 z (storeSl z sz24 z z z z z (kc 4 ?_)))
       exact TA.dn (S.n (cf ((), (b177, a136, c137, b151, a181, c182)) hh (Sub.f [2, 1, 3, 3, 5, 5, 6] 7)))
      ·skip
       refine TA.ac 6 z (makeS2 (enc := encB) false z underlying24 sz4 by4 ze4 z z z z (by omega) (by decide) encB_len (by decide) z encB_one (fun a184 c185 => (kc 4 ?_)))
       refine TA.front 2 z z (TA.ac 10 z (storeSl z sz24 z z z z z (kc 4 ?_)))
       exact TA.dn (S.n (cf ((), (b177, a136, c137, b151, a184, c185)) hh (Sub.f [1, 1, 3, 3, 5, 5, 6] 7)))
   ·skip
    refine TA.actN [2, 7, 8] (by kernel_rfl) (an z z (OpOk.call (cloneB_con f0_2 u22) z z pf94 z z z z ?_) (an z z (OpOk.alloc z ze24 z z (fun b190 => (k2 ?_))) (an z z (OpOk.alloc z ze24 z z (fun b192 => (k2 ?_))) (True.intro))))
    ·skip
     rintro _ _ _ _ ⟨⟨a187, c188, rfl⟩, rfl, rfl⟩
     refine k2 (TA.actN [7, 8] (by kernel_rfl) (an z z (OpOk.alloc z ze24 z z (fun b194 => (k3 ?_))) (an z z (OpOk.alloc z ze24 z z (fun b196 => (k3 ?_))) (True.intro))))
     ·skip
      refine TA.ac 8 z (OpOk.alloc z ze24 z z (fun b198 => (kc 4 ?_)))
      refine TA.front 1 z z (TA.ac 9 z (storeSl z sz24 z z z z z (kc 4 ?_)))
      refine TA.front 1 z z (TA.ac 10 z (storeSl z sz24 z z z z z (kc 4 ?_)))
      exact TA.dn (S.n (cf ((), (b194, a187, c188, b198, a139, c140)) hh (Sub.f [3, 1, 3, 3, 5, 5, 6] 7)))
     ·skip
      refine TA.ac 7 z (OpOk.alloc z ze24 z z (fun b200 => (kc 4 ?_)))
      refine TA.ac 9 z (storeSl z sz24 z z z z z (kc 4 ?_))
      refine TA.front 1 z z (TA.ac 10 z (storeSl z sz24 z z z z z (kc 4 ?_)))
      exact TA.dn (S.n (cf ((), (b200, a187, c188, b196, a139, c140)) hh (Sub.f [3, 1, 3, 3, 5, 5, 6] 7)))
    ·skip
     refine TA.actN [2, 8] (by kernel_rfl) (an z z (OpOk.call (cloneB_con f0_2 u22) z z pf94 z z z z ?_) (an z z (OpOk.alloc z ze24 z z (fun b205 => (k3 ?_))) (True.intro)))
     ·skip
      rintro _ _ _ _ ⟨⟨a202, c203, rfl⟩, rfl, rfl⟩
      refine k3 (TA.ac 8 z (OpOk.alloc z ze24 z z (fun b207 => (kc 4 ?_))))
      refine TA.front 2 z z (TA.ac 9 z (storeSl z sz24 z z z z z (kc 4 ?_)))
      refine TA.front 1 z z (TA.ac 10 z (storeSl z sz24 z z z z z (kc 4 ?_)))
      exact TA.dn (S.n (cf ((), (b190, a202, c203, b207, a139, c140)) hh (Sub.f [3, 1, 3, 3, 5, 5, 6] 7)))
     ·skip
      refine TA.ac 2 z (OpOk.call (cloneB_con f0_2 u22) z z pf94 z z z z ?_)
      rintro _ _ _ _ ⟨⟨a209, c210, rfl⟩, rfl, rfl⟩
      refine kc 4 (TA.front 2 z z (TA.ac 9 z (storeSl z sz24 z z z z z (kc 4 ?_))))
      refine TA.front 2 z z (TA.ac 10 z (storeSl z sz24 z z z z z (kc 4 ?_)))
      exact TA.dn (S.n (cf ((), (b190, a209, c210, b205, a139, c140)) hh (Sub.f [3, 1, 3, 3, 5, 5, 6] 7)))
    ·skip
     refine TA.actN [2, 7] (by kernel_rfl) (an z z (OpOk.call (cloneB_con f0_2 u22) z z pf94 z z z z ?_) (an z z (OpOk.alloc z ze24 z z (fun b215 => (k3 ?_))) (True.intro)))
     ·skip
      rintro _ _ _ _ ⟨⟨a212, c213, rfl⟩, rfl, rfl⟩
      refine k3 (TA.ac 7 z (OpOk.alloc z ze24 z z (fun b217 => (kc 4 ?_))))
      refine TA.ac 9 z (storeSl z sz24 z z z z z (kc 4 ?_))
      refine TA.front 2 z z (TA.ac 10 z (storeSl z sz24 z z z z z (kc 4 ?_)))
      exact TA.dn (S.n (cf ((), (b217, a212, c213, b192, a139, c140)) hh (Sub.f [3, 1, 3, 3, 5, 5, 6] 7)))
     ·skip
      refine TA.ac 2 z (OpOk.call (cloneB_con f0_2 u22) z z pf94 z z z z ?_)
      rintro _ _ _ _ ⟨⟨a219, c220, rfl⟩, rfl, rfl⟩
      refine kc 4 (TA.front 1 z z (TA.ac 9 z (storeSl z sz24 z z z z z (kc 4 ?_))))
      refine TA.front 2 z z (TA.ac 10 z (storeSl z sz24 z z z z z (kc 4 ?_)))
      exact TA.dn (S.n (cf ((), (b215, a219, c220, b192, a139, c140)) hh (Sub.f [3, 1, 3, 3, 5, 5, 6] 7)))
   ·skip
    refine TA.actN [2, 6, 8] (by kernel_rfl) (an z z (OpOk.call (cloneB_con f0_2 u22) z z pf94 z z z z ?_) (an z z (makeS2 (enc := encB) false z underlying24 sz4 by4 ze4 z z z z (by omega) (by decide) encB_len (by decide) z encB_one (fun a225 c226 => (k2 ?_))) (an z z (OpOk.alloc z ze24 z z (fun b228 => (k2 ?_))) (True.intro))))
    ·skip
     rintro _ _ _ _ ⟨⟨a222, c223, rfl⟩, rfl, rfl⟩
     refine k2 (TA.actN [6, 8] (by kernel_rfl) (an z z (makeS2 (enc := encB) false z underlying24 sz4 by4 ze4 z z z z (by omega) (by decide) encB_len (by decide) z encB_one (fun a230 c231 => (k3 ?_))) (an z z (OpOk.alloc z ze24 z z (fun b233 => (k3 ?_))) (True.intro))))
     ·skip
      refine TA.ac 8 z (OpOk.alloc z ze24 z z (fun b235 => (kc 4 ?_)))
      refine TA.front 3 z z (TA.ac 9 z (storeSl z sz24 z z z z z (kc 4 ?_)))
      refine TA.front 1 z z (TA.ac 10 z (storeSl z sz24 z z z z z (kc 4 ?_)))
      exact TA.dn (S.n (cf ((), (b142, a222, c223, b235, a230, c231)) hh (Sub.f [2, 1, 3, 3, 5, 5, 6] 7)))
     ·skip
      refine TA.actN [6, 9] (by kernel_rfl) (an z z (makeS2 (enc := encB) false z underlying24 sz4 by4 ze4 z z z z (by omega) (by decide) encB_len (by decide) z encB_one (fun a237 c238 => (kc 4 ?_))) (an z z (OpOk.front 2 z z (storeSl z sz24 z z z z z (k3 ?_))) (True.intro)))
      ·skip
       refine TA.front 3 z z (TA.ac 9 z (storeSl z sz24 z z z z z (kc 4 ?_)))
       refine TA.front 2 z z (TA.ac 10 z (storeSl z sz24 z z z z z (kc 4 ?_)))
       exact TA.dn (S.n (cf ((), (b142, a222, c223, b233, a237, c238)) hh (Sub.f [2, 1, 3, 3, 5, 5, 6] 7)))
      ·skip
       refine TA.ac 6 z (makeS2 (enc := encB) false z underlying24 sz4 by4 ze4 z z z z (by omega) (by decide) encB_len (by decide) z encB_one (fun a240 c241 => (kc 4 ?_)))
       refine TA.front 2 z z (TA.ac 10 z (storeSl z sz24 z z z z z (kc 4 ?_)))
       exact TA.dn (S.n (cf ((), (b142, a222, c223, b233, a240, c241)) hh (Sub.f [1, 1, 3, 3, 5, 5, 6] 7)))
    ·skip
     refine TA.actN [2, 8] (by kernel_rfl) (an z z (OpOk.call (cloneB_con f0_2 u22) z z pf94 z z z z ?_) (an z z (OpOk.alloc z ze24 z z (fun b246 => (k3 ?_))) (True.intro)))
     ·skip
      rintro _ _ _ _ ⟨⟨a243, c244, rfl⟩, rfl, rfl⟩
      refine k3 (TA.ac 8 z (OpOk.alloc z ze24 z z (fun b248 => (kc 4 ?_))))
      refine TA.front 3 z z (TA.ac 9 z (storeSl z sz24 z z z z z (kc 4 ?_)))
      refine TA.front 1 z z (TA.ac 10 z (storeSl z sz24 z z z z z (kc 4 ?_)))
      exact TA.dn (S.n (cf ((), (b142, a243, c244, b248, a225, c226)) hh (Sub.f [3, 1, 3, 3, 5, 5, 6] 7)))
     ·skip
      refine TA.ac 2 z (OpOk.call (cloneB_con f0_2 u22) z z pf94 z z z z ?_)
      rintro _ _ _ _ ⟨⟨a250, c251, rfl⟩, rfl, rfl⟩
      refine kc 4 (TA.front 3 z z (TA.ac 9 z (storeSl z sz24 z z z z z (kc 4 ?_))))
      refine TA.front 2 z z (TA.ac 10 z (storeSl z sz24 z z z z z (kc 4 ?_)))
      exact TA.dn (S.n (cf ((), (b142, a250, c251, b246, a225, c226)) hh (Sub.f [3, 1, 3, 3, 5, 5, 6] 7)))
    ·skip
     refine TA.actN [2, 6] (by kernel_rfl) (an z z (OpOk.call (cloneB_con f0_2 u22) z z pf94 z z z z ?_) (an z z (makeS2 (enc := encB) false z underlying24 sz4 by4 ze4 z z z z (by omega) (by decide) encB_len (by decide) z encB_one (fun a256 c257 => (k3 ?_))) (True.intro)))
     ·skip
      rintro _ _ _ _ ⟨⟨a253, c254, rfl⟩, rfl, rfl⟩
      refine k3 (TA.actN [6, 9] (by kernel_rfl) (an z z (makeS2 (enc := encB) false z underlying24 sz4 by4 ze4 z z z z (by omega) (by decide) encB_len (by decide) z encB_one (fun a259 c260 => (kc 4 ?_))) (an z z (OpOk.front 2 z z (storeSl z sz24 z z z z z (k3 ?_))) (True.intro))))
      ·skip
       refine TA.front 3 z z (TA.ac 9 z (storeSl z sz24 z z z z z (kc 4 ?_)))
       refine TA.front 3 z z (TA.ac 10 z (storeSl z sz24 z z z z z (kc 4 ?_)))
       exact TA.dn (S.n (cf ((), (b142, a253, c254, b228, a259, c260)) hh (Sub.f [2, 1, 3, 3, 5, 5, 6] 7)))
      ·skip
       refine TA.ac 6 z (makeS2 (enc := encB) false z underlying24 sz4 by4 ze4 z z z z (by omega) (by decide) encB_len (by decide) z encB_one (fun a262 c263 => (kc 4 ?_)))
       refine TA.front 3 z z (TA.ac 10 z (storeSl z sz24 z z z z z (kc 4 ?_)))
       exact TA.dn (S.n (cf ((), (b142, a253, c254, b228, a262, c263)) hh (Sub.f [1, 1, 3, 3, 5, 5, 6] 7)))
     ·skip
      refine TA.ac 2 z (OpOk.call (cloneB_con f0_2 u22) z z pf94 z z z z ?_)
      rintro _ _ _ _ ⟨⟨a265, c266, rfl⟩, rfl, rfl⟩
      refine kc 4 (TA.front 3 z z (TA.ac 9 z (storeSl z sz24 z z z z z (kc 4 ?_))))
      refine TA.front 3 z z (TA.ac 10 z (storeSl z sz24 z z z z z (kc 4 ?_)))
      exact TA.dn (S.n (cf ((), (b142, a265, c266, b228, a256, c257)) hh (Sub.f [3, 1, 3, 3, 5, 5, 6] 7)))
   ·skip
    refine TA.actN [2, 6, 7] (by kernel_rfl) (an z z (OpOk.call (cloneB_con f0_2 u22) z z pf94 z z z z ?_) (an z z (makeS2 (enc := encB) false z underlying24 sz4 by4 ze4 z z z z (by omega) (by decide) encB_len (by decide) z encB_one (fun a271 c272 => (k2 ?_))) (an z z (OpOk.alloc z ze24 z z (fun b274 => (k2 ?_))) (True.intro))))
    ·skip
     rintro _ _ _ _ ⟨⟨a268, c269, rfl⟩, rfl, rfl⟩
     refine k2 (TA.actN [6, 7] (by kernel_rfl) (an z z (makeS2 (enc := encB) false z underlying24 sz4 by4 ze4 z z z z (by omega) (by decide) encB_len (by decide) z encB_one (fun a276 c277 => (k3 ?_))) (an z z (OpOk.alloc z ze24 z z (fun b279 => (k3 ?_))) (True.intro))))
     ·skip
      refine TA.ac 7 z (OpOk.alloc z ze24 z z (fun b281 => (kc 4 ?_)))
      refine TA.ac 9 z (storeSl z sz24 z z z z z (kc 4 ?_))
      refine TA.front 3 z z (TA.ac 10 z (storeSl z sz24 z z z z z (kc 4 ?_)))
      exact TA.dn (S.n (cf ((), (b281, a268, c269, b144, a276, c277)) hh (Sub.f [2, 1, 3, 3, 5, 5, 6] 7)))
     ·skip
      refine TA.actN [6, 9] (by kernel_rfl) (an z z (makeS2 (enc := encB) false z underlying24 sz4 by4 ze4 z z z z (by omega) (by decide) encB_len (by decide) z encB_one (fun a283 c284 => (kc 4 ?_))) (an z z (storeSl z sz24 z z z z z (k3 ?_)) (True.intro)))
      ·skip
       refine TA.front 1 z z (TA.ac 9 z (storeSl z sz24 z z z z z (kc 4 ?_)))
       refine TA.front 3 z z (TA.ac 10 z (storeSl z sz24 z z z z z (kc 4 ?_)))
       exact TA.dn (S.n (cf ((), (b279, a268, c269, b144, a283, c284)) hh (Sub.f [2, 1, 3, 3, 5, 5, 6] 7)))
      ·skip
       refine TA.ac 6 z (makeS2 (enc := encB) false z underlying24 sz4 by4 ze4 z z z z (by omega) (by decide) encB_len (by decide) z encB_one (fun a286 c287 => (kc 4 ?_)))
       refine TA.front 3 z z (TA.ac 10 z (storeSl z sz24 z z z z z (kc 4 ?_)))
       exact TA.dn (S.n (cf ((), (b279, a268, c269, b144, a286, c287)) hh (Sub.f [1, 1, 3, 3, 5, 5, 6] 7)))
    ·skip
     refine TA.actN [2, 7] (by kernel_rfl) (an z z (OpOk.call (cloneB_con f0_2 u22) z z pf94 z z z z ?_) (an z z (OpOk.alloc z ze24 z z (fun b292 => (k3 ?_))) (True.intro)))
     ·skip
      rintro _ _ _ _ ⟨⟨a289, c290, rfl⟩, rfl, rfl⟩
      refine k3 (TA.ac 7 z (OpOk.alloc z ze24 z z (fun b294 => (kc 4 ?_))))
      refine TA.ac 9 z (storeSl z sz24 z z z z z (kc 4 ?_))
      refine TA.front 3 z z (TA.ac 10 z (storeSl z sz24 z z z z z (kc 4 ?_)))
      exact TA.dn (S.n (cf ((), (b294, a289, c290, b144, a271, c272)) hh (Sub.f [3, 1, 3, 3, 5, 5, 6] 7)))
     ·skip
      refine TA.ac 2 z (OpOk.call (cloneB_con f0_2 u22) z z pf94 z z z z ?_)
      rintro _ _ _ _ ⟨⟨a296, c297, rfl⟩, rfl, rfl⟩
      refine kc 4 (TA.front 1 z z (TA.ac 9 z (storeSl z sz24 z z z z z (kc 4 ?_))))
      refine TA.front 3 z z (TA.ac 10 z (storeSl z sz24 z z z z z (kc 4 ?_)))
      exact TA.dn (S.n (cf ((), (b292, a296, c297, b144, a271, c272)) hh (Sub.f [3, 1, 3, 3, 5, 5, 6] 7)))
    ·skip
     refine TA.actN [2, 6] (by kernel_rfl) (an z z (OpOk.call (cloneB_con f0_2 u22) z z pf94 z z z z ?_) (an z z (makeS2 (enc := encB) false z underlying24 sz4 by4 ze4 z z z z (by omega) (by decide) encB_len (by decide) z encB_one (fun a302 c303 => (k3 ?_))) (True.intro)))
     ·skip
      rintro _ _ _ _ ⟨⟨a299, c300, rfl⟩, rfl, rfl⟩
      refine k3 (TA.actN [6, 9] (by kernel_rfl) (an z z (makeS2 (enc := encB) false z underlying24 sz4 by4 ze4 z z z z (by omega) (by decide) encB_len (by decide) z encB_one (fun a305 c306 => (kc 4 ?_))) (an z z (OpOk.front 1 z z (storeSl z sz24 z z z z z (k3 ?_))) (True.intro))))
      ·skip
       refine TA.front 2 z z (TA.ac 9 z (storeSl z sz24 z z z z z (kc 4 ?_)))
       refine TA.front 3 z z (TA.ac 10 z (storeSl z sz24 z z z z z (kc 4 ?_)))
       exact TA.dn (S.n (cf ((), (b274, a299, c300, b144, a305, c306)) hh (Sub.f [2, 1, 3, 3, 5, 5, 6] 7)))
      ·skip
       refine TA.ac 6 z (makeS2 (enc := encB) false z underlying24 sz4 by4 ze4 z z z z (by omega) (by decide) encB_len (by decide) z encB_one (fun a308 c309 => (kc 4 ?_)))
       refine TA.front 3 z z (TA.ac 10 z (storeSl z sz24 z z z z z (kc 4 ?_)))
       exact TA.dn (S.n (cf ((), (b274, a299, c300, b144, a308, c309)) hh (Sub.f [1, 1, 3, 3, 5, 5, 6] 7)))
     ·skip
      refine TA.ac 2 z (OpOk.call (cloneB_con f0_2 u22) z z pf94 z z z z ?_)
      rintro _ _ _ _ ⟨⟨a311, c312, rfl⟩, rfl, rfl⟩
      refine kc 4 (TA.front 2 z z (TA.ac 9 z (storeSl z sz24 z z z z z (kc 4 ?_))))
      refine TA.front 3 z z (TA.ac 10 z (storeSl z sz24 z z z z z (kc 4 ?_)))
      exact TA.dn (S.n (cf ((), (b274, a311, c312, b144, a302, c303)) hh (Sub.f [3, 1, 3, 3, 5, 5, 6] 7)))
  ·skip
   obtain ⟨_, ⟨b117, a119, c120, b122, a124, c125⟩⟩ := g
   have hh := hg; clear hg
   try dsimp only
   dsimp only [scan_After_j1] at hh
   refine TC.isSl (i := 2) z (fun _ hb314 _ => ?_)
   refine TC.isSl (i := 4) z (fun _ hb315 _ => ?_)
   refine TC.isSl (i := 6) z (fun _ hb316 _ => ?_)
   refine TC.seq ?_
   have u35 := grd_c hh
   replace hh := grd_t hh
   have u37 := grd_c hh
   replace hh := grd_t hh
   refine TC.draw [7] (by kernel_rfl) (TA.b 0 z (loadLoc z ag24 z (i := 1) z z) z (TA.a 1 z (moveStr (.inl z) z) z (TA.b 2 z (lenBs z underlying9 z) z (TA.b 3 z (loadLoc z ag24 z (i := 3) z z) z (TA.isSl (i := 4) z (fun hs320 _ _ => ?_))))))
   refine TA.b 4 z (indexN (i := 0) z underlying24 sz4 z z hs320 (by omega)) z (TA.b 5 z (loadO1 false z ag4 z (q := 4) z encB_len (by omega) z) z (TA.isSl (i := 2) z (fun hs321 _ _ => ?_)))
   refine TA.b 6 z (indexN z underlying24 sz4 z z hs321 (by omega)) z (TA.front 2 z z ?_)
   have hn322 : ((List.replicate (x1.length + 1) false).set x1.length (nth x0.fin 0 false)).length = (List.replicate (x1.length + 1) false).length := by rw [List.length_set]
   refine TA.last 7 (by kernel_rfl) z z z (storeS (nth x0.fin 0 false) z sz4 z z z z encB_len encB_one (by omega) (by omega) ?_)
   refine TZ.done (by kernel_rfl) (S.n (TC.seq (TC.a (TL.w z (moveStr (.inl z) z) ?_))))
   have u40 := grd_c hh
   replace hh := grd_t hh
   refine TL.op z (convBs z underlying9 underlying66 underlying5 z z z u40 ?_)
   intro a323 c323 τ323 hle323 hr323
   replace f0_0 := f0_0.mono hle323
   replace f0_1 := f0_1.mono hle323
   replace f0_2 := f0_2.mono hle323
   have hr323b := hr323.rv.big
   obtain ⟨v41, u41, hh⟩ := bnd_e hh
   refine TL.op z (OpOk.call (slices_Backward_con hr323 u41) z z pf95 z z z z ?_)
   rintro _ τ324 _ hle324 ⟨b324_4, a324_1, c324_2, rfl, f324_3, rfl⟩
   replace f0_0 := f0_0.mono hle324
   replace f0_1 := f0_1.mono hle324
   replace f0_2 := f0_2.mono hle324
   have f324_3b := f324_3.rv.big
   refine TL.en (TC.block (TC.ofSub (Sub.f [7, 7, 7, 7, 5, 7, 7] 8) ?_))
   obtain ⟨zr4, hz4, hh⟩ := bnd_e hh
   obtain ⟨jz4, ⟨l348, l351, l355⟩⟩ := zr4
   dsimp only at hh
   refine TC.rangeG (A := (fun (x : Int × UInt8) _ vs => vs = [.int .i64 x.1, .int .u8 ((x.2.toNat : Nat) : Int)])) [] (fun (q : (List Bool) × (List Bool) × (List Bool)) (x : Int × UInt8) => scan_After_r4 x0 q.1 q.2.1 q.2.2 x.1 x.2) (fun (q : (List Bool) × (List Bool) × (List Bool)) (τ358 : Store) Hs => ∃ (a352 : Option Addr), ∃ (c353 : Nat), ∃ (a356 : Option Addr), ∃ (c357 : Nat), Hs = [Res.cells b101 #[.slice a0_0 x0.cls.length c0_0, .slice a0_1 x0.next.length c0_1, .slice a0_2 x0.fin.length c0_2] 26, Res.cells b114 #[.slice a111 ((List.replicate (x1.length + 1) false).length) c112] 24, Res.rowS 4 1 encB (.slice a111 (List.replicate (x1.length + 1) false).length c112) q.1, Res.cells b117 #[.slice a352 q.2.1.length c353] 24, Res.rowS 4 1 encB (.slice a352 q.2.1.length c353) q.2.1, Res.cells b122 #[.slice a356 q.2.2.length c357] 24, Res.rowS 4 1 encB (.slice a356 q.2.2.length c357) q.2.2] ∧ q.1.length = (List.replicate (x1.length + 1) false).length) (s := (((List.replicate (x1.length + 1) false).set x1.length (nth x0.fin 0 false)), x0.fin, (List.replicate x0.fin.length false))) rfl pf114 rfl rfl (by rintro _ _ _ _ ⟨a352, c353, a356, c357, rfl, hn349⟩ hle_; exact ⟨a352, c353, a356, c357, rfl, hn349⟩) ⟨a119, c120, a124, c125, rfl, hn322⟩ (fun _ _ _ h_ => by subst h_; rfl) (slices_Backward_byte_byte_1_con f324_3 hz4) ?_ ?_
   ·clear hh hz4
    rintro l_ _ _ _ τ358 ⟨l348, l351, l355⟩ ⟨y4_0, y4_1⟩ z4 _ _ hh hle359 rfl ⟨a352, c353, a356, c357, rfl, hn349⟩
    dsimp only [scan_After_r4] at hh
    replace f0_0 := f0_0.mono hle359
    replace f0_1 := f0_1.mono hle359
    replace f0_2 := f0_2.mono hle359
    have hn349b := hn349
    show TC _ _ _ (upds _ [(43, .int .u8 ((y4_1.toNat : Nat) : Int)), (42, .int .i64 y4_0)]) τ358 [Res.cells b101 #[.slice a0_0 x0.cls.length c0_0, .slice a0_1 x0.next.length c0_1, .slice a0_2 x0.fin.length c0_2] 26, Res.cells b114 #[.slice a111 ((List.replicate (x1.length + 1) false).length) c112] 24, Res.rowS 4 1 encB (.slice a111 (List.replicate (x1.length + 1) false).length c112) l348, Res.cells b117 #[.slice a352 l351.length c353] 24, Res.rowS 4 1 encB (.slice a352 l351.length c353) l351, Res.cells b122 #[.slice a356 l355.length c357] 24, Res.rowS 4 1 encB (.slice a356 l355.length c357) l355]
    refine TC.isSl (i := 2) z (fun _ hb360 _ => ?_)
    refine TC.isSl (i := 4) z (fun _ hb361 _ => ?_)
    refine TC.isSl (i := 6) z (fun _ hb362 _ => ?_)
    refine TC.a (TL.i z z (TL.en (TC.region (TL.i z z (TL.nil (asg_n (fun _ _ _ => ?_)))))))
    refine TC.block (TC.seq (TC.a (TL.w z (fieldLoc z fo26_2 z) (TL.w z (loadLoc z ag24 z (i := 0) z z) (TL.w z (lenC z underlying24 z) (TL.i z z (TL.en (TC.block (TC.loopG (α := ((List Bool) × Nat) × (Unit)) (rgs [(12, 2), (47, 27)]) (fun g => [(47, .int .i64 ((g.1.2 : Nat) : Int))]) (fun g => [Res.cells b101 #[.slice a0_0 x0.cls.length c0_0, .slice a0_1 x0.next.length c0_1, .slice a0_2 x0.fin.length c0_2] 26, Res.cells b114 #[.slice a111 ((List.replicate (x1.length + 1) false).length) c112] 24, Res.rowS 4 1 encB (.slice a111 (List.replicate (x1.length + 1) false).length c112) l348, Res.cells b117 #[.slice a352 l351.length c353] 24, Res.rowS 4 1 encB (.slice a352 l351.length c353) l351, Res.cells b122 #[.slice a356 l355.length c357] 24, Res.rowS 4 1 encB (.slice a356 l355.length c357) g.1.1]) (fun g => τ358) (fun g => iter (fun q : (List Bool) × Nat => scan_After_b1 x0 y4_1 l351 y4_0 l348 q.1 q.2) g.1 = some z4 ∧ l348.length = (List.replicate (x1.length + 1) false).length ∧ g.1.1.length = l355.length) (fun g => rounds (fun q : (List Bool) × Nat => scan_After_b1 x0 y4_1 l351 y4_0 l348 q.1 q.2) g.1) ((l355, 0), ()) (Sub.f [6, 6, 6, 6, 6, 6, 6] 7) z (by repeat (first | exact trivial | refine ⟨z, ?_⟩)) ⟨hh, hn349, z⟩ (fun g1 j1 hg1 => ?_))))))))))
    obtain ⟨⟨l373, k375⟩, _⟩ := g1
    obtain ⟨hh, hn372, hn374⟩ := hg1
    try dsimp only at hn372 hn374 ⊢
    obtain ⟨z2, hh, hR2⟩ := iter_e hh
    dsimp only [scan_After_b1] at hh
    have hn372b := hn372
    have hn374b := hn374
    refine TC.isSl (i := 2) z (fun _ hb376 _ => ?_)
    refine TC.isSl (i := 4) z (fun _ hb377 _ => ?_)
    refine TC.isSl (i := 6) z (fun _ hb378 _ => ?_)
    refine TC.a (TL.w z (OpVal.lss z z z) (TL.en (TC.seq (TC.cD z hh (fun h379 hh => ?_) (fun h379 hh => ?_)))))
    ·refine TC.skip (S.n (TC.cutG (α := ((List Bool)) × (Unit)) (rgs [(12, 2), (49, 24)]) (fun g => []) (fun g => [Res.cells b101 #[.slice a0_0 x0.cls.length c0_0, .slice a0_1 x0.next.length c0_1, .slice a0_2 x0.fin.length c0_2] 26, Res.cells b114 #[.slice a111 ((List.replicate (x1.length + 1) false).length) c112] 24, Res.rowS 4 1 encB (.slice a111 (List.replicate (x1.length + 1) false).length c112) l348, Res.cells b117 #[.slice a352 l351.length c353] 24, Res.rowS 4 1 encB (.slice a352 l351.length c353) l351, Res.cells b122 #[.slice a356 l355.length c357] 24, Res.rowS 4 1 encB (.slice a356 l355.length c357) g.1]) (fun g => τ358) (fun g => scan_After_j2 k375 g.1 = some z2 ∧ l348.length = (List.replicate (x1.length + 1) false).length ∧ g.1.length = l355.length) ?_ (fun g j hg => ?_)))
     ·skip
      refine TC.block (TC.a (TL.i z z (TL.w z (indexN z underlying24 sz4 z z f0_2.rv.sl (by omega)) (TL.w z (loadS1 false z ag4 z f0_2 (by omega) z) (TL.i z z (TL.j z z (TL.en (TC.draw [21] (by kernel_rfl) (TA.b 0 z (loadLoc z ag24 z (i := 5) z z) z (TA.a 1 z (moveI (.inl z) z) z (TA.a 2 z (moveB (.inl z) z) z (TA.a 3 z (moveB (.inl z) z) z (TA.split 55 z (fun h383 => ?_) (fun h383 => ?_))))))))))))))
      ·replace hh := iteO_t h383 hh
       refine TA.off 4 z z z z z z (TA.off 5 z z z z z z (TA.off 6 z z z z z z (TA.off 7 z z z z z z (TA.off 8 z z z z z z (TA.off 9 z z z z z z (TA.off 10 z z z z z z (TA.off 11 z z z z z z (TA.off 12 z z z z z z (TA.off 13 z z z z z z (TA.off 14 z z z z z z (TA.off 15 z z z z z z (TA.off 16 z z z z z z (TA.off 17 z z z z z z (TA.off 18 z z z z z z (TA.a 19 z (pickTB z z z) z ?_)))))))))))))))
       have u74 := grd_c hh
       replace hh := grd_t hh
       refine TA.isSl (i := 6) z (fun hs384 _ _ => ?_)
       refine TA.b 20 z (indexN z underlying24 sz4 z z hs384 (by omega)) z (TA.front 6 z z ?_)
       have hn385 : (l373.set k375 true).length = l355.length := by rw [List.length_set]; exact hn374
       refine TA.last 21 (by kernel_rfl) z z z (storeS true z sz4 z z z z encB_len encB_one (by omega) (by omega) ?_)
       exact TZ.done (by kernel_rfl) (B.n (S.n (cf ((l373.set k375 true), ()) ⟨hh, hn372, hn385⟩ (Sub.f [6, 6, 6, 6, 6, 6] 7))))
      ·replace hh := iteO_f h383 hh
       refine TA.on 4 z z z z (loadLoc z ag24 z (i := 3) z z) z (TA.on 5 z z z z (fieldLoc z fo26_1 z) z (TA.on 6 z z z z (loadLoc z ag23 z (i := 0) z z) z (TA.on 7 z z z z (moveI (.inl z) z) z ?_)))
       have u62 := grd_c hh
       replace hh := grd_t hh
       refine TA.on 8 z z z z (indexN z underlying23 sz22 z z f0_1.isSl (by omega)) z ?_
       obtain ⟨p386, hk386, hg386⟩ := RZ.seg f0_1 k375 (by omega)
       replace hk386 : RS _ 1 Go.E.encI (.slice p386.1 (nth x0.next k375 ([] : List Int)).length p386.2) (nth x0.next k375 ([] : List Int)) := hk386
       have hk386b := hk386.rv.big
       refine TA.on 9 z z z z (OpVal.of (loadSeg0 z ag22 z hg386 z) (v' := .slice p386.1 ((nth x0.next k375 ([] : List Int)).length) p386.2) z) z (TA.on 10 z z z z (fieldLoc z fo26_0 z) z (TA.on 11 z z z z (loadLoc z ag22 z (i := 0) z z) z (TA.on 12 z z z z (moveI (.inl z) z) z ?_)))
       have u67 := grd_c hh
       replace hh := grd_t hh
       refine TA.on 13 z z z z (indexN z underlying22 sz3 z z f0_0.rv.sl (by omega)) z (TA.on 14 z z z z (loadS1 (0 : Int) z ag3 z f0_0 (by omega) z) z ?_)
       have u69 := grd_c hh
       replace hh := grd_t hh
       refine TA.on 15 z z z z (OpVal.index z underlying22 sz3 z z hk386.rv.sl u69.1 u69.2) z (TA.on 16 z z z z (loadS1 (0 : Int) z ag3 z hk386 (by omega) z) z ?_)
       have u71 := grd_c hh
       replace hh := grd_t hh
       refine TA.isSl (i := 4) z (fun hs387 _ _ => ?_)
       refine TA.on 17 z z z z (OpVal.index z underlying24 sz4 z z hs387 u71.1 u71.2) z (TA.on 18 z z z z (loadO1 false z ag4 z (q := 4) z encB_len (by omega) z) z (TA.a 19 z (pickFB z z z) z ?_))
       have u74 := grd_c hh
       replace hh := grd_t hh
       refine TA.isSl (i := 6) z (fun hs388 _ _ => ?_)
       refine TA.b 20 z (indexN z underlying24 sz4 z z hs388 (by omega)) z (TA.front 6 z z ?_)
       have hn389 : (l373.set k375 (nth l351 ((nth (nth x0.next k375 ([] : List Int)) ((nth x0.cls y4_1.toNat (0 : Int)).toNat) (0 : Int)).toNat) false)).length = l355.length := by rw [List.length_set]; exact hn374
       refine TA.last 21 (by kernel_rfl) z z z (storeS (nth l351 ((nth (nth x0.next k375 ([] : List Int)) ((nth x0.cls y4_1.toNat (0 : Int)).toNat) (0 : Int)).toNat) false) z sz4 z z z z encB_len encB_one (by omega) (by omega) ?_)
       exact TZ.done (by kernel_rfl) (B.n (S.n (cf ((l373.set k375 (nth l351 ((nth (nth x0.next k375 ([] : List Int)) ((nth x0.cls y4_1.toNat (0 : Int)).toNat) (0 : Int)).toNat) false)), ()) ⟨hh, hn372, hn389⟩ (Sub.f [6, 6, 6, 6, 6, 6] 7))))
     ·skip
      obtain ⟨l381, _⟩ := g
      obtain ⟨hh, hn380, hn382⟩ := hg
      try dsimp only at hn380 hn382 ⊢
      dsimp only [scan_After_j2] at hh
      have hn380b := hn380
      have hn382b := hn382
      refine TC.isSl (i := 2) z (fun _ hb390 _ => ?_)
      refine TC.isSl (i := 4) z (fun _ hb391 _ => ?_)
      refine TC.isSl (i := 6) z (fun _ hb392 _ => ?_)
      refine TC.region (TL.w z (OpVal.succ z z z (by omega)) (TL.i z z (TL.en ?_)))
      obtain ⟨hh, hlt393⟩ := nxt_x hR2 hh
      exact lf ((l381, (k375 + 1)), ()) hlt393 ⟨hh, hn380, hn382⟩ (Sub.f [6, 6, 6, 6, 6, 6, 6] 7)
    ·refine TC.exit (S.x (S.x ?_))
     replace hh := fin_x hR2 hh
     refine TC.exitHere (S.n (TC.a (TL.w z (loadLoc z ag24 z (i := 5) z z) (TL.w z (loadLoc z ag24 z (i := 3) z z) (TL.front 3 z z (TL.op z (storeSl z sz24 z z z z z ?_)))))))
     refine TL.front 5 z z (TL.op z (storeSl z sz24 z z z z z ?_))
     refine TL.en ?_
     have u85 := grd_c hh
     replace hh := grd_t hh
     have u87 := grd_c hh
     replace hh := grd_t hh
     refine TC.draw [6] (by kernel_rfl) (TA.b 0 z (loadLoc z ag24 z (i := 3) z z) z (TA.a 1 z (moveI (.inl z) z) z (TA.b 2 z (loadLoc z ag24 z (i := 1) z z) z (TA.isSl (i := 6) z (fun hs397 _ _ => ?_)))))
     refine TA.b 3 z (indexN (i := 0) z underlying24 sz4 z z hs397 (by omega)) z (TA.b 4 z (loadO1 false z ag4 z (q := 6) z encB_len (by omega) z) z (TA.isSl (i := 4) z (fun hs398 _ _ => ?_)))
     refine TA.b 5 z (OpVal.index z underlying24 sz4 z z hs398 u87.1 u87.2) z (TA.front 4 z z ?_)
     have hn399 : (l348.set y4_0.toNat (nth l373 0 false)).length = (List.replicate (x1.length + 1) false).length := by rw [List.length_set]; exact hn372
     refine TA.last 6 (by kernel_rfl) z z z (storeS (nth l373 0 false) z sz4 z z z z encB_len encB_one (by omega) (by omega) ?_)
     rw [← hn374]
     refine TZ.done (by kernel_rfl) (B.n ?_)
     obtain rfl := so hh
     exact rnd_n ⟨z, _, Sub.f [5, 2, 6, 4, 4, 6, 6] 7, ⟨a356, c357, a352, c353, z, hn399⟩⟩
   ·rintro τ358 _ _ hle359 ⟨a352, c353, a356, c357, rfl, hn349⟩ ⟨rfl⟩
    have hn349b := hn349
    dsimp only [scan_After_k4] at hh
    show jmpQ _ _ _ _ _ τ358 [Res.cells b101 #[.slice a0_0 x0.cls.length c0_0, .slice a0_1 x0.next.length c0_1, .slice a0_2 x0.fin.length c0_2] 26, Res.cells b114 #[.slice a111 ((List.replicate (x1.length + 1) false).length) c112] 24, Res.rowS 4 1 encB (.slice a111 (List.replicate (x1.length + 1) false).length c112) l348, Res.cells b117 #[.slice a352 l351.length c353] 24, Res.rowS 4 1 encB (.slice a352 l351.length c353) l351, Res.cells b122 #[.slice a356 l355.length c357] 24, Res.rowS 4 1 encB (.slice a356 l355.length c357) l355, Res.cells b324_4 #[.slice a324_1 v41.length c324_2] 66]
    refine jmp_split hh ?_ ?_ <;> clear hh
    ·intro hh
     refine B.n (S.n (TC.a (TL.w z (loadLoc z ag24 z (i := 1) z z) (TL.s z z (TL.i z z (TL.en ?_))))))
     rw [← hn349]
     refine TC.front 2 z z (TC.sealS encB_len (fun τ402 hle401 hr400 => ?_))
     have hr400b := hr400.rv.big
     refine TC.rt 0 ?_
     obtain rfl := so hh
     exact rq [4, 5] ⟨a111, c112, z, hr400, z⟩
    ·intro m_ c_ hh hc_
     exact jl_nil hc_

noncomputable def scan_Factors_j1 (i135 : Int) (l132 : List Span) (i139 : Int) : Option (((List Span) × Int) ⊕ ((List Span) × Int)) :=
 iteO (decide (i139 = i135)) (nxt (l132, (IntKind.i64.wrap (i135 + 1)))) (grd ((l132.length + [(⟨i135, i139⟩ : Span)].length) * 16 ≤ 140737488355328) (nxt ((l132 ++ [(⟨i135, i139⟩ : Span)]), i139)))
noncomputable def scan_Factors_b1 (x3 : List UInt8) (v20 : (List Bool) × Int) (x0 : Dfa) (v33 : (List Bool) × Int) (l132 : List Span) (i135 : Int) : Option (((List Span) × Int) ⊕ ((List Span) × Int)) :=
 iteO (decide (i135 < ((x3.length : Nat) : Int))) (grd (0 ≤ i135 ∧ i135 < (v20.1.length : Int)) (iteO (nth v20.1 i135.toNat false) (bnd (longestF x0 x3 i135 v33.1) (fun v63 => scan_Factors_j1 i135 l132 v63)) (scan_Factors_j1 i135 l132 i135))) (fin (some (l132, 0)))
noncomputable def scan_Factors (x0 : Dfa) (x1 : Dfa) (x2 : Dfa) (x3 : List UInt8) : Option ((List Span) × Int) :=
 grd (x3.length ≤ 281474976710656) (bnd (scan_check x3 [x0, x1, x2]) (fun v11 => iteO (decide (v11 ≠ 0)) (some (([] : List Span), v11)) (bnd (scan_Before x1 x3) (fun v20 => iteO (decide (v20.2 ≠ 0)) (some (([] : List Span), v20.2)) (bnd (scan_After x2 x3) (fun v33 => iteO (decide (v33.2 ≠ 0)) (some (([] : List Span), v33.2)) (iter (fun q : (List Span) × Int => scan_Factors_b1 x3 v20 x0 v33 q.1 q.2) (([] : List Span), 0))))))))
def scan_Factors_P (σ : Store) (r : (List Span) × Int) : Value → Store → List Res → Prop := fun v σ' H' =>
 ∃ (a1 : Option Addr), ∃ (c1 : Nat),  v = .tuple #[.slice a1 r.1.length c1, .int .i64 r.2] ∧ RS σ' 2 encSpan (.slice a1 r.1.length c1) r.1 ∧ H' = []
theorem scan_Factors_con {σ : Store} {x0 : Dfa} {a0_0 : Option Addr} {c0_0 : Nat} {a0_1 : Option Addr} {c0_1 : Nat} {a0_2 : Option Addr} {c0_2 : Nat} {x1 : Dfa} {a1_0 : Option Addr} {c1_0 : Nat} {a1_1 : Option Addr} {c1_1 : Nat} {a1_2 : Option Addr} {c1_2 : Nat} {x2 : Dfa} {a2_0 : Option Addr} {c2_0 : Nat} {a2_1 : Option Addr} {c2_1 : Nat} {a2_2 : Option Addr} {c2_2 : Nat} {x3 : List UInt8} (f0_0 : RS σ 1 Go.E.encI (.slice a0_0 x0.cls.length c0_0) x0.cls) (f0_1 : RZ σ (pkSl 1 Go.E.encI Go.E.encI_len) (.slice a0_1 x0.next.length c0_1) x0.next) (f0_2 : RS σ 1 encB (.slice a0_2 x0.fin.length c0_2) x0.fin) (f1_0 : RS σ 1 Go.E.encI (.slice a1_0 x1.cls.length c1_0) x1.cls) (f1_1 : RZ σ (pkSl 1 Go.E.encI Go.E.encI_len) (.slice a1_1 x1.next.length c1_1) x1.next) (f1_2 : RS σ 1 encB (.slice a1_2 x1.fin.length c1_2) x1.fin) (f2_0 : RS σ 1 Go.E.encI (.slice a2_0 x2.cls.length c2_0) x2.cls) (f2_1 : RZ σ (pkSl 1 Go.E.encI Go.E.encI_len) (.slice a2_1 x2.next.length c2_1) x2.next) (f2_2 : RS σ 1 encB (.slice a2_2 x2.fin.length c2_2) x2.fin) {r : (List Span) × Int} (hh : scan_Factors x0 x1 x2 x3 = some r) :
  Con Tryz.prog 27 #[.agg #[.slice a0_0 x0.cls.length c0_0, .slice a0_1 x0.next.length c0_1, .slice a0_2 x0.fin.length c0_2], .agg #[.slice a1_0 x1.cls.length c1_0, .slice a1_1 x1.next.length c1_1, .slice a1_2 x1.fin.length c1_2], .agg #[.slice a2_0 x2.cls.length c2_0, .slice a2_1 x2.next.length c2_1, .slice a2_2 x2.fin.length c2_2], .string (bs x3)] σ [] (scan_Factors_P σ r) := by
 dsimp only [scan_Factors] at hh
 have f0_0b := f0_0.rv.big
 have f0_1b := f0_1.big
 have f0_2b := f0_2.rv.big
 have f1_0b := f1_0.rv.big
 have f1_1b := f1_1.big
 have f1_2b := f1_2.rv.big
 have f2_0b := f2_0.rv.big
 have f2_1b := f2_1.big
 have f2_2b := f2_2.rv.big
 refine Con.mk (n := 73) Tryz.func27 z z z (fun w0 => ?_)
 have x3b := grd_c hh
 replace hh := grd_t hh
 refine TC.a (TL.op z (boxA z z z z (fun b101 => ?_)))
 refine TL.op z (boxA z z z z (fun b103 => ?_))
 refine TL.op z (boxA z z z z (fun b105 => ?_))
 refine TL.s z z (TL.i z z (TL.en (TC.seq (TC.a (TL.w z (moveStr (.inl z) z) (TL.w z (loadAll z ag26 sz26 z (i := 2) z z) (TL.w z (loadAll z ag26 sz26 z (i := 1) z z) (TL.w z (loadAll z ag26 sz26 z (i := 0) z z) ?_))))))))
 have zf109 : ZOk _ pkDfa ([(x0, ⟨a0_0, c0_0, a0_1, c0_1, a0_2, c0_2⟩), (x1, ⟨a1_0, c1_0, a1_1, c1_1, a1_2, c1_2⟩), (x2, ⟨a2_0, c2_0, a2_1, c2_1, a2_2, c2_2⟩)] : List (Dfa × pkDfa.P)) [x0, x1, x2] := ZOk.cons (⟨f0_0, f0_1, f0_2⟩) (ZOk.cons (⟨f1_0, f1_1, f1_2⟩) (ZOk.cons (⟨f2_0, f2_1, f2_2⟩) (ZOk.nil _ _)))
 refine TL.op z (litZ zf109 z underlying91 sz26 z ze26 z z z (by decide) (by decide) z (by decide) z (by decide) (fun a107 c108 => ?_))
 refine TL.sealZ zf109 (fun τ113 hle112 hr111 => ?_)
 replace f0_0 := f0_0.mono hle112
 replace f0_1 := f0_1.mono hle112
 replace f0_2 := f0_2.mono hle112
 replace f1_0 := f1_0.mono hle112
 replace f1_1 := f1_1.mono hle112
 replace f1_2 := f1_2.mono hle112
 replace f2_0 := f2_0.mono hle112
 replace f2_1 := f2_1.mono hle112
 replace f2_2 := f2_2.mono hle112
 have hr111b := hr111.big
 obtain ⟨v11, u11, hh⟩ := bnd_e hh
 refine TL.op z (callP (scan_check_con hr111 u11) z z pf58 z z z ?_)
 refine TL.i z z (TL.en (TC.a (TL.i z z (TL.w z (OpVal.neq z z z) (TL.en (TC.cD z hh (fun h114 hh => ?_) (fun h114 hh => ?_)))))))
 ·refine TC.a (TL.i z z (TL.s z z (TL.i z z (TL.en (TC.rt 0 (S.r ?_))))))
  obtain rfl := so hh
  exact rq [8, 9] ⟨none, 0, z, (RS.nilF _ encSpan encSpan_len), z⟩
 ·refine TC.skip (S.n (TC.a (TL.w z (loadAll z ag26 sz26 z (i := 1) z z) (TL.w z (moveStr (.inl z) z) ?_))))
  obtain ⟨v20, u20, hh⟩ := bnd_e hh
  refine TL.op z (OpOk.call (scan_Before_con (x0 := x1) f1_0 f1_1 f1_2 u20) z z pf59 z z z z ?_)
  rintro _ τ115 _ hle115 ⟨a115_1, c115_1, rfl, hr115_0, rfl⟩
  replace f0_0 := f0_0.mono hle115
  replace f0_1 := f0_1.mono hle115
  replace f0_2 := f0_2.mono hle115
  replace f2_0 := f2_0.mono hle115
  replace f2_1 := f2_1.mono hle115
  replace f2_2 := f2_2.mono hle115
  have hr115_0b := hr115_0.rv.big
  refine TL.w z (moveT (.inl z) z) (TL.w z (OpVal.extract z z z) (TL.w z (OpVal.extract z z z) (TL.s z z (TL.i z z (TL.en (TC.seq (TC.a (TL.i z z (TL.w z (OpVal.neq z z z) (TL.en (TC.cD z hh (fun h116 hh => ?_) (fun h116 hh => ?_))))))))))))
  ·refine TC.a (TL.i z z (TL.s z z (TL.i z z (TL.en (TC.rt 0 (S.r ?_))))))
   obtain rfl := so hh
   exact rq [8, 9] ⟨none, 0, z, (RS.nilF _ encSpan encSpan_len), z⟩
  ·refine TC.skip (S.n (TC.a (TL.w z (loadAll z ag26 sz26 z (i := 0) z z) (TL.w z (moveStr (.inl z) z) ?_))))
   obtain ⟨v33, u33, hh⟩ := bnd_e hh
   refine TL.op z (OpOk.call (scan_After_con (x0 := x2) f2_0 f2_1 f2_2 u33) z z pf60 z z z z ?_)
   rintro _ τ117 _ hle117 ⟨a117_1, c117_1, rfl, hr117_0, rfl⟩
   replace f0_0 := f0_0.mono hle117
   replace f0_1 := f0_1.mono hle117
   replace f0_2 := f0_2.mono hle117
   replace hr115_0 := hr115_0.mono hle117
   have hr117_0b := hr117_0.rv.big
   refine TL.w z (moveT (.inl z) z) (TL.w z (OpVal.extract z z z) (TL.w z (OpVal.extract z z z) (TL.op z (OpOk.alloc z ze24 z z (fun b118 => ?_)))))
   refine TL.op z (storeSl z sz24 z z z z z ?_)
   refine TL.i z z (TL.en (TC.seq (TC.a (TL.i z z (TL.w z (OpVal.neq z z z) (TL.en (TC.cD z hh (fun h120 hh => ?_) (fun h120 hh => ?_))))))))
   ·refine TC.a (TL.i z z (TL.s z z (TL.i z z (TL.en (TC.rt 0 (S.r ?_))))))
    obtain rfl := so hh
    exact rq [8, 9] ⟨none, 0, z, (RS.nilF _ encSpan encSpan_len), z⟩
   ·refine TC.skip (S.n (TC.a (TL.s z z (TL.en (TC.a (TL.w z (makeFn z) (TL.w z (moveFn (.inr z) z) (TL.en (TC.seq (TC.a (TL.i z z (TL.en (TC.block (TC.nilS 56 2 encSpan (TC.loopG (α := ((List Span) × Int) × ((Option Addr) × Nat)) (rgs [(14, 1), (16, 2), (46, 26)]) (fun g => [(14, .slice g.2.1 g.1.1.length g.2.2), (16, .int .i64 g.1.2)]) (fun g => [Res.cells b101 #[.slice a0_0 x0.cls.length c0_0, .slice a0_1 x0.next.length c0_1, .slice a0_2 x0.fin.length c0_2] 26, Res.rowS 56 2 encSpan (.slice g.2.1 g.1.1.length g.2.2) g.1.1, Res.cells b118 #[.slice a117_1 v33.1.length c117_1] 24]) (fun g => τ117) (fun g => iter (fun q : (List Span) × Int => scan_Factors_b1 x3 v20 x0 v33 q.1 q.2) g.1 = some r) (fun g => rounds (fun q : (List Span) × Int => scan_Factors_b1 x3 v20 x0 v33 q.1 q.2) g.1) ((([] : List Span), 0), (none, 0)) (Sub.f [1, 1, 4] 3) z (by repeat (first | exact trivial | refine ⟨z, ?_⟩)) hh (fun g1 j1 hg1 => ?_))))))))))))))))
    obtain ⟨⟨l132, i135⟩, ⟨a133, c134⟩⟩ := g1
    have hh := hg1; clear hg1
    try dsimp only
    obtain ⟨z1, hh, hR1⟩ := iter_e hh
    dsimp only [scan_Factors_b1] at hh
    refine TC.isSl (i := 1) z (fun _ hb137 _ => ?_)
    refine TC.seq (TC.a (TL.i z z (TL.w z (moveStr (.inl z) z) (TL.w z (lenBs z underlying9 z) (TL.w z (OpVal.lss z z z) (TL.en (TC.cD z hh (fun h138 hh => ?_) (fun h138 hh => ?_))))))))
    ·refine TC.skip (S.n (TC.block (TC.a (TL.i z z (TL.i z z (TL.en (TC.cutG (α := (Int) × (Unit)) (rgs [(17, 1), (51, 9)]) (fun g => [(17, .int .i64 g.1)]) (fun g => [Res.cells b101 #[.slice a0_0 x0.cls.length c0_0, .slice a0_1 x0.next.length c0_1, .slice a0_2 x0.fin.length c0_2] 26, Res.rowS 56 2 encSpan (.slice a133 l132.length c134) l132, Res.cells b118 #[.slice a117_1 v33.1.length c117_1] 24]) (fun g => τ117) (fun g => scan_Factors_j1 i135 l132 g.1 = some z1) ?_ (fun g j hg => ?_))))))))
     ·skip
      refine TC.a (TL.s z z (TL.i z z ?_))
      have u57 := grd_c hh
      replace hh := grd_t hh
      refine TL.w z (OpVal.index z underlying24 sz4 z z hr115_0.rv.sl u57.1 u57.2) (TL.w z (loadS1 false z ag4 z hr115_0 (by omega) z) (TL.en (TC.cB z hh (fun h140 hh => ?_) (fun h140 hh => ?_))))
      ·refine TC.region (TL.w z (loadAll z ag26 sz26 z (i := 0) z z) (TL.w z (moveStr (.inl z) z) (TL.i z z (TL.w z (moveFn (.inl z) z) (TL.front 2 z z ?_)))))
       obtain ⟨v63, u63, hh⟩ := bnd_e hh
       refine TL.op z (OpOk.call (longestF_con f0_0 f0_1 f0_2 hr117_0 u63) z z pf62 z z z z ?_)
       rintro _ _ _ hle141 ⟨rfl, rfl, rfl⟩
       exact TL.i z z (TL.en (cf (v63, ()) hh (Sub.f [2, 2] 3)))
      ·exact TC.skip (S.n (cf (i135, ()) hh (Sub.f [2, 2, 2] 3)))
     ·skip
      obtain ⟨i139, _⟩ := g
      have hh := hg; clear hg
      try dsimp only
      dsimp only [scan_Factors_j1] at hh
      refine TC.isSl (i := 1) z (fun _ hb142 _ => ?_)
      refine TC.seq (TC.a (TL.i z z (TL.i z z (TL.w z (OpVal.eql z z z) (TL.en (TC.cD z hh (fun h143 hh => ?_) (fun h143 hh => ?_)))))))
      ·refine TC.a (TL.i z z (TL.w z (addW z z z) (TL.i z z (TL.en (TC.exit (S.x (TC.exitHere (S.n ?_))))))))
       obtain ⟨hh, hlt144⟩ := nxt_x hR1 hh
       exact lf ((l132, (IntKind.i64.wrap (i135 + 1))), (a133, c134)) hlt144 hh (Sub.f [2, 2, 2] 3)
      ·refine TC.skip (S.n (TC.a (TL.s z z (TL.i z z (TL.i z z (TL.w z (buildL z pl56 ze56 z) (TL.op z (OpOk.lit (enc := encSpan) [(⟨i135, i139⟩ : Span)] z underlying34 sz56 ze56 z z z encSpan_len (by decide) (by decide) Span.zero z (by decide) z (by decide) encSpan_one (fun a145 c146 => ?_)))))))))
       refine TL.front 2 z z ?_
       have u76 := grd_c hh
       replace hh := grd_t hh
       refine TL.op z (appendS z z underlying34 sz56 by56 ze56 z z (by decide) z z z (.inr ⟨_, 0, z⟩) (by simpa using u76) (by decide) (fun a148 c149 => ?_))
       refine TL.s z z (TL.en (TC.region (TL.i z z (TL.i z z (TL.nil (B.n (S.n ?_)))))))
       obtain ⟨hh, hlt150⟩ := nxt_x hR1 hh
       exact lf (((l132 ++ [(⟨i135, i139⟩ : Span)]), i139), (a148, c149)) hlt150 hh (Sub.f [3, 1, 3] 3)
    ·refine TC.exit (S.x (S.x ?_))
     replace hh := fin_x hR1 hh
     refine TC.exitHere (S.n (TC.a (TL.s z z (TL.s z z (TL.i z z (TL.en (TC.front 1 z z (TC.sealS encSpan_len (fun τ153 hle152 hr151 => ?_)))))))))
     have hr151b := hr151.rv.big
     refine TC.rt 0 ?_
     obtain rfl := so hh
     exact rq [8, 9] ⟨a133, c134, z, hr151, z⟩

noncomputable def whittleref11_Few_j1 (x0 : Dfa) : Option (Bool) :=
 iteO (decide (((x0.next.length : Nat) : Int) ≤ 40)) (some (decide (((x0.cls.length : Nat) : Int) ≤ 300))) (some false)
noncomputable def whittleref11_Few_b1 (x0 : Dfa) (k105 : Nat) : Option ((Nat) ⊕ (Bool)) :=
 iteO (decide (((k105 : Nat) : Int) < ((x0.next.length : Nat) : Int))) (iteO (decide (((x0.next.length : Nat) : Int) ≤ 40)) (iteO (decide (20 < (((nth x0.next k105 ([] : List Int)).length : Nat) : Int))) (fin (some false)) (nxt (k105 + 1))) (fin (whittleref11_Few_j1 x0))) (fin (whittleref11_Few_j1 x0))
noncomputable def whittleref11_Few (x0 : Dfa) : Option (Bool) :=
 iter (fun q : Nat => whittleref11_Few_b1 x0 q) 0
theorem whittleref11_Few_con {σ : Store} {x0 : Dfa} {a0_0 : Option Addr} {c0_0 : Nat} {a0_1 : Option Addr} {c0_1 : Nat} {a0_2 : Option Addr} {c0_2 : Nat} (f0_0 : RS σ 1 Go.E.encI (.slice a0_0 x0.cls.length c0_0) x0.cls) (f0_1 : RZ σ (pkSl 1 Go.E.encI Go.E.encI_len) (.slice a0_1 x0.next.length c0_1) x0.next) (f0_2 : RS σ 1 encB (.slice a0_2 x0.fin.length c0_2) x0.fin) {r : Bool} (hh : whittleref11_Few x0 = some r) :
  Con Tryz.prog 25 #[.agg #[.slice a0_0 x0.cls.length c0_0, .slice a0_1 x0.next.length c0_1, .slice a0_2 x0.fin.length c0_2]] σ [] (PureP (.bool r) σ) := by
 dsimp only [whittleref11_Few] at hh
 have f0_0b := f0_0.rv.big
 have f0_1b := f0_1.big
 have f0_2b := f0_2.rv.big
 refine Con.mk (n := 34) Tryz.func25 z z z (fun w0 => ?_)
 refine TC.a (TL.op z (boxA z z z z (fun b101 => ?_)))
 refine TL.j z z (TL.en (TC.cutG (α := (Unit) × (Unit)) (rgs [(2, 22)]) (fun g => []) (fun g => [Res.cells b101 #[.slice a0_0 x0.cls.length c0_0, .slice a0_1 x0.next.length c0_1, .slice a0_2 x0.fin.length c0_2] 26]) (fun g => σ) (fun g => whittleref11_Few_j1 x0 = some r) ?_ (fun g j hg => ?_)))
 ·skip
  refine TC.a (TL.i z z (TL.en (TC.block (TC.loopG (α := (Nat) × (Unit)) (rgs [(2, 22)]) (fun g => [(3, .int .i64 ((g.1 : Nat) : Int))]) (fun g => [Res.cells b101 #[.slice a0_0 x0.cls.length c0_0, .slice a0_1 x0.next.length c0_1, .slice a0_2 x0.fin.length c0_2] 26]) (fun g => σ) (fun g => iter (fun q : Nat => whittleref11_Few_b1 x0 q) g.1 = some r) (fun g => rounds (fun q : Nat => whittleref11_Few_b1 x0 q) g.1) (0, ()) (Sub.pre 1 z) z (by repeat (first | exact trivial | refine ⟨z, ?_⟩)) hh (fun g1 j1 hg1 => ?_)))))
  obtain ⟨k105, _⟩ := g1
  have hh := hg1; clear hg1
  try dsimp only
  obtain ⟨z1, hh, hR1⟩ := iter_e hh
  dsimp only [whittleref11_Few_b1] at hh
  refine TC.seq (TC.a (TL.i z z (TL.w z (fieldLoc z fo26_1 z) (TL.w z (loadLoc z ag23 z (i := 0) z z) (TL.w z (lenC z underlying23 z) (TL.w z (OpVal.lss z z z) (TL.j z z (TL.split 9 z (fun h106 => ?_) (fun h106 => ?_)))))))))
  ·replace hh := iteO_t h106 hh
   replace h106 := of_decide_eq_true h106
   refine TL.g z (fieldLoc z fo26_1 z) (TL.g z (loadLoc z ag23 z (i := 0) z z) (TL.g z (lenC z underlying23 z) (TL.g z (OpVal.leq z z z) (TL.w z (pickTB z z z) (TL.en (TC.cD z hh (fun h107 hh => ?_) (fun h107 hh => ?_)))))))
   ·refine TC.skip (S.n (TC.seq (TC.block (TC.a (TL.w z (fieldLoc z fo26_1 z) (TL.w z (loadLoc z ag23 z (i := 0) z z) (TL.i z z (TL.w z (indexN z underlying23 sz22 z z f0_1.isSl (by omega)) ?_))))))))
    obtain ⟨p108, hk108, hg108⟩ := RZ.seg f0_1 k105 (by omega)
    replace hk108 : RS _ 1 Go.E.encI (.slice p108.1 (nth x0.next k105 ([] : List Int)).length p108.2) (nth x0.next k105 ([] : List Int)) := hk108
    have hk108b := hk108.rv.big
    refine TL.w z (OpVal.of (loadSeg0 z ag22 z hg108 z) (v' := .slice p108.1 ((nth x0.next k105 ([] : List Int)).length) p108.2) z) (TL.w z (lenC z underlying22 z) (TL.w z (OpVal.gtr z z z) (TL.en (TC.cD z hh (fun h109 hh => ?_) (fun h109 hh => ?_)))))
    ·refine TC.a (TL.j z z (TL.en (TC.rt 0 (B.r (S.r (S.r ?_))))))
     replace hh := fin_x hR1 hh
     refine B.r (S.r ?_)
     obtain rfl := so hh
     exact rq [2] ⟨z, z, z⟩
    ·refine TC.skip (B.n (S.n (TC.region (TL.i z z (TL.w z (OpVal.succ z z z (by omega)) (TL.i z z (TL.en ?_)))))))
     obtain ⟨hh, hlt110⟩ := nxt_x hR1 hh
     exact lf ((k105 + 1), ()) hlt110 hh (Sub.pre 1 z)
   ·refine TC.exit (S.x (S.x ?_))
    replace hh := fin_x hR1 hh
    exact TC.exitHere (S.n (cf ((), ()) hh (Sub.pre 1 z)))
  ·replace hh := iteO_f h106 hh
   replace h106 := of_decide_eq_false h106
   refine TL.f z (TL.f z (TL.f z (TL.f z (TL.w z (pickFB z z z) (TL.en (TC.f z (TC.exit (S.x (S.x ?_)))))))))
   replace hh := fin_x hR1 hh
   exact TC.exitHere (S.n (cf ((), ()) hh (Sub.pre 1 z)))
 ·skip
  obtain ⟨_, _⟩ := g
  have hh := hg; clear hg
  try dsimp only
  dsimp only [whittleref11_Few_j1] at hh
  refine TC.a (TL.w z (fieldLoc z fo26_1 z) (TL.w z (loadLoc z ag23 z (i := 0) z z) (TL.w z (lenC z underlying23 z) (TL.w z (OpVal.leq z z z) (TL.j z z (TL.split 28 z (fun h111 => ?_) (fun h111 => ?_)))))))
  ·replace hh := iteO_t h111 hh
   replace h111 := of_decide_eq_true h111
   refine TL.g z (fieldLoc z fo26_0 z) (TL.g z (loadLoc z ag22 z (i := 0) z z) (TL.g z (lenC z underlying22 z) (TL.g z (OpVal.leq z z z) (TL.w z (pickTB z z z) (TL.j z z (TL.en (TC.rt 0 ?_)))))))
   obtain rfl := so hh
   exact rq [2] ⟨z, z, z⟩
  ·replace hh := iteO_f h111 hh
   replace h111 := of_decide_eq_false h111
   refine TL.f z (TL.f z (TL.f z (TL.f z (TL.w z (pickFB z z z) (TL.j z z (TL.en (TC.rt 0 ?_)))))))
   obtain rfl := so hh
   exact rq [2] ⟨z, z, z⟩

noncomputable def whittleref04_Same_b1 (x0 : List Span) (x1 : List Span) (k104 : Nat) : Option ((Nat) ⊕ (Bool)) :=
 iteO (decide (((k104 : Nat) : Int) < ((x0.length : Nat) : Int))) (grd (k104 < x1.length) (iteO (decide (¬ ((nth x0 k104 Span.zero) = (nth x1 k104 Span.zero)))) (fin (some false)) (nxt (k104 + 1)))) (fin (some true))
noncomputable def whittleref04_Same (x0 : List Span) (x1 : List Span) : Option (Bool) :=
 iteO (decide (((x0.length : Nat) : Int) ≠ ((x1.length : Nat) : Int))) (some false) (iter (fun q : Nat => whittleref04_Same_b1 x0 x1 q) 0)
theorem whittleref04_Same_con {σ : Store} {x0 : List Span} {a0_0 : Option Addr} {c0_0 : Nat} {x1 : List Span} {a1_0 : Option Addr} {c1_0 : Nat} (f0_0 : RS σ 2 encSpan (.slice a0_0 x0.length c0_0) x0) (f1_0 : RS σ 2 encSpan (.slice a1_0 x1.length c1_0) x1) {r : Bool} (hh : whittleref04_Same x0 x1 = some r) :
  Con Tryz.prog 45 #[.slice a0_0 x0.length c0_0, .slice a1_0 x1.length c1_0] σ [] (PureP (.bool r) σ) := by
 dsimp only [whittleref04_Same] at hh
 have f0_0b := f0_0.rv.big
 have f1_0b := f1_0.rv.big
 refine Con.mk (n := 26) Tryz.func45 z z z (fun w0 => ?_)
 refine TC.a (TL.j z z (TL.en (TC.seq (TC.a (TL.s z z (TL.w z (lenC z underlying34 z) (TL.s z z (TL.w z (lenC z underlying34 z) (TL.w z (OpVal.neq z z z) (TL.en (TC.cD z hh (fun h101 hh => ?_) (fun h101 hh => ?_))))))))))))
 ·refine TC.a (TL.j z z (TL.en (TC.ret (S.r ?_))))
  obtain rfl := so hh
  exact rq [4] ⟨z, z, z⟩
 ·refine TC.skip (S.n (TC.seq (TC.a (TL.i z z (TL.en (TC.block (TC.loopG (α := (Nat) × (Unit)) (rgs [(4, 2), (11, 15)]) (fun g => [(5, .int .i64 ((g.1 : Nat) : Int))]) (fun g => []) (fun g => σ) (fun g => iter (fun q : Nat => whittleref04_Same_b1 x0 x1 q) g.1 = some r) (fun g => rounds (fun q : Nat => whittleref04_Same_b1 x0 x1 q) g.1) (0, ()) (Sub.pre 0 z) z (by repeat (first | exact trivial | refine ⟨z, ?_⟩)) hh (fun g1 j1 hg1 => ?_))))))))
  obtain ⟨k104, _⟩ := g1
  have hh := hg1; clear hg1
  try dsimp only
  obtain ⟨z1, hh, hR1⟩ := iter_e hh
  dsimp only [whittleref04_Same_b1] at hh
  refine TC.seq (TC.a (TL.i z z (TL.s z z (TL.w z (lenC z underlying34 z) (TL.w z (OpVal.lss z z z) (TL.en (TC.cD z hh (fun h105 hh => ?_) (fun h105 hh => ?_))))))))
  ·refine TC.skip (S.n (TC.seq (TC.block (TC.seq ?_))))
   have u19 := grd_c hh
   replace hh := grd_t hh
   refine TC.draw [] (by kernel_rfl) (TA.a 0 z (moveSl (.inl z) z) z (TA.a 1 z (moveI (.inl z) z) z (TA.b 2 z (indexN z underlying34 sz56 z z f0_0.rv.sl (by omega)) z (TA.b 3 z (loadSA Span.zero z ag56 sz56 z f0_0 (by omega) (by omega)) z (TA.a 4 z (moveSl (.inl z) z) z (TA.a 5 z (moveI (.inl z) z) z (TA.b 6 z (indexN z underlying34 sz56 z z f1_0.rv.sl (by omega)) z (TA.b 7 z (loadSA Span.zero z ag56 sz56 z f1_0 (by omega) (by omega)) z (TA.a 8 z (neqSt (p := (nth x0 k104 Span.zero) = (nth x1 k104 Span.zero)) z z z eg56 (es56 (nth x0 k104 Span.zero) (nth x1 k104 Span.zero)) z) z (TA.dn (S.n (TC.cD z hh (fun h106 hh => ?_) (fun h106 hh => ?_)))))))))))))
   ·refine TC.a (TL.j z z (TL.en (TC.ret (B.r (S.r (S.r ?_))))))
    replace hh := fin_x hR1 hh
    refine B.r (S.r ?_)
    obtain rfl := so hh
    exact rq [4] ⟨z, z, z⟩
   ·refine TC.skip (B.n (S.n (TC.region (TL.i z z (TL.w z (OpVal.succ z z z (by omega)) (TL.i z z (TL.en ?_)))))))
    obtain ⟨hh, hlt107⟩ := nxt_x hR1 hh
    exact lf ((k104 + 1), ()) hlt107 hh (Sub.pre 0 z)
  ·refine TC.exit (S.x (S.x ?_))
   replace hh := fin_x hR1 hh
   refine TC.exitHere (S.n (TC.a (TL.j z z (TL.en (TC.ret ?_)))))
   obtain rfl := so hh
   exact rq [4] ⟨z, z, z⟩

end Go.Proofs.YtmfclggfajopkaaGreatDoor
end

/- R3 -/
section
/- Decompiled: transducers that go one way; rules. -/
set_option linter.unusedVariables false
set_option linter.unusedSimpArgs false
namespace Go.Proofs.YtmfclggfajopkaaGreatDoor
open Go Go.E Go.E.OpVal Go.E.OpOk Go.Proofs.Tryz
set_option maxRecDepth 100000
private theorem ag27 : Go.E.aggOf Tryz.prog 27 = some false := by kernel_rfl
private theorem ag28 : Go.E.aggOf Tryz.prog 28 = some false := by kernel_rfl
private theorem ag30 : Go.E.aggOf Tryz.prog 30 = some true := by kernel_rfl
private theorem ag9 : Go.E.aggOf Tryz.prog 9 = some false := by kernel_rfl
private theorem fo30_0 : Go.E.foOf Tryz.prog 30 0 = some 0 := by kernel_rfl
private theorem fo30_1 : Go.E.foOf Tryz.prog 30 1 = some 1 := by kernel_rfl
private theorem fo30_2 : Go.E.foOf Tryz.prog 30 2 = some 2 := by kernel_rfl
private theorem fo30_3 : Go.E.foOf Tryz.prog 30 3 = some 3 := by kernel_rfl
private theorem fo30_4 : Go.E.foOf Tryz.prog 30 4 = some 4 := by kernel_rfl
private theorem fo32_0 : Go.E.foOf Tryz.prog 32 0 = some 0 := by kernel_rfl
private theorem fo32_1 : Go.E.foOf Tryz.prog 32 1 = some 3 := by kernel_rfl
private theorem fo32_2 : Go.E.foOf Tryz.prog 32 2 = some 6 := by kernel_rfl
private theorem fo32_3 : Go.E.foOf Tryz.prog 32 3 = some 9 := by kernel_rfl
private theorem fo32_4 : Go.E.foOf Tryz.prog 32 4 = some 10 := by kernel_rfl
private theorem fo32_5 : Go.E.foOf Tryz.prog 32 5 = some 11 := by kernel_rfl
private theorem fo56_0 : Go.E.foOf Tryz.prog 56 0 = some 0 := by kernel_rfl
private theorem fo56_1 : Go.E.foOf Tryz.prog 56 1 = some 1 := by kernel_rfl
private theorem pf25 : Go.E.plainF Tryz.prog 25 = true := by kernel_rfl
private theorem pf26 : Go.E.plainF Tryz.prog 26 = true := by kernel_rfl
private theorem pf44 : Go.E.plainF Tryz.prog 44 = true := by kernel_rfl
private theorem pf87 : Go.E.plainF Tryz.prog 87 = true := by kernel_rfl
private theorem sz28 : Go.E.szOf Tryz.prog 28 = some 1 := by kernel_rfl
private theorem sz30 : Go.E.szOf Tryz.prog 30 = some 5 := by kernel_rfl
private theorem sz9 : Go.E.szOf Tryz.prog 9 = some 1 := by kernel_rfl
private theorem ze30 : Go.E.zeroOf Tryz.prog 30 = some (.agg #[.string ByteArray.empty, .slice none 0 0, .slice none 0 0, .slice none 0 0, .slice none 0 0]) := by kernel_rfl

noncomputable def seq_row_j1 (k105 : Nat) : Option ((Nat) ⊕ (Bool)) :=
 nxt (k105 + 1)
noncomputable def seq_row_b1 (x0 : List Int) (x2 : Int) (x1 : List (List UInt8)) (k105 : Nat) : Option ((Nat) ⊕ (Bool)) :=
 iteO (decide (((k105 : Nat) : Int) < ((x0.length : Nat) : Int))) (iteO (decide ((nth x0 k105 (0 : Int)) < (-1))) (fin (some false)) (iteO (decide (x2 ≤ (nth x0 k105 (0 : Int)))) (fin (some false)) (grd (k105 < x1.length) (iteO (decide (4096 < (((nth x1 k105 ([] : List UInt8)).length : Nat) : Int))) (fin (some false)) (iteO (decide ((nth x0 k105 (0 : Int)) = (-1))) (grd (k105 < x1.length) (iteO (decide ((nth x1 k105 ([] : List UInt8)) ≠ ([] : List UInt8))) (fin (some false)) (seq_row_j1 k105))) (seq_row_j1 k105)))))) (fin (some true))
noncomputable def seq_row (x0 : List Int) (x1 : List (List UInt8)) (x2 : Int) : Option (Bool) :=
 iteO (decide (((x0.length : Nat) : Int) ≠ 256)) (some false) (iteO (decide (((x1.length : Nat) : Int) ≠ 256)) (some false) (iter (fun q : Nat => seq_row_b1 x0 x2 x1 q) 0))
theorem seq_row_con {σ : Store} {x0 : List Int} {a0_0 : Option Addr} {c0_0 : Nat} {x1 : List (List UInt8)} {a1_0 : Option Addr} {c1_0 : Nat} {x2 : Int} (f0_0 : RS σ 1 Go.E.encI (.slice a0_0 x0.length c0_0) x0) (f1_0 : RS σ 1 Go.E.encS (.slice a1_0 x1.length c1_0) x1) {r : Bool} (hh : seq_row x0 x1 x2 = some r) :
  Con Tryz.prog 87 #[.slice a0_0 x0.length c0_0, .slice a1_0 x1.length c1_0, .int .i64 x2] σ [] (PureP (.bool r) σ) := by
 dsimp only [seq_row] at hh
 have f0_0b := f0_0.rv.big
 have f1_0b := f1_0.rv.big
 refine Con.mk (n := 51) Tryz.func87 z z z (fun w0 => ?_)
 refine TC.a (TL.j z z (TL.en (TC.seq (TC.a (TL.s z z (TL.w z (lenC z underlying22 z) (TL.w z (OpVal.neq z z z) (TL.j z z (TL.split 12 z (fun h101 => ?_) (fun h101 => ?_))))))))))
 ·replace hh := iteO_t h101 hh
  replace h101 := of_decide_eq_true h101
  refine TL.f z (TL.f z (TL.f z (TL.w z (pickTB z z z) (TL.en (TC.t z (TC.a (TL.j z z (TL.en (TC.ret (S.r ?_))))))))))
  obtain rfl := so hh
  exact rq [6] ⟨z, z, z⟩
 ·replace hh := iteO_f h101 hh
  replace h101 := of_decide_eq_false h101
  refine TL.g z (moveSl (.inl z) z) (TL.g z (lenC z underlying28 z) (TL.g z (OpVal.neq z z z) (TL.w z (pickFB z z z) (TL.en (TC.cD z hh (fun h102 hh => ?_) (fun h102 hh => ?_))))))
  ·refine TC.a (TL.j z z (TL.en (TC.ret (S.r ?_))))
   obtain rfl := so hh
   exact rq [6] ⟨z, z, z⟩
  ·refine TC.skip (S.n (TC.seq (TC.a (TL.s z z (TL.w z (lenC z underlying22 z) (TL.i z z (TL.en (TC.block (TC.loopG (α := (Nat) × (Unit)) (rgs [(6, 3), (19, 32)]) (fun g => [(19, .int .i64 ((g.1 : Nat) : Int))]) (fun g => []) (fun g => σ) (fun g => iter (fun q : Nat => seq_row_b1 x0 x2 x1 q) g.1 = some r) (fun g => rounds (fun q : Nat => seq_row_b1 x0 x2 x1 q) g.1) (0, ()) (Sub.pre 0 z) z (by repeat (first | exact trivial | refine ⟨z, ?_⟩)) hh (fun g1 j1 hg1 => ?_))))))))))
   obtain ⟨k105, _⟩ := g1
   have hh := hg1; clear hg1
   try dsimp only
   obtain ⟨z1, hh, hR1⟩ := iter_e hh
   dsimp only [seq_row_b1] at hh
   refine TC.a (TL.w z (OpVal.lss z z z) (TL.en (TC.seq (TC.cD z hh (fun h106 hh => ?_) (fun h106 hh => ?_)))))
   ·refine TC.skip (S.n (TC.cutG (α := (Unit) × (Unit)) (rgs [(6, 3), (21, 29)]) (fun g => []) (fun g => []) (fun g => σ) (fun g => seq_row_j1 k105 = some z1) ?_ (fun g j hg => ?_)))
    ·skip
     refine TC.block (TC.a (TL.i z z (TL.w z (indexN z underlying22 sz3 z z f0_0.rv.sl (by omega)) (TL.w z (loadS1 (0 : Int) z ag3 z f0_0 (by omega) z) (TL.i z z (TL.i z z (TL.en (TC.a (TL.i z z (TL.w z (OpVal.lss z z z) (TL.j z z (TL.split 26 z (fun h107 => ?_) (fun h107 => ?_)))))))))))))
     ·replace hh := iteO_t h107 hh
      replace h107 := of_decide_eq_true h107
      refine TL.f z (TL.f z (TL.f z (TL.w z (pickTB z z z) (TL.j z z (TL.f z (TL.f z (TL.f z (TL.f z (TL.f z (TL.f z (TL.w z (pickTB z z z) (TL.j z z (TL.f z (TL.f z (TL.f z ?_)))))))))))))))
      refine TL.f z (TL.f z (TL.f z (TL.f z (TL.f z (TL.f z (TL.w z (pickTB z z z) (TL.en (TC.t z (TC.a (TL.j z z (TL.en (TC.ret (B.r (S.r (S.r ?_)))))))))))))))
      replace hh := fin_x hR1 hh
      refine B.r (S.r ?_)
      obtain rfl := so hh
      exact rq [6] ⟨z, z, z⟩
     ·replace hh := iteO_f h107 hh
      replace h107 := of_decide_eq_false h107
      refine TL.g z (moveI (.inl z) z) (TL.g z (moveI (.inl z) z) (TL.g z (OpVal.geq z z z) (TL.w z (pickFB z z z) (TL.j z z (TL.split 31 z (fun h108 => ?_) (fun h108 => ?_))))))
      ·replace hh := iteO_t h108 hh
       replace h108 := of_decide_eq_true h108
       refine TL.f z (TL.f z (TL.f z (TL.f z (TL.f z (TL.f z (TL.w z (pickTB z z z) (TL.j z z (TL.f z (TL.f z (TL.f z (TL.f z (TL.f z (TL.f z (TL.f z (TL.f z ?_)))))))))))))))
       refine TL.f z (TL.w z (pickTB z z z) (TL.en (TC.t z (TC.a (TL.j z z (TL.en (TC.ret (B.r (S.r (S.r ?_))))))))))
       replace hh := fin_x hR1 hh
       refine B.r (S.r ?_)
       obtain rfl := so hh
       exact rq [6] ⟨z, z, z⟩
      ·replace hh := iteO_f h108 hh
       replace h108 := of_decide_eq_false h108
       refine TL.g z (moveSl (.inl z) z) (TL.g z (moveI (.inl z) z) ?_)
       have u30 := grd_c hh
       replace hh := grd_t hh
       refine TL.g z (indexN z underlying28 sz9 z z f1_0.rv.sl (by omega)) (TL.g z (loadS1 ([] : List UInt8) z ag9 z f1_0 (by omega) z) (TL.g z (lenBs z underlying9 z) (TL.g z (OpVal.gtr z z z) (TL.w z (pickFB z z z) (TL.j z z (TL.split 39 z (fun h109 => ?_) (fun h109 => ?_)))))))
       ·replace hh := iteO_t h109 hh
        replace h109 := of_decide_eq_true h109
        refine TL.f z (TL.f z (TL.f z (TL.f z (TL.f z (TL.f z (TL.f z (TL.f z (TL.f z (TL.w z (pickTB z z z) (TL.en (TC.t z (TC.a (TL.j z z (TL.en (TC.ret ?_)))))))))))))))
        refine B.r (S.r (S.r ?_))
        replace hh := fin_x hR1 hh
        refine B.r (S.r ?_)
        obtain rfl := so hh
        exact rq [6] ⟨z, z, z⟩
       ·replace hh := iteO_f h109 hh
        replace h109 := of_decide_eq_false h109
        refine TL.g z (moveI (.inl z) z) (TL.g z (OpVal.eql z z z) (TL.g z (moveB (.inl z) z) (TL.split 42 z (fun h110 => ?_) (fun h110 => ?_))))
        ·replace hh := iteO_t h110 hh
         replace h110 := of_decide_eq_true h110
         refine TL.g z (moveSl (.inl z) z) (TL.g z (moveI (.inl z) z) ?_)
         have u41 := grd_c hh
         replace hh := grd_t hh
         refine TL.g z (indexN z underlying28 sz9 z z f1_0.rv.sl (by omega)) (TL.g z (loadS1 ([] : List UInt8) z ag9 z f1_0 (by omega) z) (TL.g z (neqBs z z z) (TL.g z (pickTB z z z) (TL.w z (pickFB z z z) (TL.en (TC.cD z hh (fun h111 hh => ?_) (fun h111 hh => ?_)))))))
         ·refine TC.a (TL.j z z (TL.en (TC.ret (B.r (S.r (S.r ?_))))))
          replace hh := fin_x hR1 hh
          refine B.r (S.r ?_)
          obtain rfl := so hh
          exact rq [6] ⟨z, z, z⟩
         ·exact TC.skip (B.n (S.n (cf ((), ()) hh (Sub.pre 0 z))))
        ·replace hh := iteO_f h110 hh
         replace h110 := of_decide_eq_false h110
         exact TL.f z (TL.f z (TL.f z (TL.f z (TL.f z (TL.g z (pickFB z z z) (TL.w z (pickFB z z z) (TL.en (TC.f z (TC.skip (B.n (S.n (cf ((), ()) hh (Sub.pre 0 z)))))))))))))
    ·skip
     obtain ⟨_, _⟩ := g
     have hh := hg; clear hg
     try dsimp only
     dsimp only [seq_row_j1] at hh
     refine TC.region (TL.w z (OpVal.succ z z z (by omega)) (TL.i z z (TL.en ?_)))
     obtain ⟨hh, hlt112⟩ := nxt_x hR1 hh
     exact lf ((k105 + 1), ()) hlt112 hh (Sub.pre 0 z)
   ·refine TC.exit (S.x (S.x ?_))
    replace hh := fin_x hR1 hh
    refine TC.exitHere (S.n (TC.a (TL.j z z (TL.en (TC.ret ?_)))))
    obtain rfl := so hh
    exact rq [6] ⟨z, z, z⟩

noncomputable def seq_Check_j2 (k112 : Nat) (x0 : Seq) : Option ((Nat) ⊕ (Int)) :=
 grd (k112 < x0.outs.length) (bnd (seq_row (nth x0.next k112 ([] : List Int)) (nth x0.outs k112 ([] : List (List UInt8))) ((x0.next.length : Nat) : Int)) (fun v85 => iteO (!v85) (fin (some 1)) (nxt (k112 + 1))))
noncomputable def seq_Check_b1 (x0 : Seq) (k112 : Nat) : Option ((Nat) ⊕ (Int)) :=
 iteO (decide (((k112 : Nat) : Int) < ((x0.next.length : Nat) : Int))) (grd (k112 < x0.tail.length) (iteO (decide (4096 < (((nth x0.tail k112 ([] : List UInt8)).length : Nat) : Int))) (fin (some 1)) (grd (k112 < x0.fin.length) (iteO (!(nth x0.fin k112 false)) (grd (k112 < x0.tail.length) (iteO (decide ((nth x0.tail k112 ([] : List UInt8)) ≠ ([] : List UInt8))) (fin (some 1)) (seq_Check_j2 k112 x0))) (seq_Check_j2 k112 x0))))) (fin (some 0))
noncomputable def seq_Check_j1 (x0 : Seq) : Option (Int) :=
 iter (fun q : Nat => seq_Check_b1 x0 q) 0
noncomputable def seq_Check (x0 : Seq) : Option (Int) :=
 iteO (decide (1024 < ((x0.next.length : Nat) : Int))) (some 1) (iteO (decide (((x0.outs.length : Nat) : Int) ≠ ((x0.next.length : Nat) : Int))) (some 1) (iteO (decide (((x0.fin.length : Nat) : Int) ≠ ((x0.next.length : Nat) : Int))) (some 1) (iteO (decide (((x0.tail.length : Nat) : Int) ≠ ((x0.next.length : Nat) : Int))) (some 1) (iteO (decide (4096 < ((x0.front.length : Nat) : Int))) (some 1) (iteO (decide (((x0.next.length : Nat) : Int) = 0)) (iteO (decide (x0.front ≠ ([] : List UInt8))) (some 1) (seq_Check_j1 x0)) (seq_Check_j1 x0))))))
theorem seq_Check_con {σ : Store} {x0 : Seq} {a0_0 : Option Addr} {c0_0 : Nat} {a0_1 : Option Addr} {c0_1 : Nat} {a0_2 : Option Addr} {c0_2 : Nat} {a0_3 : Option Addr} {c0_3 : Nat} (f0_0 : RZ σ (pkSl 1 Go.E.encI Go.E.encI_len) (.slice a0_0 x0.next.length c0_0) x0.next) (f0_1 : RZ σ (pkSl 1 Go.E.encS Go.E.encS_len) (.slice a0_1 x0.outs.length c0_1) x0.outs) (f0_2 : RS σ 1 encB (.slice a0_2 x0.fin.length c0_2) x0.fin) (f0_3 : RS σ 1 Go.E.encS (.slice a0_3 x0.tail.length c0_3) x0.tail) {r : Int} (hh : seq_Check x0 = some r) :
  Con Tryz.prog 44 #[.agg #[.string (bs x0.front), .slice a0_0 x0.next.length c0_0, .slice a0_1 x0.outs.length c0_1, .slice a0_2 x0.fin.length c0_2, .slice a0_3 x0.tail.length c0_3]] σ [] (PureP (.int .i64 r) σ) := by
 dsimp only [seq_Check] at hh
 have f0_0b := f0_0.big
 have f0_1b := f0_1.big
 have f0_2b := f0_2.rv.big
 have f0_3b := f0_3.rv.big
 refine Con.mk (n := 85) Tryz.func44 z z z (fun w0 => ?_)
 refine TC.a (TL.op z (boxA z z z z (fun b101 => ?_)))
 refine TL.i z z (TL.en (TC.a (TL.w z (fieldLoc z fo30_1 z) (TL.w z (loadLoc z ag23 z (i := 0) z z) (TL.w z (lenC z underlying23 z) (TL.i z z (TL.en (TC.seq (TC.a (TL.i z z (TL.w z (OpVal.gtr z z z) (TL.j z z (TL.split 10 z (fun h103 => ?_) (fun h103 => ?_))))))))))))))
 ·replace hh := iteO_t h103 hh
  replace h103 := of_decide_eq_true h103
  refine TL.f z (TL.f z (TL.f z (TL.f z (TL.f z (TL.w z (pickTB z z z) (TL.j z z (TL.f z (TL.f z (TL.f z (TL.f z (TL.f z (TL.w z (pickTB z z z) (TL.j z z (TL.f z (TL.f z ?_)))))))))))))))
  refine TL.f z (TL.f z (TL.f z (TL.w z (pickTB z z z) (TL.en (TC.t z (TC.a (TL.i z z (TL.en (TC.rt 0 (S.r ?_))))))))))
  obtain rfl := so hh
  exact rq [2] ⟨z, z, z⟩
 ·replace hh := iteO_f h103 hh
  replace h103 := of_decide_eq_false h103
  refine TL.g z (fieldLoc z fo30_2 z) (TL.g z (loadLoc z ag27 z (i := 0) z z) (TL.g z (lenC z underlying27 z) (TL.g z (moveI (.inl z) z) (TL.g z (OpVal.neq z z z) (TL.w z (pickFB z z z) (TL.j z z (TL.split 17 z (fun h104 => ?_) (fun h104 => ?_))))))))
  ·replace hh := iteO_t h104 hh
   replace h104 := of_decide_eq_true h104
   refine TL.f z (TL.f z (TL.f z (TL.f z (TL.f z (TL.w z (pickTB z z z) (TL.j z z (TL.f z (TL.f z (TL.f z (TL.f z (TL.f z (TL.w z (pickTB z z z) (TL.en (TC.t z (TC.a ?_)))))))))))))))
   refine TL.i z z (TL.en (TC.rt 0 (S.r ?_)))
   obtain rfl := so hh
   exact rq [2] ⟨z, z, z⟩
  ·replace hh := iteO_f h104 hh
   replace h104 := of_decide_eq_false h104
   refine TL.g z (fieldLoc z fo30_3 z) (TL.g z (loadLoc z ag24 z (i := 0) z z) (TL.g z (lenC z underlying24 z) (TL.g z (moveI (.inl z) z) (TL.g z (OpVal.neq z z z) (TL.w z (pickFB z z z) (TL.j z z (TL.split 24 z (fun h105 => ?_) (fun h105 => ?_))))))))
   ·replace hh := iteO_t h105 hh
    replace h105 := of_decide_eq_true h105
    refine TL.f z (TL.f z (TL.f z (TL.f z (TL.f z (TL.w z (pickTB z z z) (TL.en (TC.t z (TC.a (TL.i z z (TL.en (TC.rt 0 (S.r ?_))))))))))))
    obtain rfl := so hh
    exact rq [2] ⟨z, z, z⟩
   ·replace hh := iteO_f h105 hh
    replace h105 := of_decide_eq_false h105
    refine TL.g z (fieldLoc z fo30_4 z) (TL.g z (loadLoc z ag28 z (i := 0) z z) (TL.g z (lenC z underlying28 z) (TL.g z (moveI (.inl z) z) (TL.g z (OpVal.neq z z z) (TL.w z (pickFB z z z) (TL.en (TC.cD z hh (fun h106 hh => ?_) (fun h106 hh => ?_))))))))
    ·refine TC.a (TL.i z z (TL.en (TC.rt 0 (S.r ?_))))
     obtain rfl := so hh
     exact rq [2] ⟨z, z, z⟩
    ·refine TC.skip (S.n (TC.cutG (α := (Unit) × (Unit)) (rgs [(2, 1), (31, 13)]) (fun g => []) (fun g => [Res.cells b101 #[.string (bs x0.front), .slice a0_0 x0.next.length c0_0, .slice a0_1 x0.outs.length c0_1, .slice a0_2 x0.fin.length c0_2, .slice a0_3 x0.tail.length c0_3] 30]) (fun g => σ) (fun g => seq_Check_j1 x0 = some r) ?_ (fun g j hg => ?_)))
     ·skip
      refine TC.a (TL.w z (fieldLoc z fo30_0 z) (TL.w z (loadLoc z ag9 z (i := 0) z z) (TL.w z (lenBs z underlying9 z) (TL.w z (OpVal.gtr z z z) (TL.j z z (TL.split 35 z (fun h107 => ?_) (fun h107 => ?_)))))))
      ·replace hh := iteO_t h107 hh
       replace h107 := of_decide_eq_true h107
       refine TL.f z (TL.f z (TL.f z (TL.f z (TL.f z (TL.f z (TL.f z (TL.w z (pickTB z z z) (TL.en (TC.t z (TC.a (TL.i z z (TL.en (TC.rt 0 (S.r ?_))))))))))))))
       obtain rfl := so hh
       exact rq [2] ⟨z, z, z⟩
      ·replace hh := iteO_f h107 hh
       replace h107 := of_decide_eq_false h107
       refine TL.g z (moveI (.inl z) z) (TL.g z (OpVal.eql z z z) (TL.g z (moveB (.inl z) z) (TL.split 38 z (fun h108 => ?_) (fun h108 => ?_))))
       ·replace hh := iteO_t h108 hh
        replace h108 := of_decide_eq_true h108
        refine TL.g z (fieldLoc z fo30_0 z) (TL.g z (loadLoc z ag9 z (i := 0) z z) (TL.g z (neqBs z z z) (TL.g z (pickTB z z z) (TL.w z (pickFB z z z) (TL.en (TC.cD z hh (fun h109 hh => ?_) (fun h109 hh => ?_)))))))
        ·refine TC.a (TL.i z z (TL.en (TC.rt 0 (S.r ?_))))
         obtain rfl := so hh
         exact rq [2] ⟨z, z, z⟩
        ·exact TC.skip (S.n (cf ((), ()) hh (Sub.pre 1 z)))
       ·replace hh := iteO_f h108 hh
        replace h108 := of_decide_eq_false h108
        exact TL.f z (TL.f z (TL.f z (TL.g z (pickFB z z z) (TL.w z (pickFB z z z) (TL.en (TC.f z (TC.skip (S.n (cf ((), ()) hh (Sub.pre 1 z))))))))))
     ·skip
      obtain ⟨_, _⟩ := g
      have hh := hg; clear hg
      try dsimp only
      dsimp only [seq_Check_j1] at hh
      refine TC.seq (TC.a (TL.i z z (TL.i z z (TL.en (TC.block (TC.loopG (α := (Nat) × (Unit)) (rgs [(2, 1), (4, 1), (45, 40)]) (fun g => [(45, .int .i64 ((g.1 : Nat) : Int))]) (fun g => [Res.cells b101 #[.string (bs x0.front), .slice a0_0 x0.next.length c0_0, .slice a0_1 x0.outs.length c0_1, .slice a0_2 x0.fin.length c0_2, .slice a0_3 x0.tail.length c0_3] 30]) (fun g => σ) (fun g => iter (fun q : Nat => seq_Check_b1 x0 q) g.1 = some r) (fun g => rounds (fun q : Nat => seq_Check_b1 x0 q) g.1) (0, ()) (Sub.pre 1 z) z (by repeat (first | exact trivial | refine ⟨z, ?_⟩)) hh (fun g1 j1 hg1 => ?_)))))))
      obtain ⟨k112, _⟩ := g1
      have hh := hg1; clear hg1
      try dsimp only
      obtain ⟨z1, hh, hR1⟩ := iter_e hh
      dsimp only [seq_Check_b1] at hh
      refine TC.a (TL.w z (OpVal.lss z z z) (TL.en (TC.seq (TC.cD z hh (fun h113 hh => ?_) (fun h113 hh => ?_)))))
      ·refine TC.skip (S.n (TC.seq (TC.block (TC.a (TL.i z z (TL.i z z (TL.en (TC.cutG (α := (Unit) × (Unit)) (rgs [(2, 1), (48, 23)]) (fun g => []) (fun g => [Res.cells b101 #[.string (bs x0.front), .slice a0_0 x0.next.length c0_0, .slice a0_1 x0.outs.length c0_1, .slice a0_2 x0.fin.length c0_2, .slice a0_3 x0.tail.length c0_3] 30]) (fun g => σ) (fun g => seq_Check_j2 k112 x0 = some z1) ?_ (fun g j hg => ?_)))))))))
       ·skip
        refine TC.a (TL.w z (fieldLoc z fo30_4 z) (TL.w z (loadLoc z ag28 z (i := 0) z z) (TL.i z z ?_)))
        have u53 := grd_c hh
        replace hh := grd_t hh
        refine TL.w z (indexN z underlying28 sz9 z z f0_3.rv.sl (by omega)) (TL.w z (loadS1 ([] : List UInt8) z ag9 z f0_3 (by omega) z) (TL.w z (lenBs z underlying9 z) (TL.w z (OpVal.gtr z z z) (TL.j z z (TL.split 55 z (fun h114 => ?_) (fun h114 => ?_))))))
        ·replace hh := iteO_t h114 hh
         replace h114 := of_decide_eq_true h114
         refine TL.f z (TL.f z (TL.f z (TL.f z (TL.f z (TL.f z (TL.f z (TL.f z (TL.f z (TL.f z (TL.f z (TL.f z (TL.f z (TL.f z (TL.w z (pickTB z z z) (TL.en ?_)))))))))))))))
         refine TC.t z (TC.a (TL.i z z (TL.en (TC.rt 0 (S.r (B.r (S.r (S.r ?_))))))))
         replace hh := fin_x hR1 hh
         refine B.r (S.r ?_)
         obtain rfl := so hh
         exact rq [2] ⟨z, z, z⟩
        ·replace hh := iteO_f h114 hh
         replace h114 := of_decide_eq_false h114
         refine TL.g z (fieldLoc z fo30_3 z) (TL.g z (loadLoc z ag24 z (i := 0) z z) (TL.g z (moveI (.inl z) z) ?_))
         have u61 := grd_c hh
         replace hh := grd_t hh
         refine TL.g z (indexN z underlying24 sz4 z z f0_2.rv.sl (by omega)) (TL.g z (loadS1 false z ag4 z f0_2 (by omega) z) (TL.g z (OpVal.not z z) (TL.g z (moveB (.inl z) z) (TL.split 62 z (fun h115 => ?_) (fun h115 => ?_)))))
         ·replace hh := iteO_t h115 hh
          refine TL.g z (fieldLoc z fo30_4 z) (TL.g z (loadLoc z ag28 z (i := 0) z z) (TL.g z (moveI (.inl z) z) ?_))
          have u68 := grd_c hh
          replace hh := grd_t hh
          refine TL.g z (indexN z underlying28 sz9 z z f0_3.rv.sl (by omega)) (TL.g z (loadS1 ([] : List UInt8) z ag9 z f0_3 (by omega) z) (TL.g z (neqBs z z z) (TL.g z (pickTB z z z) (TL.w z (pickFB z z z) (TL.en (TC.cD z hh (fun h116 hh => ?_) (fun h116 hh => ?_)))))))
          ·refine TC.a (TL.i z z (TL.en (TC.rt 0 (S.r (B.r (S.r (S.r ?_)))))))
           replace hh := fin_x hR1 hh
           refine B.r (S.r ?_)
           obtain rfl := so hh
           exact rq [2] ⟨z, z, z⟩
          ·exact TC.skip (S.n (cf ((), ()) hh (Sub.pre 1 z)))
         ·replace hh := iteO_f h115 hh
          exact TL.f z (TL.f z (TL.f z (TL.f z (TL.f z (TL.f z (TL.g z (pickFB z z z) (TL.w z (pickFB z z z) (TL.en (TC.f z (TC.skip (S.n (cf ((), ()) hh (Sub.pre 1 z)))))))))))))
       ·skip
        obtain ⟨_, _⟩ := g
        have hh := hg; clear hg
        try dsimp only
        dsimp only [seq_Check_j2] at hh
        refine TC.seq ?_
        have u82 := grd_c hh
        replace hh := grd_t hh
        obtain ⟨v85, u85, hh⟩ := bnd_e hh
        refine TC.draw [] (by kernel_rfl) (TA.a 0 z (fieldLoc z fo30_1 z) z (TA.b 1 z (loadLoc z ag23 z (i := 0) z z) z (TA.a 2 z (moveI (.inl z) z) z (TA.b 3 z (indexN z underlying23 sz22 z z f0_0.isSl (by omega)) z ?_))))
        obtain ⟨p119, hk119, hg119⟩ := RZ.seg f0_0 k112 (by omega)
        replace hk119 : RS _ 1 Go.E.encI (.slice p119.1 (nth x0.next k112 ([] : List Int)).length p119.2) (nth x0.next k112 ([] : List Int)) := hk119
        have hk119b := hk119.rv.big
        refine TA.b 4 z (OpVal.of (loadSeg0 z ag22 z hg119 z) (v' := .slice p119.1 ((nth x0.next k112 ([] : List Int)).length) p119.2) z) z (TA.a 5 z (fieldLoc z fo30_2 z) z (TA.b 6 z (loadLoc z ag27 z (i := 0) z z) z (TA.a 7 z (moveI (.inl z) z) z (TA.b 8 z (indexN z underlying27 sz28 z z f0_1.isSl (by omega)) z ?_))))
        obtain ⟨p120, hk120, hg120⟩ := RZ.seg f0_1 k112 (by omega)
        replace hk120 : RS _ 1 Go.E.encS (.slice p120.1 (nth x0.outs k112 ([] : List (List UInt8))).length p120.2) (nth x0.outs k112 ([] : List (List UInt8))) := hk120
        have hk120b := hk120.rv.big
        refine TA.b 9 z (OpVal.of (loadSeg0 z ag28 z hg120 z) (v' := .slice p120.1 ((nth x0.outs k112 ([] : List (List UInt8))).length) p120.2) z) z (TA.a 10 z (moveI (.inl z) z) z (TA.ac 11 z (callP (seq_row_con hk119 hk120 u85) z z pf87 z z z (k0 ?_))))
        refine TA.a 12 z (OpVal.not z z) z (TA.dn (S.n (TC.cB z hh (fun h121 hh => ?_) (fun h121 hh => ?_))))
        ·refine TC.a (TL.i z z (TL.en (TC.rt 0 (B.r (S.r (S.r ?_))))))
         replace hh := fin_x hR1 hh
         refine B.r (S.r ?_)
         obtain rfl := so hh
         exact rq [2] ⟨z, z, z⟩
        ·refine TC.skip (B.n (S.n (TC.region (TL.w z (OpVal.succ z z z (by omega)) (TL.i z z (TL.en ?_))))))
         obtain ⟨hh, hlt122⟩ := nxt_x hR1 hh
         exact lf ((k112 + 1), ()) hlt122 hh (Sub.pre 1 z)
      ·refine TC.exit (S.x (S.x ?_))
       replace hh := fin_x hR1 hh
       refine TC.exitHere (S.n (TC.a (TL.i z z (TL.en (TC.rt 0 ?_)))))
       obtain rfl := so hh
       exact rq [2] ⟨z, z, z⟩

noncomputable def rewrite_Check_b1 (x0 : Rule) (k113 : Nat) : Option ((Nat) ⊕ (Int)) :=
 iteO (decide (((k113 : Nat) : Int) < (([x0.of, x0.left, x0.right].length : Nat) : Int))) (bnd (dfa_Check (nth [x0.of, x0.left, x0.right] k113 Dfa.zero)) (fun v18 => iteO (decide (v18 ≠ 0)) (fin (some 1)) (nxt (k113 + 1)))) (fin (iteO x0.mapped (bnd (seq_Check x0.by') (fun v27 => iteO (decide (v27 ≠ 0)) (some 1) (iteO (decide (x0.out ≠ ([] : List UInt8))) (some 1) (some 0)))) (iteO (decide (x0.by'.front ≠ ([] : List UInt8))) (some 1) (iteO (decide (0 < ((x0.by'.next.length : Nat) : Int))) (some 1) (iteO (decide (0 < ((x0.by'.outs.length : Nat) : Int))) (some 1) (iteO (decide (0 < ((x0.by'.fin.length : Nat) : Int))) (some 1) (iteO (decide (0 < ((x0.by'.tail.length : Nat) : Int))) (some 1) (iteO (decide (256 < ((x0.out.length : Nat) : Int))) (some 1) (some 0)))))))))
noncomputable def rewrite_Check (x0 : Rule) : Option (Int) :=
 iter (fun q : Nat => rewrite_Check_b1 x0 q) 0
theorem rewrite_Check_con {σ : Store} {x0 : Rule} {a0_0 : Option Addr} {c0_0 : Nat} {a0_1 : Option Addr} {c0_1 : Nat} {a0_2 : Option Addr} {c0_2 : Nat} {a0_3 : Option Addr} {c0_3 : Nat} {a0_4 : Option Addr} {c0_4 : Nat} {a0_5 : Option Addr} {c0_5 : Nat} {a0_6 : Option Addr} {c0_6 : Nat} {a0_7 : Option Addr} {c0_7 : Nat} {a0_8 : Option Addr} {c0_8 : Nat} {a0_9 : Option Addr} {c0_9 : Nat} {a0_10 : Option Addr} {c0_10 : Nat} {a0_11 : Option Addr} {c0_11 : Nat} {a0_12 : Option Addr} {c0_12 : Nat} (f0_0 : RS σ 1 Go.E.encI (.slice a0_0 x0.of.cls.length c0_0) x0.of.cls) (f0_1 : RZ σ (pkSl 1 Go.E.encI Go.E.encI_len) (.slice a0_1 x0.of.next.length c0_1) x0.of.next) (f0_2 : RS σ 1 encB (.slice a0_2 x0.of.fin.length c0_2) x0.of.fin) (f0_3 : RS σ 1 Go.E.encI (.slice a0_3 x0.left.cls.length c0_3) x0.left.cls) (f0_4 : RZ σ (pkSl 1 Go.E.encI Go.E.encI_len) (.slice a0_4 x0.left.next.length c0_4) x0.left.next) (f0_5 : RS σ 1 encB (.slice a0_5 x0.left.fin.length c0_5) x0.left.fin) (f0_6 : RS σ 1 Go.E.encI (.slice a0_6 x0.right.cls.length c0_6) x0.right.cls) (f0_7 : RZ σ (pkSl 1 Go.E.encI Go.E.encI_len) (.slice a0_7 x0.right.next.length c0_7) x0.right.next) (f0_8 : RS σ 1 encB (.slice a0_8 x0.right.fin.length c0_8) x0.right.fin) (f0_9 : RZ σ (pkSl 1 Go.E.encI Go.E.encI_len) (.slice a0_9 x0.by'.next.length c0_9) x0.by'.next) (f0_10 : RZ σ (pkSl 1 Go.E.encS Go.E.encS_len) (.slice a0_10 x0.by'.outs.length c0_10) x0.by'.outs) (f0_11 : RS σ 1 encB (.slice a0_11 x0.by'.fin.length c0_11) x0.by'.fin) (f0_12 : RS σ 1 Go.E.encS (.slice a0_12 x0.by'.tail.length c0_12) x0.by'.tail) {r : Int} (hh : rewrite_Check x0 = some r) :
  Con Tryz.prog 13 #[.agg #[.slice a0_0 x0.of.cls.length c0_0, .slice a0_1 x0.of.next.length c0_1, .slice a0_2 x0.of.fin.length c0_2, .slice a0_3 x0.left.cls.length c0_3, .slice a0_4 x0.left.next.length c0_4, .slice a0_5 x0.left.fin.length c0_5, .slice a0_6 x0.right.cls.length c0_6, .slice a0_7 x0.right.next.length c0_7, .slice a0_8 x0.right.fin.length c0_8, .string (bs x0.out), .bool x0.mapped, .string (bs x0.by'.front), .slice a0_9 x0.by'.next.length c0_9, .slice a0_10 x0.by'.outs.length c0_10, .slice a0_11 x0.by'.fin.length c0_11, .slice a0_12 x0.by'.tail.length c0_12]] σ [] (PureP (.int .i64 r) σ) := by
 dsimp only [rewrite_Check] at hh
 have f0_0b := f0_0.rv.big
 have f0_1b := f0_1.big
 have f0_2b := f0_2.rv.big
 have f0_3b := f0_3.rv.big
 have f0_4b := f0_4.big
 have f0_5b := f0_5.rv.big
 have f0_6b := f0_6.rv.big
 have f0_7b := f0_7.big
 have f0_8b := f0_8.rv.big
 have f0_9b := f0_9.big
 have f0_10b := f0_10.big
 have f0_11b := f0_11.rv.big
 have f0_12b := f0_12.rv.big
 refine Con.mk (n := 66) Tryz.func13 z z z (fun w0 => ?_)
 refine TC.a (TL.op z (boxA z z z z (fun b101 => ?_)))
 refine TL.i z z (TL.en (TC.seq (TC.a (TL.w z (fieldLoc z fo32_0 z) (TL.w z (loadLocA z ag26 sz26 z (i := 0) z z z) (TL.w z (fieldLoc z fo32_1 z) (TL.w z (loadLocA z ag26 sz26 z (i := 0) z z z) (TL.w z (fieldLoc z fo32_2 z) (TL.w z (loadLocA z ag26 sz26 z (i := 0) z z z) ?_)))))))))
 have zf105 : ZOk _ pkDfa ([(x0.of, ⟨a0_0, c0_0, a0_1, c0_1, a0_2, c0_2⟩), (x0.left, ⟨a0_3, c0_3, a0_4, c0_4, a0_5, c0_5⟩), (x0.right, ⟨a0_6, c0_6, a0_7, c0_7, a0_8, c0_8⟩)] : List (Dfa × pkDfa.P)) [x0.of, x0.left, x0.right] := ZOk.cons (⟨f0_0, f0_1, f0_2⟩) (ZOk.cons (⟨f0_3, f0_4, f0_5⟩) (ZOk.cons (⟨f0_6, f0_7, f0_8⟩) (ZOk.nil _ _)))
 refine TL.op z (litZ zf105 z underlying91 sz26 z ze26 z z z (by decide) (by decide) z (by decide) z (by decide) (fun a103 c104 => ?_))
 refine TL.w z (lenC z underlying91 z) (TL.i z z (TL.en (TC.block (TC.loopG (α := (Nat) × (Store)) (rgs [(2, 1), (4, 1), (14, 8)]) (fun g => [(14, .int .i64 ((g.1 : Nat) : Int))]) (fun g => [Res.cells b101 #[.slice a0_0 x0.of.cls.length c0_0, .slice a0_1 x0.of.next.length c0_1, .slice a0_2 x0.of.fin.length c0_2, .slice a0_3 x0.left.cls.length c0_3, .slice a0_4 x0.left.next.length c0_4, .slice a0_5 x0.left.fin.length c0_5, .slice a0_6 x0.right.cls.length c0_6, .slice a0_7 x0.right.next.length c0_7, .slice a0_8 x0.right.fin.length c0_8, .string (bs x0.out), .bool x0.mapped, .string (bs x0.by'.front), .slice a0_9 x0.by'.next.length c0_9, .slice a0_10 x0.by'.outs.length c0_10, .slice a0_11 x0.by'.fin.length c0_11, .slice a0_12 x0.by'.tail.length c0_12] 32, Res.rowS 26 3 pkDfa.en (.slice a103 [x0.of, x0.left, x0.right].length c104) ([(x0.of, ⟨a0_0, c0_0, a0_1, c0_1, a0_2, c0_2⟩), (x0.left, ⟨a0_3, c0_3, a0_4, c0_4, a0_5, c0_5⟩), (x0.right, ⟨a0_6, c0_6, a0_7, c0_7, a0_8, c0_8⟩)] : List (Dfa × pkDfa.P))]) (fun g => g.2) (fun g => iter (fun q : Nat => rewrite_Check_b1 x0 q) g.1 = some r ∧ ZOk g.2 pkDfa ([(x0.of, ⟨a0_0, c0_0, a0_1, c0_1, a0_2, c0_2⟩), (x0.left, ⟨a0_3, c0_3, a0_4, c0_4, a0_5, c0_5⟩), (x0.right, ⟨a0_6, c0_6, a0_7, c0_7, a0_8, c0_8⟩)] : List (Dfa × pkDfa.P)) [x0.of, x0.left, x0.right] ∧ Store.le σ g.2) (fun g => rounds (fun q : Nat => rewrite_Check_b1 x0 q) g.1) (0, σ) (Sub.f [1] 2) z (by repeat (first | exact trivial | refine ⟨z, ?_⟩)) ⟨hh, zf105, (Store.le.refl _)⟩ (fun g1 j1 hg1 => ?_)))))
 obtain ⟨k113, τ114⟩ := g1
 obtain ⟨hh, zf112, hle115⟩ := hg1
 try dsimp only at zf112
 dsimp only at hle115
 replace f0_9 := f0_9.mono hle115
 replace f0_10 := f0_10.mono hle115
 replace f0_11 := f0_11.mono hle115
 replace f0_12 := f0_12.mono hle115
 try dsimp only
 obtain ⟨z1, hh, hR1⟩ := iter_e hh
 dsimp only [rewrite_Check_b1] at hh
 have zf112b := zf112.length
 refine TC.isSl (i := 1) z (fun _ hb116 _ => ?_)
 refine TC.a (TL.w z (OpVal.lss z z z) (TL.en (TC.seq (TC.cD z hh (fun h117 hh => ?_) (fun h117 hh => ?_)))))
 ·refine TC.skip (S.n (TC.seq (TC.block (TC.a (TL.isSl (i := 1) z (fun hs118 _ _ => ?_))))))
  refine TL.w z (indexN z underlying91 sz26 z z (zf112.isSl hs118) (by omega)) ?_
  obtain ⟨p119, hp119⟩ : ∃ p, p = (nth ([(x0.of, ⟨a0_0, c0_0, a0_1, c0_1, a0_2, c0_2⟩), (x0.left, ⟨a0_3, c0_3, a0_4, c0_4, a0_5, c0_5⟩), (x0.right, ⟨a0_6, c0_6, a0_7, c0_7, a0_8, c0_8⟩)] : List (Dfa × pkDfa.P)) k113 (pkDfa.d, pkDfa.dp)).2 := ⟨_, rfl⟩
  have hk119 : RDfa τ114 (nth [x0.of, x0.left, x0.right] k113 Dfa.zero) p119 := by rw [hp119]; exact (zf112.at (by omega)).2
  refine TL.w z ((hp119 ▸ loadOZA zf112 z ag26 sz26 z (by decide) z (q := 1) z (by omega))) (TL.op z (OpOk.alloc z ze26 z z (fun b120 => ?_)))
  refine TL.op z (storeAll z sz26 z z z z z z ?_)
  refine TL.en (TC.a (TL.w z (loadAll z ag26 sz26 z (i := 0) z z) ?_))
  obtain ⟨v18, u18, hh⟩ := bnd_e hh
  refine TL.op z (callP (dfa_Check_con (x0 := (nth [x0.of, x0.left, x0.right] k113 Dfa.zero)) hk119.c hk119.n hk119.e u18) z z pf43 z z z ?_)
  refine TL.w z (OpVal.neq z z z) (TL.en (TC.cD z hh (fun h122 hh => ?_) (fun h122 hh => ?_)))
  ·refine TC.a (TL.i z z (TL.en (TC.ofSub (Sub.pre 0 z) (TC.back (TC.ret (B.r (S.r (S.r ?_))))))))
   replace hh := fin_x hR1 hh
   refine B.r (S.r ?_)
   obtain rfl := so hh
   exact rq [2] ⟨z, z, z⟩
  ·refine TC.skip (B.n (S.n (TC.region (TL.w z (OpVal.succ z z z (by omega)) (TL.i z z (TL.en ?_))))))
   obtain ⟨hh, hlt123⟩ := nxt_x hR1 hh
   exact lf ((k113 + 1), τ114) hlt123 ⟨hh, zf112, hle115⟩ (Sub.f [2, 2] 2)
 ·refine TC.exit (S.x (S.x ?_))
  replace hh := fin_x hR1 hh
  refine TC.exitHere (S.n (TC.seq (TC.a (TL.w z (fieldLoc z fo32_4 z) (TL.w z (loadLoc z ag4 z (i := 0) z z) (TL.en (TC.cB z hh (fun h124 hh => ?_) (fun h124 hh => ?_))))))))
  ·refine TC.seq (TC.a (TL.w z (fieldLoc z fo32_5 z) (TL.w z (loadLocA z ag30 sz30 z (i := 0) z z z) ?_)))
   obtain ⟨v27, u27, hh⟩ := bnd_e hh
   refine TL.op z (callP (seq_Check_con (x0 := x0.by') f0_9 f0_10 f0_11 f0_12 u27) z z pf44 z z z ?_)
   refine TL.w z (OpVal.neq z z z) (TL.j z z (TL.split 28 z (fun h125 => ?_) (fun h125 => ?_)))
   ·replace hh := iteO_t h125 hh
    replace h125 := of_decide_eq_true h125
    refine TL.f z (TL.f z (TL.f z (TL.w z (pickTB z z z) (TL.en (TC.t z (TC.a (TL.i z z (TL.en (TC.ofSub (Sub.pre 0 z) (TC.back (TC.ret (S.r (S.r ?_)))))))))))))
    obtain rfl := so hh
    exact rq [2] ⟨z, z, z⟩
   ·replace hh := iteO_f h125 hh
    replace h125 := of_decide_eq_false h125
    refine TL.g z (fieldLoc z fo32_3 z) (TL.g z (loadLoc z ag9 z (i := 0) z z) (TL.g z (neqBs z z z) (TL.w z (pickFB z z z) (TL.en (TC.cD z hh (fun h126 hh => ?_) (fun h126 hh => ?_))))))
    ·refine TC.a (TL.i z z (TL.en (TC.ofSub (Sub.pre 0 z) (TC.back (TC.ret (S.r (S.r ?_)))))))
     obtain rfl := so hh
     exact rq [2] ⟨z, z, z⟩
    ·refine TC.skip (S.n (TC.a (TL.i z z (TL.en (TC.ofSub (Sub.pre 0 z) (TC.back (TC.ret (S.r ?_))))))))
     obtain rfl := so hh
     exact rq [2] ⟨z, z, z⟩
  ·refine TC.skip (S.n (TC.a (TL.w z (fieldLoc z fo32_5 z) (TL.w z (loadLocA z ag30 sz30 z (i := 0) z z z) (TL.op z (OpOk.alloc z ze30 z z (fun b127 => ?_)))))))
   refine TL.op z (storeAll z sz30 z z z z z z ?_)
   refine TL.en (TC.seq (TC.a (TL.w z (fieldLoc z fo30_0 z) (TL.w z (loadLoc z ag9 z (i := 0) z z) (TL.w z (neqBs z z z) (TL.j z z (TL.split 38 z (fun h129 => ?_) (fun h129 => ?_))))))))
   ·replace hh := iteO_t h129 hh
    replace h129 := of_decide_eq_true h129
    refine TL.f z (TL.f z (TL.f z (TL.f z (TL.w z (pickTB z z z) (TL.j z z (TL.f z (TL.f z (TL.f z (TL.f z (TL.w z (pickTB z z z) (TL.j z z (TL.f z (TL.f z (TL.f z (TL.f z ?_)))))))))))))))
    refine TL.w z (pickTB z z z) (TL.j z z (TL.f z (TL.f z (TL.f z (TL.f z (TL.w z (pickTB z z z) (TL.en (TC.t z (TC.a (TL.i z z (TL.en (TC.ofSub (Sub.pre 0 z) (TC.back (TC.ret (S.r ?_)))))))))))))))
    obtain rfl := so hh
    exact rq [2] ⟨z, z, z⟩
   ·replace hh := iteO_f h129 hh
    replace h129 := of_decide_eq_false h129
    refine TL.g z (fieldLoc z fo30_1 z) (TL.g z (loadLoc z ag23 z (i := 0) z z) (TL.g z (lenC z underlying23 z) (TL.g z (OpVal.gtr z z z) (TL.w z (pickFB z z z) (TL.j z z (TL.split 44 z (fun h130 => ?_) (fun h130 => ?_)))))))
    ·replace hh := iteO_t h130 hh
     replace h130 := of_decide_eq_true h130
     refine TL.f z (TL.f z (TL.f z (TL.f z (TL.w z (pickTB z z z) (TL.j z z (TL.f z (TL.f z (TL.f z (TL.f z (TL.w z (pickTB z z z) (TL.j z z (TL.f z (TL.f z (TL.f z (TL.f z ?_)))))))))))))))
     refine TL.w z (pickTB z z z) (TL.en (TC.t z (TC.a (TL.i z z (TL.en (TC.ofSub (Sub.pre 0 z) (TC.back (TC.ret (S.r ?_)))))))))
     obtain rfl := so hh
     exact rq [2] ⟨z, z, z⟩
    ·replace hh := iteO_f h130 hh
     replace h130 := of_decide_eq_false h130
     refine TL.g z (fieldLoc z fo30_2 z) (TL.g z (loadLoc z ag27 z (i := 0) z z) (TL.g z (lenC z underlying27 z) (TL.g z (OpVal.gtr z z z) (TL.w z (pickFB z z z) (TL.j z z (TL.split 50 z (fun h131 => ?_) (fun h131 => ?_)))))))
     ·replace hh := iteO_t h131 hh
      replace h131 := of_decide_eq_true h131
      refine TL.f z (TL.f z (TL.f z (TL.f z (TL.w z (pickTB z z z) (TL.j z z (TL.f z (TL.f z (TL.f z (TL.f z (TL.w z (pickTB z z z) (TL.en (TC.t z (TC.a (TL.i z z (TL.en ?_)))))))))))))))
      refine TC.ofSub (Sub.pre 0 z) (TC.back (TC.ret (S.r ?_)))
      obtain rfl := so hh
      exact rq [2] ⟨z, z, z⟩
     ·replace hh := iteO_f h131 hh
      replace h131 := of_decide_eq_false h131
      refine TL.g z (fieldLoc z fo30_3 z) (TL.g z (loadLoc z ag24 z (i := 0) z z) (TL.g z (lenC z underlying24 z) (TL.g z (OpVal.gtr z z z) (TL.w z (pickFB z z z) (TL.j z z (TL.split 56 z (fun h132 => ?_) (fun h132 => ?_)))))))
      ·replace hh := iteO_t h132 hh
       replace h132 := of_decide_eq_true h132
       refine TL.f z (TL.f z (TL.f z (TL.f z (TL.w z (pickTB z z z) (TL.en (TC.t z (TC.a (TL.i z z (TL.en (TC.ofSub (Sub.pre 0 z) (TC.back (TC.ret (S.r ?_)))))))))))))
       obtain rfl := so hh
       exact rq [2] ⟨z, z, z⟩
      ·replace hh := iteO_f h132 hh
       replace h132 := of_decide_eq_false h132
       refine TL.g z (fieldLoc z fo30_4 z) (TL.g z (loadLoc z ag28 z (i := 0) z z) (TL.g z (lenC z underlying28 z) (TL.g z (OpVal.gtr z z z) (TL.w z (pickFB z z z) (TL.en (TC.cD z hh (fun h133 hh => ?_) (fun h133 hh => ?_)))))))
       ·refine TC.a (TL.i z z (TL.en (TC.ofSub (Sub.pre 0 z) (TC.back (TC.ret (S.r ?_))))))
        obtain rfl := so hh
        exact rq [2] ⟨z, z, z⟩
       ·refine TC.skip (S.n (TC.seq (TC.a (TL.w z (fieldLoc z fo32_3 z) (TL.w z (loadLoc z ag9 z (i := 1) z z) (TL.w z (lenBs z underlying9 z) (TL.w z (OpVal.gtr z z z) (TL.en (TC.cD z hh (fun h134 hh => ?_) (fun h134 hh => ?_))))))))))
        ·refine TC.a (TL.i z z (TL.en (TC.ofSub (Sub.pre 0 z) (TC.back (TC.ret (S.r ?_))))))
         obtain rfl := so hh
         exact rq [2] ⟨z, z, z⟩
        ·refine TC.skip (S.n (TC.a (TL.i z z (TL.en (TC.ofSub (Sub.pre 0 z) (TC.back (TC.ret ?_)))))))
         obtain rfl := so hh
         exact rq [2] ⟨z, z, z⟩

noncomputable def whittleref21_Few_b2 (x0 : Seq) (k108 : Nat) (i116 : Int) (k117 : Nat) : Option ((Int × Nat) ⊕ ((Nat) ⊕ (Bool))) :=
 iteO (decide (((k117 : Nat) : Int) < (((nth x0.outs k108 ([] : List (List UInt8))).length : Nat) : Int))) (nxt ((IntKind.i64.wrap (i116 + (((nth (nth x0.outs k108 ([] : List (List UInt8))) k117 ([] : List UInt8)).length : Nat) : Int))), (k117 + 1))) (fin (iteO (decide (20000 < i116)) (fin (some false)) (nxt (k108 + 1))))
noncomputable def whittleref21_Few_b1 (x0 : Seq) (k108 : Nat) : Option ((Nat) ⊕ (Bool)) :=
 iteO (decide (((k108 : Nat) : Int) < ((x0.outs.length : Nat) : Int))) (iteO (decide (300 < (((nth x0.outs k108 ([] : List (List UInt8))).length : Nat) : Int))) (fin (some false)) (iter (fun q : Int × Nat => whittleref21_Few_b2 x0 k108 q.1 q.2) (0, 0))) (fin (some true))
noncomputable def whittleref21_Few (x0 : Seq) : Option (Bool) :=
 iteO (decide (12 < ((x0.next.length : Nat) : Int))) (some false) (iteO (decide (13 < ((x0.outs.length : Nat) : Int))) (some false) (iteO (decide (5000 < ((x0.front.length : Nat) : Int))) (some false) (iter (fun q : Nat => whittleref21_Few_b1 x0 q) 0)))
theorem whittleref21_Few_con {σ : Store} {x0 : Seq} {a0_0 : Option Addr} {c0_0 : Nat} {a0_1 : Option Addr} {c0_1 : Nat} {a0_2 : Option Addr} {c0_2 : Nat} {a0_3 : Option Addr} {c0_3 : Nat} (f0_0 : RZ σ (pkSl 1 Go.E.encI Go.E.encI_len) (.slice a0_0 x0.next.length c0_0) x0.next) (f0_1 : RZ σ (pkSl 1 Go.E.encS Go.E.encS_len) (.slice a0_1 x0.outs.length c0_1) x0.outs) (f0_2 : RS σ 1 encB (.slice a0_2 x0.fin.length c0_2) x0.fin) (f0_3 : RS σ 1 Go.E.encS (.slice a0_3 x0.tail.length c0_3) x0.tail) {r : Bool} (hh : whittleref21_Few x0 = some r) :
  Con Tryz.prog 26 #[.agg #[.string (bs x0.front), .slice a0_0 x0.next.length c0_0, .slice a0_1 x0.outs.length c0_1, .slice a0_2 x0.fin.length c0_2, .slice a0_3 x0.tail.length c0_3]] σ [] (PureP (.bool r) σ) := by
 dsimp only [whittleref21_Few] at hh
 have f0_0b := f0_0.big
 have f0_1b := f0_1.big
 have f0_2b := f0_2.rv.big
 have f0_3b := f0_3.rv.big
 refine Con.mk (n := 59) Tryz.func26 z z z (fun w0 => ?_)
 refine TC.a (TL.op z (boxA z z z z (fun b101 => ?_)))
 refine TL.j z z (TL.en (TC.seq (TC.a (TL.w z (fieldLoc z fo30_1 z) (TL.w z (loadLoc z ag23 z (i := 0) z z) (TL.w z (lenC z underlying23 z) (TL.w z (OpVal.gtr z z z) (TL.j z z (TL.split 10 z (fun h103 => ?_) (fun h103 => ?_))))))))))
 ·replace hh := iteO_t h103 hh
  replace h103 := of_decide_eq_true h103
  refine TL.f z (TL.f z (TL.f z (TL.f z (TL.w z (pickTB z z z) (TL.j z z (TL.f z (TL.f z (TL.f z (TL.f z (TL.w z (pickTB z z z) (TL.en (TC.t z (TC.a (TL.j z z (TL.en ?_)))))))))))))))
  refine TC.rt 0 (S.r ?_)
  obtain rfl := so hh
  exact rq [2] ⟨z, z, z⟩
 ·replace hh := iteO_f h103 hh
  replace h103 := of_decide_eq_false h103
  refine TL.g z (fieldLoc z fo30_2 z) (TL.g z (loadLoc z ag27 z (i := 0) z z) (TL.g z (lenC z underlying27 z) (TL.g z (OpVal.gtr z z z) (TL.w z (pickFB z z z) (TL.j z z (TL.split 16 z (fun h104 => ?_) (fun h104 => ?_)))))))
  ·replace hh := iteO_t h104 hh
   replace h104 := of_decide_eq_true h104
   refine TL.f z (TL.f z (TL.f z (TL.f z (TL.w z (pickTB z z z) (TL.en (TC.t z (TC.a (TL.j z z (TL.en (TC.rt 0 (S.r ?_)))))))))))
   obtain rfl := so hh
   exact rq [2] ⟨z, z, z⟩
  ·replace hh := iteO_f h104 hh
   replace h104 := of_decide_eq_false h104
   refine TL.g z (fieldLoc z fo30_0 z) (TL.g z (loadLoc z ag9 z (i := 0) z z) (TL.g z (lenBs z underlying9 z) (TL.g z (OpVal.gtr z z z) (TL.w z (pickFB z z z) (TL.en (TC.cD z hh (fun h105 hh => ?_) (fun h105 hh => ?_)))))))
   ·refine TC.a (TL.j z z (TL.en (TC.rt 0 (S.r ?_))))
    obtain rfl := so hh
    exact rq [2] ⟨z, z, z⟩
   ·refine TC.skip (S.n (TC.seq (TC.a (TL.i z z (TL.en (TC.block (TC.loopG (α := (Nat) × (Unit)) (rgs [(2, 4), (22, 37)]) (fun g => [(3, .int .i64 ((g.1 : Nat) : Int))]) (fun g => [Res.cells b101 #[.string (bs x0.front), .slice a0_0 x0.next.length c0_0, .slice a0_1 x0.outs.length c0_1, .slice a0_2 x0.fin.length c0_2, .slice a0_3 x0.tail.length c0_3] 30]) (fun g => σ) (fun g => iter (fun q : Nat => whittleref21_Few_b1 x0 q) g.1 = some r) (fun g => rounds (fun q : Nat => whittleref21_Few_b1 x0 q) g.1) (0, ()) (Sub.pre 1 z) z (by repeat (first | exact trivial | refine ⟨z, ?_⟩)) hh (fun g1 j1 hg1 => ?_))))))))
    obtain ⟨k108, _⟩ := g1
    have hh := hg1; clear hg1
    try dsimp only
    obtain ⟨z1, hh, hR1⟩ := iter_e hh
    dsimp only [whittleref21_Few_b1] at hh
    refine TC.seq (TC.a (TL.i z z (TL.w z (fieldLoc z fo30_2 z) (TL.w z (loadLoc z ag27 z (i := 0) z z) (TL.w z (lenC z underlying27 z) (TL.w z (OpVal.lss z z z) (TL.en (TC.cD z hh (fun h109 hh => ?_) (fun h109 hh => ?_)))))))))
    ·refine TC.skip (S.n (TC.seq (TC.block (TC.seq (TC.a (TL.w z (fieldLoc z fo30_2 z) (TL.w z (loadLoc z ag27 z (i := 0) z z) (TL.i z z (TL.w z (indexN z underlying27 sz28 z z f0_1.isSl (by omega)) ?_)))))))))
     obtain ⟨p110, hk110, hg110⟩ := RZ.seg f0_1 k108 (by omega)
     replace hk110 : RS _ 1 Go.E.encS (.slice p110.1 (nth x0.outs k108 ([] : List (List UInt8))).length p110.2) (nth x0.outs k108 ([] : List (List UInt8))) := hk110
     have hk110b := hk110.rv.big
     refine TL.w z (OpVal.of (loadSeg0 z ag28 z hg110 z) (v' := .slice p110.1 ((nth x0.outs k108 ([] : List (List UInt8))).length) p110.2) z) (TL.w z (lenC z underlying28 z) (TL.w z (OpVal.gtr z z z) (TL.en (TC.cD z hh (fun h111 hh => ?_) (fun h111 hh => ?_)))))
     ·refine TC.a (TL.j z z (TL.en (TC.rt 0 (S.r (B.r (S.r (S.r ?_)))))))
      replace hh := fin_x hR1 hh
      refine B.r (S.r ?_)
      obtain rfl := so hh
      exact rq [2] ⟨z, z, z⟩
     ·refine TC.skip (S.n (TC.a (TL.i z z (TL.en (TC.seq (TC.a (TL.i z z (TL.en (TC.block (TC.loopG (α := (Int × Nat) × (Unit)) (rgs [(4, 2), (36, 21)]) (fun g => [(4, .int .i64 g.1.1), (5, .int .i64 ((g.1.2 : Nat) : Int))]) (fun g => [Res.cells b101 #[.string (bs x0.front), .slice a0_0 x0.next.length c0_0, .slice a0_1 x0.outs.length c0_1, .slice a0_2 x0.fin.length c0_2, .slice a0_3 x0.tail.length c0_3] 30]) (fun g => σ) (fun g => iter (fun q : Int × Nat => whittleref21_Few_b2 x0 k108 q.1 q.2) g.1 = some z1) (fun g => rounds (fun q : Int × Nat => whittleref21_Few_b2 x0 k108 q.1 q.2) g.1) ((0, 0), ()) (Sub.pre 1 z) z (by repeat (first | exact trivial | refine ⟨z, ?_⟩)) hh (fun g2 j2 hg2 => ?_)))))))))))
      obtain ⟨⟨i116, k117⟩, _⟩ := g2
      have hh := hg2; clear hg2
      try dsimp only
      obtain ⟨z2, hh, hR2⟩ := iter_e hh
      dsimp only [whittleref21_Few_b2] at hh
      refine TC.seq (TC.a (TL.i z z (TL.w z (fieldLoc z fo30_2 z) (TL.w z (loadLoc z ag27 z (i := 0) z z) (TL.i z z (TL.w z (indexN z underlying27 sz28 z z f0_1.isSl (by omega)) ?_))))))
      obtain ⟨p118, hk118, hg118⟩ := RZ.seg f0_1 k108 (by omega)
      replace hk118 : RS _ 1 Go.E.encS (.slice p118.1 (nth x0.outs k108 ([] : List (List UInt8))).length p118.2) (nth x0.outs k108 ([] : List (List UInt8))) := hk118
      have hk118b := hk118.rv.big
      refine TL.w z (OpVal.of (loadSeg0 z ag28 z hg118 z) (v' := .slice p118.1 ((nth x0.outs k108 ([] : List (List UInt8))).length) p118.2) z) (TL.w z (lenC z underlying28 z) (TL.w z (OpVal.lss z z z) (TL.en (TC.cD z hh (fun h119 hh => ?_) (fun h119 hh => ?_)))))
      ·refine TC.skip (S.n (TC.seq (TC.block (TC.region (TL.i z z (TL.w z (fieldLoc z fo30_2 z) (TL.w z (loadLoc z ag27 z (i := 0) z z) (TL.i z z (TL.w z (indexN z underlying27 sz28 z z f0_1.isSl (by omega)) ?_)))))))))
       obtain ⟨p120, hk120, hg120⟩ := RZ.seg f0_1 k108 (by omega)
       replace hk120 : RS _ 1 Go.E.encS (.slice p120.1 (nth x0.outs k108 ([] : List (List UInt8))).length p120.2) (nth x0.outs k108 ([] : List (List UInt8))) := hk120
       have hk120b := hk120.rv.big
       refine TL.w z (OpVal.of (loadSeg0 z ag28 z hg120 z) (v' := .slice p120.1 ((nth x0.outs k108 ([] : List (List UInt8))).length) p120.2) z) (TL.i z z (TL.w z (indexN z underlying28 sz9 z z hk120.rv.sl (by omega)) (TL.w z (loadS1 ([] : List UInt8) z ag9 z hk120 (by omega) z) (TL.w z (lenBs z underlying9 z) (TL.w z (addW z z z) (TL.i z z (TL.nil (B.n (S.n (TC.region (TL.i z z (TL.w z (OpVal.succ z z z (by omega)) (TL.i z z (TL.en ?_))))))))))))))
       obtain ⟨hh, hlt121⟩ := nxt_x hR2 hh
       exact lf (((IntKind.i64.wrap (i116 + (((nth (nth x0.outs k108 ([] : List (List UInt8))) k117 ([] : List UInt8)).length : Nat) : Int))), (k117 + 1)), ()) hlt121 hh (Sub.pre 1 z)
      ·refine TC.exit (S.x (S.x ?_))
       replace hh := fin_x hR2 hh
       refine TC.exitHere (S.n (TC.a (TL.i z z (TL.w z (OpVal.gtr z z z) (TL.en (TC.cD z hh (fun h122 hh => ?_) (fun h122 hh => ?_)))))))
       ·refine TC.a (TL.j z z (TL.en (TC.rt 0 (B.r (S.r (S.r ?_))))))
        replace hh := fin_x hR1 hh
        refine B.r (S.r ?_)
        obtain rfl := so hh
        exact rq [2] ⟨z, z, z⟩
       ·refine TC.skip (B.n (S.n (TC.region (TL.i z z (TL.w z (OpVal.succ z z z (by omega)) (TL.i z z (TL.en ?_)))))))
        obtain ⟨hh, hlt123⟩ := nxt_x hR1 hh
        exact lf ((k108 + 1), ()) hlt123 hh (Sub.pre 1 z)
    ·refine TC.exit (S.x (S.x ?_))
     replace hh := fin_x hR1 hh
     refine TC.exitHere (S.n (TC.a (TL.j z z (TL.en (TC.rt 0 ?_)))))
     obtain rfl := so hh
     exact rq [2] ⟨z, z, z⟩

noncomputable def whittleref24_Few (x0 : Rule) : Option (Bool) :=
 bnd (whittleref11_Few x0.of) (fun v5 => iteO v5 (bnd (whittleref11_Few x0.left) (fun v9 => iteO v9 (bnd (whittleref11_Few x0.right) (fun v14 => iteO v14 (bnd (whittleref21_Few x0.by') (fun v19 => iteO v19 (some (decide (((x0.out.length : Nat) : Int) ≤ 300))) (some false))) (some false))) (some false))) (some false))
theorem whittleref24_Few_con {σ : Store} {x0 : Rule} {a0_0 : Option Addr} {c0_0 : Nat} {a0_1 : Option Addr} {c0_1 : Nat} {a0_2 : Option Addr} {c0_2 : Nat} {a0_3 : Option Addr} {c0_3 : Nat} {a0_4 : Option Addr} {c0_4 : Nat} {a0_5 : Option Addr} {c0_5 : Nat} {a0_6 : Option Addr} {c0_6 : Nat} {a0_7 : Option Addr} {c0_7 : Nat} {a0_8 : Option Addr} {c0_8 : Nat} {a0_9 : Option Addr} {c0_9 : Nat} {a0_10 : Option Addr} {c0_10 : Nat} {a0_11 : Option Addr} {c0_11 : Nat} {a0_12 : Option Addr} {c0_12 : Nat} (f0_0 : RS σ 1 Go.E.encI (.slice a0_0 x0.of.cls.length c0_0) x0.of.cls) (f0_1 : RZ σ (pkSl 1 Go.E.encI Go.E.encI_len) (.slice a0_1 x0.of.next.length c0_1) x0.of.next) (f0_2 : RS σ 1 encB (.slice a0_2 x0.of.fin.length c0_2) x0.of.fin) (f0_3 : RS σ 1 Go.E.encI (.slice a0_3 x0.left.cls.length c0_3) x0.left.cls) (f0_4 : RZ σ (pkSl 1 Go.E.encI Go.E.encI_len) (.slice a0_4 x0.left.next.length c0_4) x0.left.next) (f0_5 : RS σ 1 encB (.slice a0_5 x0.left.fin.length c0_5) x0.left.fin) (f0_6 : RS σ 1 Go.E.encI (.slice a0_6 x0.right.cls.length c0_6) x0.right.cls) (f0_7 : RZ σ (pkSl 1 Go.E.encI Go.E.encI_len) (.slice a0_7 x0.right.next.length c0_7) x0.right.next) (f0_8 : RS σ 1 encB (.slice a0_8 x0.right.fin.length c0_8) x0.right.fin) (f0_9 : RZ σ (pkSl 1 Go.E.encI Go.E.encI_len) (.slice a0_9 x0.by'.next.length c0_9) x0.by'.next) (f0_10 : RZ σ (pkSl 1 Go.E.encS Go.E.encS_len) (.slice a0_10 x0.by'.outs.length c0_10) x0.by'.outs) (f0_11 : RS σ 1 encB (.slice a0_11 x0.by'.fin.length c0_11) x0.by'.fin) (f0_12 : RS σ 1 Go.E.encS (.slice a0_12 x0.by'.tail.length c0_12) x0.by'.tail) {r : Bool} (hh : whittleref24_Few x0 = some r) :
  Con Tryz.prog 7 #[.agg #[.slice a0_0 x0.of.cls.length c0_0, .slice a0_1 x0.of.next.length c0_1, .slice a0_2 x0.of.fin.length c0_2, .slice a0_3 x0.left.cls.length c0_3, .slice a0_4 x0.left.next.length c0_4, .slice a0_5 x0.left.fin.length c0_5, .slice a0_6 x0.right.cls.length c0_6, .slice a0_7 x0.right.next.length c0_7, .slice a0_8 x0.right.fin.length c0_8, .string (bs x0.out), .bool x0.mapped, .string (bs x0.by'.front), .slice a0_9 x0.by'.next.length c0_9, .slice a0_10 x0.by'.outs.length c0_10, .slice a0_11 x0.by'.fin.length c0_11, .slice a0_12 x0.by'.tail.length c0_12]] σ [] (PureP (.bool r) σ) := by
 dsimp only [whittleref24_Few] at hh
 have f0_0b := f0_0.rv.big
 have f0_1b := f0_1.big
 have f0_2b := f0_2.rv.big
 have f0_3b := f0_3.rv.big
 have f0_4b := f0_4.big
 have f0_5b := f0_5.rv.big
 have f0_6b := f0_6.rv.big
 have f0_7b := f0_7.big
 have f0_8b := f0_8.rv.big
 have f0_9b := f0_9.big
 have f0_10b := f0_10.big
 have f0_11b := f0_11.rv.big
 have f0_12b := f0_12.rv.big
 refine Con.mk (n := 27) Tryz.func7 z z z (fun w0 => ?_)
 refine TC.a (TL.op z (boxA z z z z (fun b101 => ?_)))
 refine TL.j z z (TL.en (TC.a (TL.w z (fieldLoc z fo32_0 z) (TL.w z (loadLocA z ag26 sz26 z (i := 0) z z z) ?_))))
 obtain ⟨v5, u5, hh⟩ := bnd_e hh
 refine TL.op z (callP (whittleref11_Few_con (x0 := x0.of) f0_0 f0_1 f0_2 u5) z z pf25 z z z ?_)
 refine TL.j z z (TL.split 6 z (fun h103 => ?_) (fun h103 => ?_))
 ·replace hh := iteO_t h103 hh
  refine TL.g z (fieldLoc z fo32_1 z) (TL.g z (loadLocA z ag26 sz26 z (i := 0) z z z) ?_)
  obtain ⟨v9, u9, hh⟩ := bnd_e hh
  refine TL.gon z z z z z (callP (whittleref11_Few_con (x0 := x0.left) f0_3 f0_4 f0_5 u9) z z pf25 z z z ?_)
  refine TL.w z (pickTB z z z) (TL.j z z (TL.split 11 z (fun h104 => ?_) (fun h104 => ?_)))
  ·replace hh := iteO_t h104 hh
   refine TL.g z (fieldLoc z fo32_2 z) (TL.g z (loadLocA z ag26 sz26 z (i := 0) z z z) ?_)
   obtain ⟨v14, u14, hh⟩ := bnd_e hh
   refine TL.gon z z z z z (callP (whittleref11_Few_con (x0 := x0.right) f0_6 f0_7 f0_8 u14) z z pf25 z z z ?_)
   refine TL.w z (pickTB z z z) (TL.j z z (TL.split 16 z (fun h105 => ?_) (fun h105 => ?_)))
   ·replace hh := iteO_t h105 hh
    refine TL.g z (fieldLoc z fo32_5 z) (TL.g z (loadLocA z ag30 sz30 z (i := 0) z z z) ?_)
    obtain ⟨v19, u19, hh⟩ := bnd_e hh
    refine TL.gon z z z z z (callP (whittleref21_Few_con (x0 := x0.by') f0_9 f0_10 f0_11 f0_12 u19) z z pf26 z z z ?_)
    refine TL.w z (pickTB z z z) (TL.j z z (TL.split 21 z (fun h106 => ?_) (fun h106 => ?_)))
    ·replace hh := iteO_t h106 hh
     refine TL.g z (fieldLoc z fo32_3 z) (TL.g z (loadLoc z ag9 z (i := 0) z z) (TL.g z (lenBs z underlying9 z) (TL.g z (OpVal.leq z z z) (TL.w z (pickTB z z z) (TL.j z z (TL.en (TC.rt 0 ?_)))))))
     obtain rfl := so hh
     exact rq [2] ⟨z, z, z⟩
    ·replace hh := iteO_f h106 hh
     refine TL.f z (TL.f z (TL.f z (TL.f z (TL.w z (pickFB z z z) (TL.j z z (TL.en (TC.rt 0 ?_)))))))
     obtain rfl := so hh
     exact rq [2] ⟨z, z, z⟩
   ·replace hh := iteO_f h105 hh
    refine TL.f z (TL.f z (TL.f z (TL.w z (pickFB z z z) (TL.j z z (TL.f z (TL.f z (TL.f z (TL.f z (TL.w z (pickFB z z z) (TL.j z z (TL.en (TC.rt 0 ?_))))))))))))
    obtain rfl := so hh
    exact rq [2] ⟨z, z, z⟩
  ·replace hh := iteO_f h104 hh
   refine TL.f z (TL.f z (TL.f z (TL.w z (pickFB z z z) (TL.j z z (TL.f z (TL.f z (TL.f z (TL.w z (pickFB z z z) (TL.j z z (TL.f z (TL.f z (TL.f z (TL.f z (TL.w z (pickFB z z z) (TL.j z z ?_)))))))))))))))
   refine TL.en (TC.rt 0 ?_)
   obtain rfl := so hh
   exact rq [2] ⟨z, z, z⟩
 ·replace hh := iteO_f h103 hh
  refine TL.f z (TL.f z (TL.f z (TL.w z (pickFB z z z) (TL.j z z (TL.f z (TL.f z (TL.f z (TL.w z (pickFB z z z) (TL.j z z (TL.f z (TL.f z (TL.f z (TL.w z (pickFB z z z) (TL.j z z (TL.f z ?_)))))))))))))))
  refine TL.f z (TL.f z (TL.f z (TL.w z (pickFB z z z) (TL.j z z (TL.en (TC.rt 0 ?_))))))
  obtain rfl := so hh
  exact rq [2] ⟨z, z, z⟩

noncomputable def span_Check (x0 : Span) (x1 : Int) : Option (Int) :=
 iteO (decide (x0.frm < 0)) (some 1) (iteO (decide (x0.to < x0.frm)) (some 1) (iteO (decide (x1 < x0.to)) (some 1) (some 0)))
theorem span_Check_con {σ : Store} {x0 : Span} {x1 : Int}  {r : Int} (hh : span_Check x0 x1 = some r) :
  Con Tryz.prog 23 #[.agg #[.int .i64 x0.frm, .int .i64 x0.to], .int .i64 x1] σ [] (PureP (.int .i64 r) σ) := by
 dsimp only [span_Check] at hh
 refine Con.mk (n := 21) Tryz.func23 z z z (fun w0 => ?_)
 refine TC.a (TL.op z (boxA z z z z (fun b101 => ?_)))
 refine TL.i z z (TL.en (TC.seq (TC.a (TL.w z (fieldLoc z fo56_0 z) (TL.w z (loadLoc z ag3 z (i := 0) z z) (TL.w z (OpVal.lss z z z) (TL.j z z (TL.split 8 z (fun h103 => ?_) (fun h103 => ?_)))))))))
 ·replace hh := iteO_t h103 hh
  replace h103 := of_decide_eq_true h103
  refine TL.f z (TL.f z (TL.f z (TL.f z (TL.f z (TL.w z (pickTB z z z) (TL.j z z (TL.f z (TL.f z (TL.f z (TL.f z (TL.w z (pickTB z z z) (TL.en (TC.t z (TC.a (TL.i z z ?_)))))))))))))))
  refine TL.en (TC.rt 0 (S.r ?_))
  obtain rfl := so hh
  exact rq [4] ⟨z, z, z⟩
 ·replace hh := iteO_f h103 hh
  replace h103 := of_decide_eq_false h103
  refine TL.g z (fieldLoc z fo56_0 z) (TL.g z (loadLoc z ag3 z (i := 0) z z) (TL.g z (fieldLoc z fo56_1 z) (TL.g z (loadLoc z ag3 z (i := 0) z z) (TL.g z (OpVal.gtr z z z) (TL.w z (pickFB z z z) (TL.j z z (TL.split 15 z (fun h104 => ?_) (fun h104 => ?_))))))))
  ·replace hh := iteO_t h104 hh
   replace h104 := of_decide_eq_true h104
   refine TL.f z (TL.f z (TL.f z (TL.f z (TL.w z (pickTB z z z) (TL.en (TC.t z (TC.a (TL.i z z (TL.en (TC.rt 0 (S.r ?_)))))))))))
   obtain rfl := so hh
   exact rq [4] ⟨z, z, z⟩
  ·replace hh := iteO_f h104 hh
   replace h104 := of_decide_eq_false h104
   refine TL.g z (fieldLoc z fo56_1 z) (TL.g z (loadLoc z ag3 z (i := 0) z z) (TL.g z (moveI (.inl z) z) (TL.g z (OpVal.gtr z z z) (TL.w z (pickFB z z z) (TL.en (TC.cD z hh (fun h105 hh => ?_) (fun h105 hh => ?_)))))))
   ·refine TC.a (TL.i z z (TL.en (TC.rt 0 (S.r ?_))))
    obtain rfl := so hh
    exact rq [4] ⟨z, z, z⟩
   ·refine TC.skip (S.n (TC.a (TL.i z z (TL.en (TC.rt 0 ?_)))))
    obtain rfl := so hh
    exact rq [4] ⟨z, z, z⟩

end Go.Proofs.YtmfclggfajopkaaGreatDoor
end

/- Sb -/
section
/- A strings.Builder in a block of one's own: its own address, bytes of a string put behind, what it holds as a string. Plain lemmas over any program; no condition. -/
set_option linter.unusedVariables false
set_option linter.unusedSimpArgs false
namespace Go.E
open Go

/-- What a builder holds as its own address: nothing yet, or that. -/
def badV (u : Bool) (b : Nat) : Value := match u with | true => loc b 0 | false => .pointer none

theorem cells_shape {b E : Nat} {cs : Array Value} {w : World} (h : (Res.cells b cs E).holds w) : w.shape? b = some (E, cs.size) := by
  have h1 : w.heap[b]? = some (.cells cs E (0, 0)) := h
  simp [World.shape?, h1]
section
variable {P : Program} {n : Nat} {e : Env} {σ : Store} {H : List Res} {o : Oper} {x y : Operand}
theorem OpVal.cvtUns {S T t b E i sz m : Nat} {cs : Array Value} (ho : o.op = .convert S T x) (hS : P.underlying S = some (.pointer t)) (hT : P.underlying T = some .unsafePointer) (hs : szOf P t = some sz) (h0 : sz ≠ 0)
    (hx : ev e x = loc b 0) (hi : H[i]? = some (Res.cells b cs E)) (hm : cs.size = m) (hc : 0 < m) : OpVal P n o e σ H (loc b 0) := fun w hw => by
  obtain ⟨j, hj, hjs⟩ := szOf_info hs
  have hsh := cells_shape (hw.2 _ (List.mem_of_getElem? hi))
  have h := Lib.run_to_unsafe (P := P) (w := w) (cells := cs.size) ⟨b, 0, none⟩ hS hT hj (by rw [hjs]; exact h0) hsh (by rw [hm]; exact hc)
  simp [execOp, ho, hx, loc, h]
theorem OpVal.cvtPtr {S T t b E i sz m : Nat} {cs : Array Value} (ho : o.op = .convert S T x) (hS : P.underlying S = some .unsafePointer) (hT : P.underlying T = some (.pointer t)) (hs : szOf P t = some sz)
    (hx : ev e x = loc b 0) (hi : H[i]? = some (Res.cells b cs E)) (hm : cs.size = m) (hl : liesAt P P.depth E (m / P.cellsOf E) 0 t 1 = true) : OpVal P n o e σ H (loc b 0) := fun w hw => by
  obtain ⟨j, hj, hjs⟩ := szOf_info hs
  have hsh := cells_shape (hw.2 _ (List.mem_of_getElem? hi))
  have h := Lib.run_from_unsafe (P := P) (w := w) (cells := cs.size) ⟨b, 0, none⟩ hS hT hj hsh (by rw [hm]; exact hl)
  simp [execOp, ho, hx, loc, h]
theorem OpVal.noEsc {p : Operand} {ts : Array TypeId} {J : FuncId} {fn : Func} {v : Value} (ho : o.op = .call { callee := .value x, args := #[p], argTypes := ts }) (hx : ev e x = .func (.func J) #[] #[]) (hf : P.funcs[J]? = some fn) (hname : (fn.name == "runtime.NumGoroutine") = false)
    (hb : fn.body.isNone = true) (hn : Extern.findNext fn = none) (he : Extern.find fn = some Extern.AbiNoEscape.same) (hp : ev e p = v) : OpVal P n o e σ H v := fun w _ => by
  have h := run_callFunc_extern hf hname hb hn he #[v] w
  rw [Lib.run_noEscape] at h
  simp [execOp, ho, resolve, Deferred.ofValue, invoke, hx, hp, h, Result.andThen]
theorem OpVal.neqSelf {T T' t b sz : Nat} (ho : o.op = .binOp .neq T x y T') (hT : P.underlying T = some (.pointer t)) (hs : szOf P t = some sz) (hx : ev e x = loc b 0) (hy : ev e y = loc b 0) : OpVal P n o e σ H (.bool false) := fun w _ => by
  obtain ⟨j, hj, _⟩ := szOf_info hs
  have h := Lib.run_neq_ptr_same (P := P) (w := w) ⟨b, 0, none⟩ hT hj
  simp only [execOp, ho, hx, hy, loc, Sem.run_bind, run_eqGuard_ptr, Result.andThen_ok]
  rw [h]; rfl
end
theorem strCells_bs (l : List UInt8) : Lib.strCells (bs l) = l.flatMap encU8 := by
  have h : ∀ l : List UInt8, l.map (fun b => Value.int IntKind.u8 ((b.toNat : Nat) : Int)) = l.flatMap encU8 := fun l => by
    induction l with
    | nil => rfl
    | cons x l ih => rw [List.map_cons, List.flatMap_cons, ih]; rfl
  simp [Lib.strCells, bs]
  exact h l
theorem appendS_blk {P : Program} {w w' : World} (base : Nat) (t u ty e : TypeId) (i : TypeInfo) (ht : P.underlying t = some (.slice e)) (hu : P.underlying u = some .string) (hi : P.info? e = some i) (hz : i.zero = some (.int .u8 0))
    (hsize : i.size = 1) (hby : i.bytes = 1) {v v' : Value} {n : Nat} {xs : List Value} (hown : w.ownsRow base e 1 v n xs) (s : ByteArray)
    (h63 : n + s.size ≤ maxLen) (hbytes : n + s.size ≤ 140737488355328) (hrun : (Builtin.append_ #[t, u] ty #[v, .string s]).run P w = .ok v' w') :
    (v'.ownBlock = v.ownBlock ∨ v'.ownBlock = some w.heap.size) ∧ w.drawn ≤ w'.drawn := by
  have hsmall : n + s.size ≤ 9223372036854775807 := by simp only [maxLen] at h63; omega
  have hxl : xs.length = n := by simpa using hown.1
  rcases hown.2 with ⟨rfl, rfl⟩ | ⟨g, cap, cur, rfl, hbg, hg, hnc, hcm, hcs, htake⟩
  · by_cases hm : s.size = 0
    · have hf := Lib.run_firstCells_string (P := P) (w := w) 1 s
      rw [hm] at hf
      have hr : (Builtin.append_ #[t, u] ty #[.slice none 0 0, .string s]).run P w = .ok (.slice none 0 0) w := by
        simp [Builtin.append_, run_underlying ht, run_underlying hu, sizeOf, typeInfo, hi, hsize, Builtin.lenOf, hm, hf]
      rw [hrun] at hr; cases hr; exact ⟨.inl rfl, Nat.le_refl _⟩
    · have hr := run_append_nil_string (P := P) w t u ty e i (.int .u8 0) ht hu hi hz s (by omega) (by omega) (by rw [hby]; omega)
      rw [hrun] at hr; cases hr; exact ⟨.inr rfl, Nat.le_succ _⟩
  · by_cases hroom : n + s.size ≤ cap
    · have hcs' : cur.size = cap := by simpa using hcs
      have hr := Lib.run_append_room_string (P := P) (w := w) t u ty e i ht hu hi hsize g n cap cur hg s hroom (by omega)
      rw [hrun] at hr; cases hr; exact ⟨.inl rfl, Nat.le_refl _⟩
    · have holds : ∀ j u, xs[j]? = some u → w.cell? ((⟨g, 0, none⟩ : Addr).add j) = some u := hown.cells (g := g) rfl
      have hr := Lib.run_append_grow_string (P := P) (w := w) t u ty e i (.int .u8 0) ht hu hi hz ⟨g, 0, none⟩ n cap xs (by rw [hsize]; simpa using hxl) holds s (by omega) (by omega) (by rw [hby]; exact growslice_fits (by omega) (by omega))
      rw [hrun] at hr; cases hr; exact ⟨.inr rfl, Nat.le_succ _⟩
theorem OpOk.appendStr {X : Ctx} {e : Env} {σ : Store} {F : List Res} {o : Oper} {x y : Operand} {K : Env → Store → List Res → Prop} {T ty E d : Nat} {v : Value} {l m : List UInt8}
    (ho : o.op = .call { callee := .builtin .append, args := #[x, y], argTypes := #[T, ty] }) (ht : X.P.underlying T = some (.slice E)) (hu : X.P.underlying ty = some .string) (hs : szOf X.P E = some 1) (hby : byOf X.P E = some 1) (hz : zeroOf X.P E = some (.int .u8 0))
    (hd : o.dst = some d) (hn : Nat.blt d X.n = true) (hx : ev e x = v) (hy : ev e y = .string (bs m)) (hb : l.length + m.length ≤ 140737488355328)
    (k : ∀ a c, K (upd e d (.slice a (l ++ m).length c)) σ (Res.rowS E 1 encU8 (.slice a (l ++ m).length c) (l ++ m) :: F)) : OpOk X o e σ (Res.rowS E 1 encU8 v l :: F) K := by
  obtain ⟨i, hi, hsi⟩ := szOf_info hs
  have hiz : i.zero = some (.int .u8 0) := by simpa [zeroOf, hi] using hz
  have hib : i.bytes = 1 := by simpa [byOf, hi] using hby
  intro u0 C0 τ0 w a hw ha K' Q hK
  obtain ⟨hown, hone, hbg⟩ := hw.holds _ (List.mem_cons_self ..)
  have hsz : (bs m).size = m.length := by show (bs m).data.size = _; simp [bs]
  have h1 : l.length + (bs m).size ≤ maxLen := by rw [hsz]; unfold maxLen; omega
  have h2 : l.length + (bs m).size ≤ 140737488355328 := by rw [hsz]; exact hb
  obtain ⟨v', w', hr, hown', hg, _⟩ := Lib.run_append_own_string (P := X.P) (w := w) 0 T ty o.type E i ht hu hi hiz hsi hib v l.length _ hown (bs m) h1 h2 (Nat.zero_le _)
  obtain ⟨hblk, hdr⟩ := appendS_blk 0 T ty o.type E i ht hu hi hiz hsi hib hown (bs m) h1 h2 hr
  rw [hsz, strCells_bs, ← List.flatMap_append, ← List.length_append] at hown'
  have hbk : ∀ b, v'.ownBlock = some b → v.ownBlock = some b ∨ w.heap.size ≤ b := fun b hb => by
    rcases hblk with h | h
    · exact .inl (h ▸ hb)
    · rw [h] at hb; cases hb; exact .inr (Nat.le_refl _)
  have hR : Reach u0 C0 τ0 σ w' (Res.rowS E 1 encU8 v' (l ++ m) :: F) :=
    hw.turn1 (Value.ownBlock v) (Value.ownBlock v') rfl rfl hg.os hg.tape hg.output hg.size hdr (fun q hq hne => hg.block q hq (fun hx => hne hx.symm)) ⟨hown', fun q hq => by
      obtain ⟨z, _, hz⟩ := List.mem_flatMap.1 hq
      exact encU8_one z q hz, by rw [List.length_append]; omega⟩ hbk
  obtain ⟨av, cv, rfl, _, _⟩ := isSl_row hown'
  refine Oper.wp_of_run (w' := w') (v := .slice av (l ++ m).length cv) ?_ (hK _ _ _ _ _ (k av cv) hR (put_dst ha hd hn _))
  rw [ha.eval']
  simp [execOp, ho, resolve, invoke, builtin, hx, hy, hr]

/-- A block that nobody looks at any more. -/
def Res.any (o : Option Nat) : Res where
  bl := o.toList
  holds w := ∀ b, o = some b → b < w.heap.size
  lt w b hb h := h b (by simpa using hb)
  keep w w' hb h := fun b e => by
    have h1 := h b e
    have h2 := hb b (by rw [e]; simp)
    rw [Array.getElem?_eq_getElem h1] at h2
    exact (Array.getElem?_eq_some_iff.1 h2).1
/-- Where a row's cells lie, asked as unsafe.SliceData does. -/
def SDat (v : Value) (l : List UInt8) (q : Option Addr) : Prop := l ≠ [] → ∃ g c, v = .slice (some ⟨g, 0, none⟩) l.length c ∧ q = some ⟨g, 0, none⟩
theorem OpOk.sliceDat {X : Ctx} {e : Env} {σ : Store} {F : List Res} {o : Oper} {x : Operand} {K : Env → Store → List Res → Prop} {T E d D : Nat} {v : Value} {l : List UInt8}
    (ho : o.op = .call { callee := .builtin .unsafeSliceData, args := #[x], argTypes := #[T] }) (hD : o.type = D) (hp : X.P.underlying D = some (.pointer E)) (hd : o.dst = some d) (hn : Nat.blt d X.n = true) (hx : ev e x = v)
    (k : ∀ q, SDat v l q → K (upd e d (.pointer q)) σ (Res.rowS E 1 encU8 v l :: F)) : OpOk X o e σ (Res.rowS E 1 encU8 v l :: F) K := by
  subst hD
  intro u0 C0 τ0 w a hw ha K' Q hK
  obtain ⟨hown, hone, hbg⟩ := hw.holds _ (List.mem_cons_self ..)
  rcases id hown.2 with ⟨rfl, hl⟩ | ⟨g, cap, cur, rfl, _, hg, hnc, hcm, hcs, htake⟩
  · have hl0 : l = [] := List.eq_nil_of_length_eq_zero hl
    have hr := Lib.run_unsafeSliceData_nil (P := X.P) (w := w) #[T] o.type 0 0
    refine Oper.wp_of_run (w' := w) (v := .pointer none) ?_ (hK _ _ _ _ _ (k none (fun h => absurd hl0 h)) hw (put_dst ha hd hn _))
    rw [ha.eval']
    simp [execOp, ho, resolve, invoke, builtin, hx, hr]
  · by_cases hc : cap = 0
    · subst hc
      have hl0 : l = [] := List.eq_nil_of_length_eq_zero (by omega)
      have hsh : w.shape? g = some (E, cur.size) := by simp [World.shape?, hg]
      have hr := Lib.run_unsafeSliceData_zero (P := X.P) (w := w) #[T] o.type E hp ⟨g, 0, none⟩ l.length (E, cur.size) hsh
      have hR : Reach u0 C0 τ0 σ (w.alloc (.view ⟨g, 0, none⟩ E)) (Res.any none :: Res.rowS E 1 encU8 (.slice (some ⟨g, 0, none⟩) l.length 0) l :: F) :=
        hw.gain1 none rfl rfl rfl rfl (by simp) (Nat.le_refl _) (fun k hk => alloc_old w _ k hk) (fun b hb => by cases hb) (fun b hb => by cases hb)
      refine Oper.wp_of_run (w' := w.alloc (.view ⟨g, 0, none⟩ E)) (v := .pointer (some ⟨w.heap.size, 0, none⟩)) ?_ (hK _ _ _ _ _ (k _ (fun h => absurd hl0 h)) (hR.sub (List.sublist_cons_self _ _)) (put_dst ha hd hn _))
      rw [ha.eval']
      simp [execOp, ho, resolve, invoke, builtin, hx, hr]
    · have hr := Lib.run_unsafeSliceData_row (P := X.P) (w := w) #[T] o.type ⟨g, 0, none⟩ l.length cap hc
      refine Oper.wp_of_run (w' := w) (v := .pointer (some ⟨g, 0, none⟩)) ?_ (hK _ _ _ _ _ (k _ (fun _ => ⟨g, cap, rfl, rfl⟩)) hw (put_dst ha hd hn _))
      rw [ha.eval']
      simp [execOp, ho, resolve, invoke, builtin, hx, hr]
/-- unsafe.String of it: the row is nobody's any more. -/
theorem OpOk.unsStr {X : Ctx} {e : Env} {σ : Store} {F : List Res} {o : Oper} {x y : Operand} {K : Env → Store → List Res → Prop} {T I E d : Nat} {v : Value} {l : List UInt8} {q : Option Addr}
    (ho : o.op = .call { callee := .builtin .unsafeString, args := #[x, y], argTypes := #[T, I] }) (hp : X.P.underlying T = some (.pointer E)) (hcE : X.P.cellsOf E = 1) (hd : o.dst = some d) (hn : Nat.blt d X.n = true) (hx : ev e x = .pointer q) (hq : SDat v l q) (hy : ev e y = .int .i64 (l.length : Nat))
    (k : K (upd e d (.string (bs l))) σ F) : OpOk X o e σ (Res.rowS E 1 encU8 v l :: F) K := by
  intro u0 C0 τ0 w a hw ha K' Q hK
  obtain ⟨hown, hone, hbg⟩ := hw.holds _ (List.mem_cons_self ..)
  by_cases hl : l = []
  · subst hl
    have hr := Lib.run_unsafeString_none (P := X.P) (w := w) T I o.type q
    refine Oper.wp_of_run (w' := w) (v := .string (bs [])) ?_ (hK _ _ _ _ _ k (hw.sub (List.sublist_cons_self _ _)) (put_dst ha hd hn _))
    rw [ha.eval']
    simp [execOp, ho, resolve, invoke, builtin, hx, hy, hr]
    rfl
  · obtain ⟨g, c, rfl, rfl⟩ := hq hl
    rcases id hown.2 with ⟨hv, _⟩ | ⟨g', cap, cur, hv, _, hg, hnc, hcm, hcs, htake⟩
    · cases hv
    · cases hv
      have hsh : w.shape? g = some (E, cur.size) := by simp [World.shape?, hg]
      have hr := Lib.run_unsafeString_row (P := X.P) (w := w) T I o.type E hp hcE g cur.size hsh l hl (by omega) (by unfold maxLen at hcm; omega) (fun j z hz => by
        refine hown.cells (g := g) rfl j (.int .u8 z.toNat) ?_
        have hj : j < l.length := (List.getElem?_eq_some_iff.1 hz).1
        rw [flat_one (enc := encU8) (fun _ => rfl) (0 : UInt8) l j hj]
        have h4 := getD_some l hj (0 : UInt8)
        rw [hz] at h4
        rw [← Option.some.inj h4]; rfl)
      have hln : ¬ l.length = 0 := fun h => hl (List.eq_nil_of_length_eq_zero h)
      have hfz : ∀ b, b ≠ g → (w.freeze ⟨g, 0, none⟩ l.length).heap[b]? = w.heap[b]? := fun b hb => by
        unfold World.freeze
        rw [if_neg hln]
        simp only [Array.getElem?_modify]
        rw [if_neg (fun h => hb h.symm)]
      have hsz : (w.freeze ⟨g, 0, none⟩ l.length).heap.size = w.heap.size := by
        unfold World.freeze
        rw [if_neg hln]; simp
      have hos : (w.freeze ⟨g, 0, none⟩ l.length).os = w.os ∧ (w.freeze ⟨g, 0, none⟩ l.length).tape = w.tape ∧ (w.freeze ⟨g, 0, none⟩ l.length).output = w.output ∧ (w.freeze ⟨g, 0, none⟩ l.length).drawn = w.drawn := by
        unfold World.freeze
        rw [if_neg hln]; exact ⟨rfl, rfl, rfl, rfl⟩
      have hgl : g < w.heap.size := (Array.getElem?_eq_some_iff.1 hg).1
      have hR : Reach u0 C0 τ0 σ (w.freeze ⟨g, 0, none⟩ l.length) (Res.any (some g) :: F) :=
        hw.turn1 (some g) (some g) rfl rfl hos.1 hos.2.1 hos.2.2.1 (by rw [hsz]; exact Nat.le_refl _) (by rw [hos.2.2.2]; exact Nat.le_refl _) (fun k hk hne => hfz k (fun h => hne (by rw [h]))) (fun b hb => by cases hb; rw [hsz]; exact hgl) (fun b hb => .inl hb)
      refine Oper.wp_of_run (w' := w.freeze ⟨g, 0, none⟩ l.length) (v := .string (bs l)) ?_ (hK _ _ _ _ _ k (hR.sub (List.sublist_cons_self _ _)) (put_dst ha hd hn _))
      rw [ha.eval']
      simp [execOp, ho, resolve, invoke, builtin, hx, hy, hr]
      rfl
section
variable {X : Ctx} {ops : Array Oper} {Q : QP} {e : Env} {σ : Store} {H H' : List Res} {c : Code} {l : List Oper}
theorem TL.asH (h : H = H') (k : TL X ops Q l e σ H') : TL X ops Q l e σ H := h ▸ k
end
end Go.E
end

/- R4 -/
section
/- Decompiled: a strings.Builder, alone and in a piece that grows. -/
set_option linter.unusedVariables false
set_option linter.unusedSimpArgs false
namespace Go.Proofs.YtmfclggfajopkaaGreatDoor
open Go Go.E Go.E.OpVal Go.E.OpOk Go.Proofs.Tryz
set_option maxRecDepth 100000
private theorem ag65 : Go.E.aggOf Tryz.prog 65 = some false := by kernel_rfl
private theorem fo68_0 : Go.E.foOf Tryz.prog 68 0 = some 0 := by kernel_rfl
private theorem sz65 : Go.E.szOf Tryz.prog 65 = some 1 := by kernel_rfl
private theorem sz68 : Go.E.szOf Tryz.prog 68 = some 2 := by kernel_rfl

noncomputable def copyCheckF (x0 : SB) : Option (SB) :=
 some (⟨x0.buf⟩ : SB)
theorem copyCheckF_con {σ : Store} {x0 : SB} {b0_0 : Nat} {a0_1 : Option Addr} {c0_2 : Nat}  {r : SB} (hh : copyCheckF x0 = some r) :
  Con Tryz.prog 96 #[loc b0_0 0] σ [Res.cells b0_0 #[badV false b0_0, .slice a0_1 x0.buf.length c0_2] 68, Res.rowS 5 1 encU8 (.slice a0_1 x0.buf.length c0_2) x0.buf] (fun v σ' H' => ∃ (uo1 : Bool), ∃ (ao2 : Option Addr), ∃ (co3 : Nat), v = .tuple #[] ∧ σ = σ' ∧ H' = [Res.cells b0_0 #[badV uo1 b0_0, .slice ao2 r.buf.length co3] 68, Res.rowS 5 1 encU8 (.slice ao2 r.buf.length co3) r.buf]) := by
 dsimp only [copyCheckF] at hh
 refine Con.mk (n := 20) Tryz.func96 z z z (fun w0 => ?_)
 refine TC.a (TL.l z z (TL.w z (nilCheckLoc z z) (TL.w z (fieldLoc z fo68_0 z) (TL.w z (loadLoc z ag65 z (i := 0) z z) (TL.w z (eqlNil z underlying65 z z) (TL.en (TC.t z (TC.region (TL.l z z (TL.l z z (TL.w z (cvtUns z underlying65 underlying179 sz68 (by decide) z (i := 0) z z (by simp)) (TL.w z (noEsc z z Tryz.func115 (by kernel_rfl) (by kernel_rfl) (by kernel_rfl) (by kernel_rfl) z) (TL.w z (cvtPtr z underlying179 underlying65 sz68 z (i := 0) z z (by kernel_rfl)) (TL.w z (nilCheckLoc z z) (TL.w z (fieldLoc z fo68_0 z) ?_)))))))))))))))
 refine TL.op z (storeLoc z sz65 z z z z z ?_)
 refine TL.nil ?_
 obtain rfl := so hh
 exact RetOk.mk' (rs := []) [Res.cells b0_0 #[badV true b0_0, .slice a0_1 x0.buf.length c0_2] 68, Res.rowS 5 1 encU8 (.slice a0_1 x0.buf.length c0_2) x0.buf] z (.inr z) RVs.nil (List.sublist_append_left _ _) ⟨true, a0_1, c0_2, z, z, z⟩

noncomputable def copyCheckT (x0 : SB) : Option (SB) :=
 some (⟨x0.buf⟩ : SB)
theorem copyCheckT_con {σ : Store} {x0 : SB} {b0_0 : Nat} {a0_1 : Option Addr} {c0_2 : Nat}  {r : SB} (hh : copyCheckT x0 = some r) :
  Con Tryz.prog 96 #[loc b0_0 0] σ [Res.cells b0_0 #[badV true b0_0, .slice a0_1 x0.buf.length c0_2] 68, Res.rowS 5 1 encU8 (.slice a0_1 x0.buf.length c0_2) x0.buf] (fun v σ' H' => ∃ (uo1 : Bool), ∃ (ao2 : Option Addr), ∃ (co3 : Nat), v = .tuple #[] ∧ σ = σ' ∧ H' = [Res.cells b0_0 #[badV uo1 b0_0, .slice ao2 r.buf.length co3] 68, Res.rowS 5 1 encU8 (.slice ao2 r.buf.length co3) r.buf]) := by
 dsimp only [copyCheckT] at hh
 refine Con.mk (n := 20) Tryz.func96 z z z (fun w0 => ?_)
 refine TC.a (TL.l z z (TL.w z (nilCheckLoc z z) (TL.w z (fieldLoc z fo68_0 z) (TL.w z (loadLoc z ag65 z (i := 0) z z) (TL.w z (eqlNil z underlying65 z z) (TL.en (TC.f z (TC.a (TL.l z z (TL.w z (nilCheckLoc z z) (TL.w z (fieldLoc z fo68_0 z) (TL.w z (loadLoc z ag65 z (i := 0) z z) (TL.l z z (TL.w z (neqSelf z underlying65 sz68 z z) (TL.en ?_)))))))))))))))
 refine TC.f z (TC.skip ?_)
 obtain rfl := so hh
 exact RetOk.mk' (rs := []) [Res.cells b0_0 #[badV true b0_0, .slice a0_1 x0.buf.length c0_2] 68, Res.rowS 5 1 encU8 (.slice a0_1 x0.buf.length c0_2) x0.buf] z (.inr z) RVs.nil (List.sublist_append_left _ _) ⟨true, a0_1, c0_2, z, z, z⟩

noncomputable def copyCheckUF (x0 : Turned) : Option (Turned) :=
 some (⟨(⟨x0.b.buf⟩ : SB), x0.at'⟩ : Turned)
theorem copyCheckUF_con {σ : Store} {x0 : Turned} {b0_0 : Nat} {a0_1 : Option Addr} {c0_2 : Nat} {a0_3 : Option Addr} {c0_4 : Nat}  {r : Turned} (hh : copyCheckUF x0 = some r) :
  Con Tryz.prog 96 #[loc b0_0 0] σ [Res.cells b0_0 #[badV false b0_0, .slice a0_1 x0.b.buf.length c0_2, .slice a0_3 x0.at'.length c0_4] 70, Res.rowS 5 1 encU8 (.slice a0_1 x0.b.buf.length c0_2) x0.b.buf, Res.rowS 56 2 encSpan (.slice a0_3 x0.at'.length c0_4) x0.at'] (fun v σ' H' => ∃ (uo1 : Bool), ∃ (ao2 : Option Addr), ∃ (co3 : Nat), ∃ (ao4 : Option Addr), ∃ (co5 : Nat), v = .tuple #[] ∧ σ = σ' ∧ H' = [Res.cells b0_0 #[badV uo1 b0_0, .slice ao2 r.b.buf.length co3, .slice ao4 r.at'.length co5] 70, Res.rowS 5 1 encU8 (.slice ao2 r.b.buf.length co3) r.b.buf, Res.rowS 56 2 encSpan (.slice ao4 r.at'.length co5) r.at']) := by
 dsimp only [copyCheckUF] at hh
 refine Con.mk (n := 20) Tryz.func96 z z z (fun w0 => ?_)
 refine TC.a (TL.l z z (TL.w z (nilCheckLoc z z) (TL.w z (fieldLoc z fo68_0 z) (TL.w z (loadLoc z ag65 z (i := 0) z z) (TL.w z (eqlNil z underlying65 z z) (TL.en (TC.t z (TC.region (TL.l z z (TL.l z z (TL.w z (cvtUns z underlying65 underlying179 sz68 (by decide) z (i := 0) z z (by simp)) (TL.w z (noEsc z z Tryz.func115 (by kernel_rfl) (by kernel_rfl) (by kernel_rfl) (by kernel_rfl) z) (TL.w z (cvtPtr z underlying179 underlying65 sz68 z (i := 0) z z (by kernel_rfl)) (TL.w z (nilCheckLoc z z) (TL.w z (fieldLoc z fo68_0 z) ?_)))))))))))))))
 refine TL.op z (storeLoc z sz65 z z z z z ?_)
 refine TL.nil ?_
 obtain rfl := so hh
 exact RetOk.mk' (rs := []) [Res.cells b0_0 #[badV true b0_0, .slice a0_1 x0.b.buf.length c0_2, .slice a0_3 x0.at'.length c0_4] 70, Res.rowS 5 1 encU8 (.slice a0_1 x0.b.buf.length c0_2) x0.b.buf, Res.rowS 56 2 encSpan (.slice a0_3 x0.at'.length c0_4) x0.at'] z (.inr z) RVs.nil (List.sublist_append_left _ _) ⟨true, a0_1, c0_2, a0_3, c0_4, z, z, z⟩

noncomputable def copyCheckUT (x0 : Turned) : Option (Turned) :=
 some (⟨(⟨x0.b.buf⟩ : SB), x0.at'⟩ : Turned)
theorem copyCheckUT_con {σ : Store} {x0 : Turned} {b0_0 : Nat} {a0_1 : Option Addr} {c0_2 : Nat} {a0_3 : Option Addr} {c0_4 : Nat}  {r : Turned} (hh : copyCheckUT x0 = some r) :
  Con Tryz.prog 96 #[loc b0_0 0] σ [Res.cells b0_0 #[badV true b0_0, .slice a0_1 x0.b.buf.length c0_2, .slice a0_3 x0.at'.length c0_4] 70, Res.rowS 5 1 encU8 (.slice a0_1 x0.b.buf.length c0_2) x0.b.buf, Res.rowS 56 2 encSpan (.slice a0_3 x0.at'.length c0_4) x0.at'] (fun v σ' H' => ∃ (uo1 : Bool), ∃ (ao2 : Option Addr), ∃ (co3 : Nat), ∃ (ao4 : Option Addr), ∃ (co5 : Nat), v = .tuple #[] ∧ σ = σ' ∧ H' = [Res.cells b0_0 #[badV uo1 b0_0, .slice ao2 r.b.buf.length co3, .slice ao4 r.at'.length co5] 70, Res.rowS 5 1 encU8 (.slice ao2 r.b.buf.length co3) r.b.buf, Res.rowS 56 2 encSpan (.slice ao4 r.at'.length co5) r.at']) := by
 dsimp only [copyCheckUT] at hh
 refine Con.mk (n := 20) Tryz.func96 z z z (fun w0 => ?_)
 refine TC.a (TL.l z z (TL.w z (nilCheckLoc z z) (TL.w z (fieldLoc z fo68_0 z) (TL.w z (loadLoc z ag65 z (i := 0) z z) (TL.w z (eqlNil z underlying65 z z) (TL.en (TC.f z (TC.a (TL.l z z (TL.w z (nilCheckLoc z z) (TL.w z (fieldLoc z fo68_0 z) (TL.w z (loadLoc z ag65 z (i := 0) z z) (TL.l z z (TL.w z (neqSelf z underlying65 sz68 z z) (TL.en ?_)))))))))))))))
 refine TC.f z (TC.skip ?_)
 obtain rfl := so hh
 exact RetOk.mk' (rs := []) [Res.cells b0_0 #[badV true b0_0, .slice a0_1 x0.b.buf.length c0_2, .slice a0_3 x0.at'.length c0_4] 70, Res.rowS 5 1 encU8 (.slice a0_1 x0.b.buf.length c0_2) x0.b.buf, Res.rowS 56 2 encSpan (.slice a0_3 x0.at'.length c0_4) x0.at'] z (.inr z) RVs.nil (List.sublist_append_left _ _) ⟨true, a0_1, c0_2, a0_3, c0_4, z, z, z⟩

end Go.Proofs.YtmfclggfajopkaaGreatDoor
end

/- R5 -/
section
/- Decompiled: what a strings.Builder does, alone and in a piece that grows. -/
set_option linter.unusedVariables false
set_option linter.unusedSimpArgs false
namespace Go.Proofs.YtmfclggfajopkaaGreatDoor
open Go Go.E Go.E.OpVal Go.E.OpOk Go.Proofs.Tryz
set_option maxRecDepth 100000
private theorem by5 : Go.E.byOf Tryz.prog 5 = some 1 := by kernel_rfl
private theorem ce5 : Tryz.prog.cellsOf 5 = 1 := by kernel_rfl
private theorem fo68_1 : Go.E.foOf Tryz.prog 68 1 = some 1 := by kernel_rfl
private theorem pf96 : Go.E.plainF Tryz.prog 96 = true := by kernel_rfl
private theorem sz66 : Go.E.szOf Tryz.prog 66 = some 1 := by kernel_rfl
private theorem ze5 : Go.E.zeroOf Tryz.prog 5 = some (.int .u8 0) := by kernel_rfl
noncomputable def copyCheck (x0 : SB) : Option SB := copyCheckF x0
noncomputable def copyCheckU (x0 : Turned) : Option Turned := copyCheckUF x0
theorem copyCheck_con {σ : Store} {x0 : SB} {b0_0 : Nat} {u0_1 : Bool} {a0_2 : Option Addr} {c0_3 : Nat} {r : SB} (hh : copyCheck x0 = some r) :
  Con Tryz.prog 96 #[loc b0_0 0] σ [Res.cells b0_0 #[badV u0_1 b0_0, .slice a0_2 x0.buf.length c0_3] 68, Res.rowS 5 1 encU8 (.slice a0_2 x0.buf.length c0_3) x0.buf] (fun v σ' H' => ∃ (uo1 : Bool), ∃ (ao2 : Option Addr), ∃ (co3 : Nat), v = .tuple #[] ∧ σ = σ' ∧ H' = [Res.cells b0_0 #[badV uo1 b0_0, .slice ao2 r.buf.length co3] 68, Res.rowS 5 1 encU8 (.slice ao2 r.buf.length co3) r.buf]) := by
 cases u0_1
 ·exact copyCheckF_con hh
 ·exact copyCheckT_con hh
theorem copyCheckU_con {σ : Store} {x0 : Turned} {b0_0 : Nat} {u0_1 : Bool} {a0_2 : Option Addr} {c0_3 : Nat} {a0_4 : Option Addr} {c0_5 : Nat} {r : Turned} (hh : copyCheckU x0 = some r) :
  Con Tryz.prog 96 #[loc b0_0 0] σ [Res.cells b0_0 #[badV u0_1 b0_0, .slice a0_2 x0.b.buf.length c0_3, .slice a0_4 x0.at'.length c0_5] 70, Res.rowS 5 1 encU8 (.slice a0_2 x0.b.buf.length c0_3) x0.b.buf, Res.rowS 56 2 encSpan (.slice a0_4 x0.at'.length c0_5) x0.at'] (fun v σ' H' => ∃ (uo1 : Bool), ∃ (ao2 : Option Addr), ∃ (co3 : Nat), ∃ (ao4 : Option Addr), ∃ (co5 : Nat), v = .tuple #[] ∧ σ = σ' ∧ H' = [Res.cells b0_0 #[badV uo1 b0_0, .slice ao2 r.b.buf.length co3, .slice ao4 r.at'.length co5] 70, Res.rowS 5 1 encU8 (.slice ao2 r.b.buf.length co3) r.b.buf, Res.rowS 56 2 encSpan (.slice ao4 r.at'.length co5) r.at']) := by
 cases u0_1
 ·exact copyCheckUF_con hh
 ·exact copyCheckUT_con hh

noncomputable def writeS (x0 : SB) (x1 : List UInt8) : Option (Int × Unit × SB) :=
 grd (x1.length ≤ 281474976710656) (bnd (copyCheck (⟨x0.buf⟩ : SB)) (fun v4 => grd (v4.buf.length + x1.length ≤ 140737488355328) (some (((x1.length : Nat) : Int), (), (⟨(v4.buf ++ x1)⟩ : SB)))))
theorem writeS_con {σ : Store} {x0 : SB} {b0_0 : Nat} {u0_1 : Bool} {a0_2 : Option Addr} {c0_3 : Nat} {x1 : List UInt8}  {r : Int × Unit × SB} (hh : writeS x0 x1 = some r) :
  Con Tryz.prog 64 #[loc b0_0 0, .string (bs x1)] σ [Res.cells b0_0 #[badV u0_1 b0_0, .slice a0_2 x0.buf.length c0_3] 68, Res.rowS 5 1 encU8 (.slice a0_2 x0.buf.length c0_3) x0.buf] (fun v σ' H' => ∃ (uo1 : Bool), ∃ (ao2 : Option Addr), ∃ (co3 : Nat), v = .tuple #[.int .i64 r.1, .nilIface] ∧ σ = σ' ∧ H' = [Res.cells b0_0 #[badV uo1 b0_0, .slice ao2 r.2.2.buf.length co3] 68, Res.rowS 5 1 encU8 (.slice ao2 r.2.2.buf.length co3) r.2.2.buf]) := by
 dsimp only [writeS] at hh
 refine Con.mk (n := 19) Tryz.func64 z z z (fun w0 => ?_)
 have x1b := grd_c hh
 replace hh := grd_t hh
 refine TC.a (TL.i z z (TL.w z (OpVal.mv (.inr z)) (TL.en (TC.a (TL.l z z (TL.front 1 z z (TL.front 1 z z ?_)))))))
 obtain ⟨v4, u4, hh⟩ := bnd_e hh
 refine TL.op z (OpOk.call (copyCheck_con u4) z z pf96 z z z z ?_)
 rintro _ _ _ hle104 ⟨u104_1, a104_2, c104_3, rfl, rfl, rfl⟩
 refine TL.en (TC.a (TL.l z z (TL.l z z (TL.w z (nilCheckLoc z z) (TL.w z (fieldLoc z fo68_1 z) (TL.w z (loadLoc z ag66 z (i := 0) z z) (TL.w z (moveStr (.inl z) z) (TL.front 1 z z ?_))))))))
 have u11 := grd_c hh
 replace hh := grd_t hh
 refine TL.op z (appendStr z underlying66 underlying9 sz5 by5 ze5 z z z z u11 (fun a106 c107 => ?_))
 refine TL.w z (nilCheckLoc z z) (TL.w z (fieldLoc z fo68_1 z) (TL.front 1 z z (TL.op z (storeSl z sz66 z z z z z ?_))))
 refine TL.en (TC.a (TL.w z (moveStr (.inl z) z) (TL.w z (lenBs z underlying9 z) (TL.i z z (TL.w z (OpVal.mv (.inr z)) (TL.en (TC.ret ?_)))))))
 obtain rfl := so hh
 exact ro [Res.cells b0_0 #[badV u104_1 b0_0, .slice a106 ((v4.buf ++ x1).length) c107] 68, Res.rowS 5 1 encU8 (.slice a106 (v4.buf ++ x1).length c107) (v4.buf ++ x1)] z (RVs.tmp z (RVs.tmp z RVs.nil)) ⟨u104_1, a106, c107, z, z, z⟩

noncomputable def writeSU (x0 : Turned) (x1 : List UInt8) : Option (Int × Unit × Turned) :=
 grd (x1.length ≤ 281474976710656) (bnd (copyCheckU (⟨(⟨x0.b.buf⟩ : SB), x0.at'⟩ : Turned)) (fun v4 => grd (v4.b.buf.length + x1.length ≤ 140737488355328) (some (((x1.length : Nat) : Int), (), (⟨(⟨(v4.b.buf ++ x1)⟩ : SB), v4.at'⟩ : Turned)))))
theorem writeSU_con {σ : Store} {x0 : Turned} {b0_0 : Nat} {u0_1 : Bool} {a0_2 : Option Addr} {c0_3 : Nat} {a0_4 : Option Addr} {c0_5 : Nat} {x1 : List UInt8}  {r : Int × Unit × Turned} (hh : writeSU x0 x1 = some r) :
  Con Tryz.prog 64 #[loc b0_0 0, .string (bs x1)] σ [Res.cells b0_0 #[badV u0_1 b0_0, .slice a0_2 x0.b.buf.length c0_3, .slice a0_4 x0.at'.length c0_5] 70, Res.rowS 5 1 encU8 (.slice a0_2 x0.b.buf.length c0_3) x0.b.buf, Res.rowS 56 2 encSpan (.slice a0_4 x0.at'.length c0_5) x0.at'] (fun v σ' H' => ∃ (uo1 : Bool), ∃ (ao2 : Option Addr), ∃ (co3 : Nat), ∃ (ao4 : Option Addr), ∃ (co5 : Nat), v = .tuple #[.int .i64 r.1, .nilIface] ∧ σ = σ' ∧ H' = [Res.cells b0_0 #[badV uo1 b0_0, .slice ao2 r.2.2.b.buf.length co3, .slice ao4 r.2.2.at'.length co5] 70, Res.rowS 5 1 encU8 (.slice ao2 r.2.2.b.buf.length co3) r.2.2.b.buf, Res.rowS 56 2 encSpan (.slice ao4 r.2.2.at'.length co5) r.2.2.at']) := by
 dsimp only [writeSU] at hh
 refine Con.mk (n := 19) Tryz.func64 z z z (fun w0 => ?_)
 have x1b := grd_c hh
 replace hh := grd_t hh
 refine TC.a (TL.i z z (TL.w z (OpVal.mv (.inr z)) (TL.en (TC.a (TL.l z z (TL.front 2 z z (TL.front 2 z z (TL.front 2 z z ?_))))))))
 obtain ⟨v4, u4, hh⟩ := bnd_e hh
 refine TL.op z (OpOk.call (copyCheckU_con u4) z z pf96 z z z z ?_)
 rintro _ _ _ hle106 ⟨u106_1, a106_2, c106_3, a106_4, c106_5, rfl, rfl, rfl⟩
 refine TL.en (TC.a (TL.l z z (TL.l z z (TL.w z (nilCheckLoc z z) (TL.w z (fieldLoc z fo68_1 z) (TL.w z (loadLoc z ag66 z (i := 0) z z) (TL.w z (moveStr (.inl z) z) (TL.front 1 z z ?_))))))))
 have u11 := grd_c hh
 replace hh := grd_t hh
 refine TL.op z (appendStr z underlying66 underlying9 sz5 by5 ze5 z z z z u11 (fun a109 c110 => ?_))
 refine TL.w z (nilCheckLoc z z) (TL.w z (fieldLoc z fo68_1 z) (TL.front 1 z z (TL.op z (storeSl z sz66 z z z z z ?_))))
 refine TL.en (TC.a (TL.w z (moveStr (.inl z) z) (TL.w z (lenBs z underlying9 z) (TL.i z z (TL.w z (OpVal.mv (.inr z)) (TL.en (TC.ret ?_)))))))
 obtain rfl := so hh
 exact ro [Res.cells b0_0 #[badV u106_1 b0_0, .slice a109 ((v4.b.buf ++ x1).length) c110, .slice a106_4 v4.at'.length c106_5] 70, Res.rowS 5 1 encU8 (.slice a109 (v4.b.buf ++ x1).length c110) (v4.b.buf ++ x1), Res.rowS 56 2 encSpan (.slice a106_4 v4.at'.length c106_5) v4.at'] z (RVs.tmp z (RVs.tmp z RVs.nil)) ⟨u106_1, a109, c110, a106_4, c106_5, z, z, z⟩

noncomputable def lenU (x0 : Turned) : Option (Int) :=
 some ((x0.b.buf.length : Nat) : Int)
theorem lenU_con {σ : Store} {x0 : Turned} {b0_0 : Nat} {u0_1 : Bool} {a0_2 : Option Addr} {c0_3 : Nat} {a0_4 : Option Addr} {c0_5 : Nat}  {r : Int} (hh : lenU x0 = some r) :
  Con Tryz.prog 32 #[loc b0_0 0] σ [Res.cells b0_0 #[badV u0_1 b0_0, .slice a0_2 x0.b.buf.length c0_3, .slice a0_4 x0.at'.length c0_5] 70, Res.rowS 5 1 encU8 (.slice a0_2 x0.b.buf.length c0_3) x0.b.buf, Res.rowS 56 2 encSpan (.slice a0_4 x0.at'.length c0_5) x0.at'] (fun v σ' H' => v = .int .i64 r ∧ σ = σ' ∧ H' = [Res.cells b0_0 #[badV u0_1 b0_0, .slice a0_2 x0.b.buf.length c0_3, .slice a0_4 x0.at'.length c0_5] 70, Res.rowS 5 1 encU8 (.slice a0_2 x0.b.buf.length c0_3) x0.b.buf, Res.rowS 56 2 encSpan (.slice a0_4 x0.at'.length c0_5) x0.at']) := by
 dsimp only [lenU] at hh
 refine Con.mk (n := 8) Tryz.func32 z z z (fun w0 => ?_)
 refine TC.a (TL.i z z (TL.en (TC.a (TL.l z z (TL.w z (nilCheckLoc z z) (TL.w z (fieldLoc z fo68_1 z) (TL.w z (loadLoc z ag66 z (i := 0) z z) (TL.w z (lenC z underlying66 z) (TL.i z z (TL.en (TC.ret ?_)))))))))))
 obtain rfl := so hh
 exact ro [Res.cells b0_0 #[badV u0_1 b0_0, .slice a0_2 x0.b.buf.length c0_3, .slice a0_4 x0.at'.length c0_5] 70, Res.rowS 5 1 encU8 (.slice a0_2 x0.b.buf.length c0_3) x0.b.buf, Res.rowS 56 2 encSpan (.slice a0_4 x0.at'.length c0_5) x0.at'] z (RVs.tmp z RVs.nil) ⟨z, z, z⟩

noncomputable def stringB (x0 : SB) : Option ((List UInt8)) :=
 some x0.buf
theorem stringB_con {σ : Store} {x0 : SB} {b0_0 : Nat} {u0_1 : Bool} {a0_2 : Option Addr} {c0_3 : Nat}  {r : (List UInt8)} (hh : stringB x0 = some r) :
  Con Tryz.prog 65 #[loc b0_0 0] σ [Res.cells b0_0 #[badV u0_1 b0_0, .slice a0_2 x0.buf.length c0_3] 68, Res.rowS 5 1 encU8 (.slice a0_2 x0.buf.length c0_3) x0.buf] (fun v σ' H' => v = .string (bs r) ∧ σ = σ' ∧ H' = []) := by
 dsimp only [stringB] at hh
 refine Con.mk (n := 14) Tryz.func65 z z z (fun w0 => ?_)
 refine TC.a (TL.w z (moveStr (.inr z) z) (TL.en (TC.seq (TC.drawR (Hr := [Res.cells b0_0 #[badV u0_1 b0_0, .slice a0_2 x0.buf.length c0_3] 68]) (fun r hr => mem_pick [0] z hr) [] (by kernel_rfl) (TA.a 0 z (moveLoc (.inl z) z) z (TA.a 1 z (nilCheckLoc z z) z (TA.a 2 z (fieldLoc z fo68_1 z) z (TA.b 3 z (loadLoc z ag66 z (i := 0) z z) z (TA.a 5 z (moveLoc (.inl z) z) z (TA.a 6 z (nilCheckLoc z z) z (TA.a 7 z (fieldLoc z fo68_1 z) z (TA.b 8 z (loadLoc z ag66 z (i := 0) z z) z (TA.b 9 z (lenC z underlying66 z) z (TA.front 1 z z (TA.ac 4 z (sliceDat z z underlying156 z z z (fun sq105 sh106 => (k1 ?_))))))))))))))))))
 refine TA.ac 10 z (unsStr z underlying156 ce5 z z z sh106 z (k0 ?_))
 refine TA.a 11 z (moveStr (.inr z) z) z (TA.dn (S.n (TC.rt 0 ?_)))
 obtain rfl := so hh
 exact rq [2] ⟨z, z, z⟩

noncomputable def stringU (x0 : Turned) : Option ((List UInt8)) :=
 some x0.b.buf
theorem stringU_con {σ : Store} {x0 : Turned} {b0_0 : Nat} {u0_1 : Bool} {a0_2 : Option Addr} {c0_3 : Nat} {a0_4 : Option Addr} {c0_5 : Nat}  {r : (List UInt8)} (hh : stringU x0 = some r) :
  Con Tryz.prog 65 #[loc b0_0 0] σ [Res.cells b0_0 #[badV u0_1 b0_0, .slice a0_2 x0.b.buf.length c0_3, .slice a0_4 x0.at'.length c0_5] 70, Res.rowS 5 1 encU8 (.slice a0_2 x0.b.buf.length c0_3) x0.b.buf, Res.rowS 56 2 encSpan (.slice a0_4 x0.at'.length c0_5) x0.at'] (fun v σ' H' => v = .string (bs r) ∧ σ = σ' ∧ H' = [Res.cells b0_0 #[badV u0_1 b0_0, .slice a0_2 x0.b.buf.length c0_3, .slice a0_4 x0.at'.length c0_5] 70, Res.rowS 56 2 encSpan (.slice a0_4 x0.at'.length c0_5) x0.at']) := by
 dsimp only [stringU] at hh
 refine Con.mk (n := 14) Tryz.func65 z z z (fun w0 => ?_)
 refine TC.a (TL.w z (moveStr (.inr z) z) (TL.en (TC.seq (TC.drawR (Hr := [Res.cells b0_0 #[badV u0_1 b0_0, .slice a0_2 x0.b.buf.length c0_3, .slice a0_4 x0.at'.length c0_5] 70, Res.rowS 56 2 encSpan (.slice a0_4 x0.at'.length c0_5) x0.at']) (fun r hr => mem_pick [0, 2] z hr) [] (by kernel_rfl) (TA.a 0 z (moveLoc (.inl z) z) z (TA.a 1 z (nilCheckLoc z z) z (TA.a 2 z (fieldLoc z fo68_1 z) z (TA.b 3 z (loadLoc z ag66 z (i := 0) z z) z (TA.a 5 z (moveLoc (.inl z) z) z (TA.a 6 z (nilCheckLoc z z) z (TA.a 7 z (fieldLoc z fo68_1 z) z (TA.b 8 z (loadLoc z ag66 z (i := 0) z z) z (TA.b 9 z (lenC z underlying66 z) z (TA.front 1 z z (TA.ac 4 z (sliceDat z z underlying156 z z z (fun sq106 sh107 => (k1 ?_))))))))))))))))))
 refine TA.ac 10 z (unsStr z underlying156 ce5 z z z sh107 z (k0 ?_))
 refine TA.a 11 z (moveStr (.inr z) z) z (TA.dn (S.n (TC.ret ?_)))
 obtain rfl := so hh
 exact ro [Res.cells b0_0 #[badV u0_1 b0_0, .slice a0_2 x0.b.buf.length c0_3, .slice a0_4 x0.at'.length c0_5] 70, Res.rowS 56 2 encSpan (.slice a0_4 x0.at'.length c0_5) x0.at'] z (RVs.tmp z RVs.nil) ⟨z, z, z⟩

end Go.Proofs.YtmfclggfajopkaaGreatDoor
end
