/- Parts of a proof, one behind the other: what a machine reaches, functions decompiled, plain lemmas. Conditions stand with each lemma. -/
import Derived.Test.YtjhbngjhdmapmaaGreatDoorB9df67f9b52
import Derived.Test.YtjhbngjhdmapmaaGreatDoorB646fe210c8
import Derived.Test.YtjhbngjhdmapmaaGreatDoorBf5a1fe1256
import Derived.Lib.Builder
import Derived.Lib.AppendStr
import Derived.Lib.UnsafeStr

set_option linter.unusedVariables false
set_option linter.unusedSimpArgs false
set_option linter.unusedSectionVars false
set_option maxRecDepth 100000

section
namespace Go.Proofs.YtjhbngjhdmapmaaGreatDoor
open Go Go.E Go.E.OpVal Go.E.OpOk Go.Proofs.Tryz
private theorem ag22 : Go.E.aggOf Tryz.prog 22 = some false := by kernel_rfl
private theorem ag23 : Go.E.aggOf Tryz.prog 23 = some false := by kernel_rfl
private theorem ag66 : Go.E.aggOf Tryz.prog 66 = some true := by kernel_rfl
private theorem ag72 : Go.E.aggOf Tryz.prog 72 = some true := by kernel_rfl
private theorem ag9 : Go.E.aggOf Tryz.prog 9 = some false := by kernel_rfl
private theorem by4 : Go.E.byOf Tryz.prog 4 = some 1 := by kernel_rfl
private theorem by72 : Go.E.byOf Tryz.prog 72 = some 48 := by kernel_rfl
private theorem fo25_1 : Go.E.foOf Tryz.prog 25 1 = some 1 := by kernel_rfl
private theorem fo25_3 : Go.E.foOf Tryz.prog 25 3 = some 3 := by kernel_rfl
private theorem fo53_0 : Go.E.foOf Tryz.prog 53 0 = some 0 := by kernel_rfl
private theorem fo53_1 : Go.E.foOf Tryz.prog 53 1 = some 1 := by kernel_rfl
private theorem fo66_0 : Go.E.foOf Tryz.prog 66 0 = some 0 := by kernel_rfl
private theorem fo66_1 : Go.E.foOf Tryz.prog 66 1 = some 1 := by kernel_rfl
private theorem fo66_2 : Go.E.foOf Tryz.prog 66 2 = some 2 := by kernel_rfl
private theorem fo66_3 : Go.E.foOf Tryz.prog 66 3 = some 6 := by kernel_rfl
private theorem fo66_4 : Go.E.foOf Tryz.prog 66 4 = some 7 := by kernel_rfl
private theorem fo72_0 : Go.E.foOf Tryz.prog 72 0 = some 0 := by kernel_rfl
private theorem fo72_1 : Go.E.foOf Tryz.prog 72 1 = some 1 := by kernel_rfl
private theorem fo72_2 : Go.E.foOf Tryz.prog 72 2 = some 2 := by kernel_rfl
private theorem fo72_3 : Go.E.foOf Tryz.prog 72 3 = some 3 := by kernel_rfl
private theorem pf107 : Go.E.plainF Tryz.prog 107 = true := by kernel_rfl
private theorem pf108 : Go.E.plainF Tryz.prog 108 = true := by kernel_rfl
private theorem pf153 : Go.E.plainF Tryz.prog 153 = true := by kernel_rfl
private theorem pf192 : Go.E.plainF Tryz.prog 192 = true := by kernel_rfl
private theorem pf34 : Go.E.plainF Tryz.prog 34 = true := by kernel_rfl
private theorem pf71 : Go.E.plainF Tryz.prog 71 = true := by kernel_rfl
private theorem pf75 : Go.E.plainF Tryz.prog 75 = true := by kernel_rfl
private theorem pf76 : Go.E.plainF Tryz.prog 76 = true := by kernel_rfl
private theorem pl72 : Go.E.plOf Tryz.prog 72 = some #[(0, 1), (1, 1), (2, 1), (3, 1)] := by kernel_rfl
private theorem sz53 : Go.E.szOf Tryz.prog 53 = some 2 := by kernel_rfl
private theorem sz66 : Go.E.szOf Tryz.prog 66 = some 8 := by kernel_rfl
private theorem sz72 : Go.E.szOf Tryz.prog 72 = some 4 := by kernel_rfl
private theorem sz9 : Go.E.szOf Tryz.prog 9 = some 1 := by kernel_rfl
private theorem ze4 : Go.E.zeroOf Tryz.prog 4 = some (.bool false) := by kernel_rfl
private theorem ze66 : Go.E.zeroOf Tryz.prog 66 = some (.agg #[.int .i64 0, .int .i64 0, .int .u64 0, .int .u64 0, .int .u64 0, .int .u64 0, .string ByteArray.empty, .bool false]) := by kernel_rfl
private theorem ze72 : Go.E.zeroOf Tryz.prog 72 = some (.agg #[.int .i64 0, .int .i64 0, .string ByteArray.empty, .string ByteArray.empty]) := by kernel_rfl
private theorem ze9 : Go.E.zeroOf Tryz.prog 9 = some (.string ByteArray.empty) := by kernel_rfl
theorem make_conL (σ : Store) (a : Option Addr) (c : Nat) (l : List Bool) (h256 : l.length = 256) :
  Con Tryz.prog 107 #[.slice a l.length c] σ [Res.rowS 4 1 encB (.slice a l.length c) l] (PureP (setV (BSet.make fun i => nth l i false)) σ) := by
 rw [h256]; exact make_con σ a c l h256
theorem make_conN {σ : Store} {a : Option Addr} {c N : Nat} {l : List Bool} (hn : l.length = N) (h256 : N = 256) :
  Con Tryz.prog 107 #[.slice a N c] σ [Res.rowS 4 1 encB (.slice a N c) l] (PureP (setV (BSet.make fun i => nth l i false)) σ) := by
 subst hn; exact make_conL σ a c l h256
noncomputable def B1_ (k118 : Nat) (l121 : List Bool) : Option (((List Bool) × Nat) ⊕ (BSet)) :=
 nxt (l121, (k118 + 1))
noncomputable def Ad_ (x0 : BSet) (x1 : BSet) (l116 : List Bool) (k118 : Nat) : Option (((List Bool) × Nat) ⊕ (BSet)) :=
 iteO (decide (((k118 : Nat) : Int) < 256)) (grd (k118 < 256) (grd (k118 < 256) (iteO (x0.has k118) (iteO (x1.has k118) (grd (k118 < l116.length) (B1_ k118 (l116.set k118 true))) (grd (k118 < l116.length) (B1_ k118 (l116.set k118 false)))) (grd (k118 < l116.length) (B1_ k118 (l116.set k118 false)))))) (fin (grd ((List.replicate 256 false).length = 256) (some (BSet.make fun i => nth l116 i false))))
noncomputable def Do_ (x0 : BSet) (x1 : BSet) (x2 : Int) : Option (BSet) :=
 grd (x2 = 0) (iter (fun q : (List Bool) × Nat => Ad_ x0 x1 q.1 q.2) ((List.replicate 256 false), 0))
set_option maxHeartbeats 8000000 in
theorem Fs_ {σ : Store} {x0 : BSet} {x1 : BSet} {x2 : Int}  {r : BSet} (hh : Do_ x0 x1 x2 = some r) :
  Con Tryz.prog 75 #[setV x0, setV x1, .int .i64 x2] σ [] (PureP (setV r) σ) := by
 dsimp only [Do_] at hh
 refine Con.mk (n := 64) Tryz.func75 z z z (fun w0 => ?_)
 have x2k := grd_c hh
 replace hh := grd_t hh
 subst x2k
 refine TC.a (TL.op z (boxA z z z z (fun b101 => ?_)))
 refine TL.op z (boxA z z z z (fun b103 => ?_))
 refine TL.op z (OpOk.alloc z ze64 z z (fun b105 => ?_))
 refine TL.en (TC.a (TL.op z (makeS2 (m := 256) (enc := encB) false z underlying46 sz4 by4 ze4 z z z z (by omega) (by decide) encB_len (by decide) z encB_one (fun a107 c108 => ?_))))
 refine TL.s z z (TL.en (TC.seq (TC.a (TL.i z z (TL.en (TC.block (TC.loopG (α := ((List Bool) × Nat) × (Unit)) (rgs [(8, 3), (12, 50)]) (fun g => [(8, .int .i64 ((g.1.2 : Nat) : Int))]) (fun g => [Res.cells b101 (setA x0) 64, Res.cells b103 (setA x1) 64, Res.cells b105 (setA BSet.zero) 64, Res.rowS 4 1 encB (.slice a107 (List.replicate 256 false).length c108) g.1.1]) (fun g => σ) (fun g => iter (fun q : (List Bool) × Nat => Ad_ x0 x1 q.1 q.2) g.1 = some r ∧ g.1.1.length = (List.replicate 256 false).length) (fun g => rounds (fun q : (List Bool) × Nat => Ad_ x0 x1 q.1 q.2) g.1) (((List.replicate 256 false), 0), ()) (Sub.f [1, 2, 3] 4) z (by repeat (first | exact trivial | refine ⟨z, ?_⟩)) ⟨hh, z⟩ (fun g1 j1 hg1 => ?_))))))))
 obtain ⟨⟨l116, k118⟩, _⟩ := g1
 obtain ⟨hh, hn117⟩ := hg1
 try dsimp only at hn117 ⊢
 obtain ⟨z1, hh, hR1⟩ := iter_e hh
 dsimp only [Ad_] at hh
 have hn117b := hn117
 refine TC.isSl (i := 3) z (fun _ hb119 _ => ?_)
 refine TC.seq (TC.a (TL.i z z (TL.w z (OpVal.lss z z z) (TL.en (TC.cD z hh (fun h120 hh => ?_) (fun h120 hh => ?_))))))
 ·refine TC.skip (S.n (TC.cutG (α := ((List Bool)) × (Unit)) (rgs [(9, 2), (16, 46)]) (fun g => []) (fun g => [Res.cells b101 (setA x0) 64, Res.cells b103 (setA x1) 64, Res.cells b105 (setA BSet.zero) 64, Res.rowS 4 1 encB (.slice a107 (List.replicate 256 false).length c108) g.1]) (fun g => σ) (fun g => B1_ k118 g.1 = some z1 ∧ g.1.length = (List.replicate 256 false).length) ?_ (fun g j hg => ?_)))
  ·skip
   refine TC.block (TC.a (TL.w z (loadAll z ag64 sz64 z (i := 0) z z) (TL.i z z ?_)))
   have u11 := grd_c hh
   replace hh := grd_t hh
   refine TL.op z (callP (rhas_con _ x0 k118 (BSet.isOk _) u11) z z pf71 z z z ?_)
   refine TL.j z z (TL.en (TC.a (TL.w z (loadAll z ag64 sz64 z (i := 1) z z) (TL.i z z ?_))))
   have u15 := grd_c hh
   replace hh := grd_t hh
   refine TL.op z (callP (rhas_con _ x1 k118 (BSet.isOk _) u15) z z pf71 z z z ?_)
   refine TL.j z z (TL.en (TC.region (TL.s z z (TL.i z z (TL.i z z (TL.w z (OpVal.of (OpVal.eql z z z) (v' := .bool true) z) (TL.j z z (TL.g z (moveB (.inl z) z) (TL.w z (pickTB z z z) (TL.j z z (TL.split 29 z (fun h123 => ?_) (fun h123 => ?_))))))))))))
   ·replace hh := iteO_t h123 hh
    refine TL.g z (moveB (.inl z) z) (TL.w z (pickTB z z z) (TL.j z z (TL.split 32 z (fun h124 => ?_) (fun h124 => ?_))))
    ·replace hh := iteO_t h124 hh
     refine TL.f z (TL.f z (TL.f z (TL.f z (TL.f z (TL.f z (TL.f z (TL.f z (TL.w z (pickTB z z z) (TL.j z z (TL.f z (TL.f z (TL.f z (TL.f z (TL.f z (TL.f z (TL.f z (TL.f z (TL.f z (TL.w z (pickTB z z z) (TL.j z z (TL.f z (TL.f z (TL.f z (TL.f z (TL.f z (TL.f z (TL.w z (pickTB z z z) ?_)))))))))))))))))))))))))))
     have u56 := grd_c hh
     replace hh := grd_t hh
     refine TL.isSl (i := 3) z (fun hs125 _ _ => ?_)
     refine TL.w z (indexN z underlying46 sz4 z z hs125 (by omega)) (TL.front 3 z z ?_)
     have hn126 : (l116.set k118 true).length = (List.replicate 256 false).length := by rw [List.length_set]; exact hn117
     refine TL.op z (storeS true z sz4 z z z z encB_len encB_one (by omega) (by omega) ?_)
     exact TL.nil (B.n (S.n (cf ((l116.set k118 true), ()) ⟨hh, hn126⟩ (Sub.f [3, 3, 3] 4))))
    ·replace hh := iteO_f h124 hh
     refine TL.g z (moveI (.inl z) z) (TL.g z (OpVal.of (OpVal.eql z z z) (v' := .bool false) z) (TL.g z (moveB (.inl z) z) (TL.f z (TL.f z (TL.f z (TL.f z (TL.g z (pickFB z z z) (TL.w z (pickFB z z z) (TL.j z z (TL.g z (moveI (.inl z) z) (TL.g z (OpVal.of (OpVal.eql z z z) (v' := .bool false) z) (TL.g z (moveB (.inl z) z) (TL.f z (TL.g z (pickFB z z z) (TL.g z (moveB (.inl z) z) (TL.f z (TL.f z (TL.g z (pickFB z z z) (TL.w z (pickFB z z z) (TL.j z z (TL.g z (moveI (.inl z) z) (TL.g z (OpVal.of (OpVal.eql z z z) (v' := .bool false) z) (TL.g z (moveB (.inl z) z) (TL.f z (TL.f z (TL.g z (pickFB z z z) (TL.w z (pickFB z z z) ?_)))))))))))))))))))))))))))
     have u56 := grd_c hh
     replace hh := grd_t hh
     refine TL.isSl (i := 3) z (fun hs127 _ _ => ?_)
     refine TL.w z (indexN z underlying46 sz4 z z hs127 (by omega)) (TL.front 3 z z ?_)
     have hn128 : (l116.set k118 false).length = (List.replicate 256 false).length := by rw [List.length_set]; exact hn117
     refine TL.op z (storeS false z sz4 z z z z encB_len encB_one (by omega) (by omega) ?_)
     exact TL.nil (B.n (S.n (cf ((l116.set k118 false), ()) ⟨hh, hn128⟩ (Sub.f [3, 3, 3] 4))))
   ·replace hh := iteO_f h123 hh
    refine TL.f z (TL.w z (pickFB z z z) (TL.j z z (TL.g z (moveI (.inl z) z) (TL.g z (OpVal.of (OpVal.eql z z z) (v' := .bool false) z) (TL.g z (moveB (.inl z) z) (TL.f z (TL.f z (TL.f z (TL.f z (TL.g z (pickFB z z z) (TL.w z (pickFB z z z) (TL.j z z (TL.g z (moveI (.inl z) z) (TL.g z (OpVal.of (OpVal.eql z z z) (v' := .bool false) z) (TL.g z (moveB (.inl z) z) (TL.f z (TL.g z (pickFB z z z) (TL.g z (moveB (.inl z) z) (TL.f z (TL.f z (TL.g z (pickFB z z z) (TL.w z (pickFB z z z) (TL.j z z (TL.g z (moveI (.inl z) z) (TL.g z (OpVal.of (OpVal.eql z z z) (v' := .bool false) z) (TL.g z (moveB (.inl z) z) (TL.f z (TL.f z (TL.g z (pickFB z z z) (TL.w z (pickFB z z z) ?_))))))))))))))))))))))))))))))
    have u56 := grd_c hh
    replace hh := grd_t hh
    refine TL.isSl (i := 3) z (fun hs129 _ _ => ?_)
    refine TL.w z (indexN z underlying46 sz4 z z hs129 (by omega)) (TL.front 3 z z ?_)
    have hn130 : (l116.set k118 false).length = (List.replicate 256 false).length := by rw [List.length_set]; exact hn117
    refine TL.op z (storeS false z sz4 z z z z encB_len encB_one (by omega) (by omega) ?_)
    exact TL.nil (B.n (S.n (cf ((l116.set k118 false), ()) ⟨hh, hn130⟩ (Sub.f [3, 3, 3] 4))))
  ·skip
   obtain ⟨l121, _⟩ := g
   obtain ⟨hh, hn122⟩ := hg
   try dsimp only at hn122 ⊢
   dsimp only [B1_] at hh
   have hn122b := hn122
   refine TC.isSl (i := 3) z (fun _ hb131 _ => ?_)
   refine TC.region (TL.i z z (TL.w z (OpVal.succ z z z (by omega)) (TL.i z z (TL.en ?_))))
   obtain ⟨hh, hlt132⟩ := nxt_x hR1 hh
   exact lf ((l121, (k118 + 1)), ()) hlt132 ⟨hh, hn122⟩ (Sub.f [3, 3, 3, 3] 4)
 ·refine TC.exit (S.x (S.x ?_))
  replace hh := fin_x hR1 hh
  refine TC.exitHere (S.n (TC.a (TL.s z z (TL.front 3 z z ?_))))
  have u62 := grd_c hh
  replace hh := grd_t hh
  refine TL.op z (callT (make_conN hn117 u62) z z pf107 z z z z ?_)
  refine TL.front 2 z z (TL.op z (storeAll z sz64 z z z z z z ?_))
  refine TL.en (TC.rt 1 ?_)
  obtain rfl := so hh
  exact ro [] z (RVs.agg ag64 sz64 z (i := 0) z z RVs.nil) ⟨z, z, z⟩
noncomputable def B6_ (x0 : List UInt8) (x1 : List UInt8) : Option (Bool) :=
 grd (x0.length ≤ 281474976710656) (grd (x1.length ≤ 281474976710656) (iteO (decide (((x0.length : Nat) : Int) ≤ ((x1.length : Nat) : Int))) (grd (0 ≤ x0.length ∧ x0.length ≤ x1.length) (some (decide ((x1.take x0.length) = x0)))) (some false)))
theorem Ge_ {σ : Store} {x0 : List UInt8} {x1 : List UInt8}  {r : Bool} (hh : B6_ x0 x1 = some r) :
  Con Tryz.prog 192 #[.string (bs x0), .string (bs x1)] σ [] (PureP (.bool r) σ) := by
 dsimp only [B6_] at hh
 refine Con.mk (n := 18) Tryz.func192 z z z (fun w0 => ?_)
 have x0b := grd_c hh
 replace hh := grd_t hh
 have x1b := grd_c hh
 replace hh := grd_t hh
 refine TC.a (TL.j z z (TL.en (TC.a (TL.w z (moveStr (.inl z) z) (TL.w z (lenBs z underlying9 z) (TL.w z (moveStr (.inl z) z) (TL.w z (lenBs z underlying9 z) (TL.w z (OpVal.leq z z z) (TL.j z z (TL.split 10 z (fun h101 => ?_) (fun h101 => ?_)))))))))))
 ·replace hh := iteO_t h101 hh
  replace h101 := of_decide_eq_true h101
  refine TL.g z (moveStr (.inl z) z) (TL.g z (moveStr (.inl z) z) (TL.g z (lenBs z underlying9 z) ?_))
  have u11 := grd_c hh
  replace hh := grd_t hh
  refine TL.g z (sliceBsH (l := x1) (j := x0.length) z underlying9 z z (by omega) (by omega)) (TL.g z (moveStr (.inl z) z) (TL.g z (eqlBs z z z) (TL.w z (pickTB z z z) (TL.j z z (TL.en (TC.ret ?_))))))
  obtain rfl := so hh
  exact rq [4] ⟨z, z, z⟩
 ·replace hh := iteO_f h101 hh
  replace h101 := of_decide_eq_false h101
  refine TL.f z (TL.f z (TL.f z (TL.f z (TL.f z (TL.f z (TL.w z (pickFB z z z) (TL.j z z (TL.en (TC.ret ?_)))))))))
  obtain rfl := so hh
  exact rq [4] ⟨z, z, z⟩
noncomputable def Cs_ (k111 : Nat) (t113 : Bool) : Option ((Bool × Nat) ⊕ ((Int) ⊕ ((List UInt8)))) :=
 nxt (t113, (k111 + 1))
noncomputable def A3_ (x0 : List (List UInt8)) (i104 : Int) (t110 : Bool) (k111 : Nat) : Option ((Bool × Nat) ⊕ ((Int) ⊕ ((List UInt8)))) :=
 iteO (decide (((k111 : Nat) : Int) < ((x0.length : Nat) : Int))) (iteO t110 (grd (0 < x0.length) (grd (0 ≤ i104 ∧ 0 ≤ i104.toNat ∧ i104.toNat ≤ (nth x0 0 ([] : List UInt8)).length) (bnd (B6_ ((nth x0 0 ([] : List UInt8)).take i104.toNat) (nth x0 k111 ([] : List UInt8))) (fun v30 => Cs_ k111 v30)))) (Cs_ k111 false)) (fin (iteO t110 (grd (0 < x0.length) (grd (0 ≤ i104 ∧ 0 ≤ i104.toNat ∧ i104.toNat ≤ (nth x0 0 ([] : List UInt8)).length) (fin (some ((nth x0 0 ([] : List UInt8)).take i104.toNat))))) (nxt (IntKind.i64.wrap (i104 - 1)))))
noncomputable def Bl_ (x0 : List (List UInt8)) (i104 : Int) : Option ((Int) ⊕ ((List UInt8))) :=
 iteO (decide (0 < i104)) (iter (fun q : Bool × Nat => A3_ x0 i104 q.1 q.2) (true, 0)) (fin (some ([] : List UInt8)))
noncomputable def D4_ (x0 : List (List UInt8)) : Option ((List UInt8)) :=
 iteO (decide (((x0.length : Nat) : Int) = 0)) (some ([] : List UInt8)) (grd (0 < x0.length) (iter (fun q : Int => Bl_ x0 q) (((nth x0 0 ([] : List UInt8)).length : Nat) : Int)))
theorem Gz_ {σ : Store} {x0 : List (List UInt8)} {a0_0 : Option Addr} {c0_0 : Nat} (f0_0 : RS σ 1 Go.E.encS (.slice a0_0 x0.length c0_0) x0) {r : (List UInt8)} (hh : D4_ x0 = some r) :
  Con Tryz.prog 153 #[.slice a0_0 x0.length c0_0] σ [] (PureP (.string (bs r)) σ) := by
 dsimp only [D4_] at hh
 have f0_0b := f0_0.rv.big
 refine Con.mk (n := 42) Tryz.func153 z z z (fun w0 => ?_)
 refine TC.a (TL.w z (moveStr (.inr z) z) (TL.en (TC.seq (TC.a (TL.s z z (TL.w z (lenC z underlying35 z) (TL.w z (OpVal.eql z z z) (TL.en (TC.cD z hh (fun h101 hh => ?_) (fun h101 hh => ?_))))))))))
 ·refine TC.a (TL.w z (moveStr (.inr z) z) (TL.en (TC.ret (S.r ?_))))
  obtain rfl := so hh
  exact rq [2] ⟨z, z, z⟩
 ·refine TC.skip (S.n (TC.seq (TC.a (TL.s z z ?_))))
  have u7 := grd_c hh
  replace hh := grd_t hh
  refine TL.w z (indexN (i := 0) z underlying35 sz9 z z f0_0.rv.sl (by omega)) (TL.w z (loadS1 ([] : List UInt8) z ag9 z f0_0 (by omega) z) (TL.w z (lenBs z underlying9 z) (TL.i z z (TL.en (TC.block (TC.loopG (α := (Int) × (Unit)) (rgs [(2, 4), (13, 29)]) (fun g => [(3, .int .i64 g.1)]) (fun g => []) (fun g => σ) (fun g => iter (fun q : Int => Bl_ x0 q) g.1 = some r) (fun g => rounds (fun q : Int => Bl_ x0 q) g.1) ((((nth x0 0 ([] : List UInt8)).length : Nat) : Int), ()) (Sub.pre 0 z) z (by repeat (first | exact trivial | refine ⟨z, ?_⟩)) hh (fun g1 j1 hg1 => ?_)))))))
  obtain ⟨i104, _⟩ := g1
  have hh := hg1; clear hg1
  try dsimp only
  obtain ⟨z1, hh, hR1⟩ := iter_e hh
  dsimp only [Bl_] at hh
  refine TC.seq (TC.a (TL.i z z (TL.w z (OpVal.gtr z z z) (TL.en (TC.cD z hh (fun h105 hh => ?_) (fun h105 hh => ?_))))))
  ·refine TC.skip (S.n (TC.seq (TC.block (TC.a (TL.j z z (TL.en (TC.seq (TC.a (TL.i z z (TL.en (TC.block (TC.loopG (α := (Bool × Nat) × (Unit)) (rgs [(4, 2), (17, 19)]) (fun g => [(4, .bool g.1.1), (5, .int .i64 ((g.1.2 : Nat) : Int))]) (fun g => []) (fun g => σ) (fun g => iter (fun q : Bool × Nat => A3_ x0 i104 q.1 q.2) g.1 = some z1) (fun g => rounds (fun q : Bool × Nat => A3_ x0 i104 q.1 q.2) g.1) ((true, 0), ()) (Sub.pre 0 z) z (by repeat (first | exact trivial | refine ⟨z, ?_⟩)) hh (fun g2 j2 hg2 => ?_)))))))))))))
   obtain ⟨⟨t110, k111⟩, _⟩ := g2
   have hh := hg2; clear hg2
   try dsimp only
   obtain ⟨z2, hh, hR2⟩ := iter_e hh
   dsimp only [A3_] at hh
   refine TC.seq (TC.a (TL.i z z (TL.s z z (TL.w z (lenC z underlying35 z) (TL.w z (OpVal.lss z z z) (TL.en (TC.cD z hh (fun h112 hh => ?_) (fun h112 hh => ?_))))))))
   ·refine TC.skip (S.n (TC.cutG (α := (Bool) × (Unit)) (rgs [(4, 1), (23, 13)]) (fun g => [(4, .bool g.1)]) (fun g => []) (fun g => σ) (fun g => Cs_ k111 g.1 = some z2) ?_ (fun g j hg => ?_)))
    ·skip
     refine TC.block (TC.draw [] (by kernel_rfl) (TA.a 0 z (moveB (.inl z) z) z (TA.a 1 z (moveB (.inl z) z) z (TA.split 24 z (fun h114 => ?_) (fun h114 => ?_)))))
     ·replace hh := iteO_t h114 hh
      refine TA.on 2 z z z z (moveSl (.inl z) z) z ?_
      have u22 := grd_c hh
      replace hh := grd_t hh
      refine TA.on 3 z z z z (indexN (i := 0) z underlying35 sz9 z z f0_0.rv.sl (by omega)) z (TA.on 4 z z z z (loadS1 ([] : List UInt8) z ag9 z f0_0 (by omega) z) z (TA.on 5 z z z z (moveI (.inl z) z) z ?_))
      have u25 := grd_c hh
      replace hh := grd_t hh
      refine TA.on 6 rfl rfl rfl rfl (sliceBsH (l := (nth x0 0 ([] : List UInt8))) (j := i104.toNat) rfl underlying9 rfl (by show Value.int _ _ = _; rw [Int.toNat_of_nonneg (by omega)]) (by omega) (by omega)) rfl (TA.on 7 z z z z (moveSl (.inl z) z) z (TA.on 8 z z z z (moveI (.inl z) z) z (TA.on 9 z z z z (indexN z underlying35 sz9 z z f0_0.rv.sl (by omega)) z (TA.on 10 z z z z (loadS1 ([] : List UInt8) z ag9 z f0_0 (by omega) z) z ?_))))
      obtain ⟨v30, u30, hh⟩ := bnd_e hh
      refine TA.actOn 11 (by kernel_rfl) z z z z z z (callP (Ge_ u30) z z pf192 z z z (k0 ?_))
      exact TA.a 12 z (pickTB z z z) z (TA.a 13 z (moveB (.inr z) z) z (TA.dn (B.n (S.n (cf (v30, ()) hh (Sub.pre 0 z))))))
     ·replace hh := iteO_f h114 hh
      exact TA.off 2 z z z z z z (TA.off 3 z z z z z z (TA.off 4 z z z z z z (TA.off 5 z z z z z z (TA.off 6 z z z z z z (TA.off 7 z z z z z z (TA.off 8 z z z z z z (TA.off 9 z z z z z z (TA.off 10 z z z z z z (TA.off 11 z z z z z z (TA.a 12 z (pickFB z z z) z (TA.a 13 z (moveB (.inr z) z) z (TA.dn (B.n (S.n (cf (false, ()) hh (Sub.pre 0 z))))))))))))))))
    ·skip
     obtain ⟨t113, _⟩ := g
     have hh := hg; clear hg
     try dsimp only
     dsimp only [Cs_] at hh
     refine TC.region (TL.i z z (TL.w z (OpVal.succ z z z (by omega)) (TL.i z z (TL.en ?_))))
     obtain ⟨hh, hlt115⟩ := nxt_x hR2 hh
     exact lf ((t113, (k111 + 1)), ()) hlt115 hh (Sub.pre 0 z)
   ·refine TC.exit (S.x (S.x ?_))
    replace hh := fin_x hR2 hh
    refine TC.exitHere (S.n (TC.a (TL.j z z (TL.en (TC.cB z hh (fun h116 hh => ?_) (fun h116 hh => ?_))))))
    ·refine TC.a (TL.s z z ?_)
     have u38 := grd_c hh
     replace hh := grd_t hh
     refine TL.w z (indexN (i := 0) z underlying35 sz9 z z f0_0.rv.sl (by omega)) (TL.w z (loadS1 ([] : List UInt8) z ag9 z f0_0 (by omega) z) (TL.i z z ?_))
     have u41 := grd_c hh
     replace hh := grd_t hh
     refine TL.w rfl (sliceBsH (l := (nth x0 0 ([] : List UInt8))) (j := i104.toNat) rfl underlying9 rfl (by show Value.int _ _ = _; rw [Int.toNat_of_nonneg (by omega)]) (by omega) (by omega)) (TL.w z (moveStr (.inr z) z) (TL.en (TC.ret (B.r (S.r (S.r ?_))))))
     replace hh := fin_x hR1 hh
     refine B.r (S.r ?_)
     obtain rfl := so hh
     exact rq [2] ⟨z, z, z⟩
    ·refine TC.skip (B.n (S.n (TC.region (TL.i z z (TL.w z (subW z z z) (TL.i z z (TL.en ?_)))))))
     obtain ⟨hh, hlt117⟩ := nxt_x hR1 hh
     exact lf ((IntKind.i64.wrap (i104 - 1)), ()) hlt117 hh (Sub.pre 0 z)
  ·refine TC.exit (S.x (S.x ?_))
   replace hh := fin_x hR1 hh
   refine TC.exitHere (S.n (TC.a (TL.w z (moveStr (.inr z) z) (TL.en (TC.ret ?_)))))
   obtain rfl := so hh
   exact rq [2] ⟨z, z, z⟩
noncomputable def Dw_ (x0 : List UInt8) (x1 : List UInt8) : Option ((List UInt8) × (List UInt8)) :=
 grd (x0.length ≤ 281474976710656) (grd (x1.length ≤ 281474976710656) (bnd (D4_ [x0, x1]) (fun v6 => grd (v6.length ≤ x0.length ∧ x0.length ≤ x0.length) (grd (v6.length ≤ x1.length ∧ x1.length ≤ x1.length) (some ((x0.drop v6.length), (x1.drop v6.length)))))))
theorem G0_ {σ : Store} {x0 : List UInt8} {x1 : List UInt8}  {r : (List UInt8) × (List UInt8)} (hh : Dw_ x0 x1 = some r) :
  Con Tryz.prog 108 #[.string (bs x0), .string (bs x1)] σ [] (PureP (.tuple #[.string (bs r.1), .string (bs r.2)]) σ) := by
 dsimp only [Dw_] at hh
 refine Con.mk (n := 18) Tryz.func108 z z z (fun w0 => ?_)
 have x0b := grd_c hh
 replace hh := grd_t hh
 have x1b := grd_c hh
 replace hh := grd_t hh
 refine TC.a (TL.w z (moveStr (.inr z) z) (TL.w z (moveStr (.inr z) z) (TL.en (TC.a (TL.w z (moveStr (.inl z) z) (TL.w z (moveStr (.inl z) z) (TL.op z (OpOk.lit (enc := Go.E.encS) [x0, x1] z underlying35 sz9 ze9 z z z Go.E.encS_len (by decide) (by decide) ([] : List UInt8) z (by decide) z (by decide) Go.E.encS_one (fun a101 c102 => ?_)))))))))
 obtain ⟨v6, u6, hh⟩ := bnd_e hh
 refine TL.op z (callK (Con.lend Go.E.encS_len (fun _ hle105 hr104 => Gz_ hr104 u6)) z z pf153 z z z z ?_)
 refine TL.w z (lenBs z underlying9 z) (TL.i z z (TL.en (TC.seq ?_)))
 have u11 := grd_c hh
 replace hh := grd_t hh
 have u14 := grd_c hh
 replace hh := grd_t hh
 refine TC.draw [] (by kernel_rfl) (TA.a 0 z (moveStr (.inl z) z) z (TA.a 1 z (moveI (.inl z) z) z (TA.b 2 z (sliceBsL (l := x0) (i := v6.length) z underlying9 z z (by omega) (by omega)) z (TA.a 3 z (moveStr (.inl z) z) z (TA.a 4 z (moveI (.inl z) z) z (TA.b 5 z (sliceBsL (l := x1) (i := v6.length) z underlying9 z z (by omega) (by omega)) z (TA.a 6 z (moveStr (.inr z) z) z (TA.a 7 z (moveStr (.inr z) z) z (TA.dn (S.n (TC.rt 0 ?_)))))))))))
 obtain rfl := so hh
 exact rq [4, 5] ⟨z, z, z⟩
noncomputable def Cy_ (x0 : Int) (x1 : Int) (x2 : List UInt8) (x3 : List UInt8) : Option (TLag) :=
 grd (x2.length ≤ 281474976710656) (grd (x3.length ≤ 281474976710656) (bnd (Dw_ x2 x3) (fun v4 => some (⟨x0, x1, v4.1, v4.2⟩ : TLag))))
theorem Fh_ {σ : Store} {x0 : Int} {x1 : Int} {x2 : List UInt8} {x3 : List UInt8}  {r : TLag} (hh : Cy_ x0 x1 x2 x3 = some r) :
  Con Tryz.prog 76 #[.int .i64 x0, .int .i64 x1, .string (bs x2), .string (bs x3)] σ [] (PureP (.agg #[.int .i64 r.p, .int .i64 r.q, .string (bs r.a), .string (bs r.b)]) σ) := by
 dsimp only [Cy_] at hh
 refine Con.mk (n := 22) Tryz.func76 z z z (fun w0 => ?_)
 have x2b := grd_c hh
 replace hh := grd_t hh
 have x3b := grd_c hh
 replace hh := grd_t hh
 refine TC.a (TL.op z (OpOk.alloc z ze72 z z (fun b101 => ?_)))
 refine TL.en (TC.a (TL.w z (moveStr (.inl z) z) (TL.w z (moveStr (.inl z) z) ?_)))
 obtain ⟨v4, u4, hh⟩ := bnd_e hh
 refine TL.op z (callP (G0_ u4) z z pf108 z z z ?_)
 refine TL.w z (moveT (.inl z) z) (TL.w z (OpVal.extract z z z) (TL.w z (OpVal.extract z z z) (TL.w z (moveStr (.inr z) z) (TL.w z (moveStr (.inr z) z) (TL.en (TC.a (TL.i z z (TL.i z z (TL.w z (moveStr (.inl z) z) (TL.w z (moveStr (.inl z) z) (TL.w z (buildL z pl72 ze72 z) (TL.op z (storeAll z sz72 z z z z z z ?_)))))))))))))
 refine TL.en (TC.ret ?_)
 obtain rfl := so hh
 exact ro [] z (RVs.agg ag72 sz72 z (i := 0) z z RVs.nil) ⟨z, z, z⟩
noncomputable def Ag_ (x0 : Fst) (k117 : Nat) (l129 : List TLag) (k132 : Nat) : Option (((List TLag) × Nat) ⊕ (((List TLag) × Nat) ⊕ ((List TLag)))) :=
 iteO (decide (((k132 : Nat) : Int) < ((x0.starts.length : Nat) : Int))) (bnd (Cy_ ((nth x0.starts k117 Tip.zero).state) ((nth x0.starts k132 Tip.zero).state) ((nth x0.starts k117 Tip.zero).out) ((nth x0.starts k132 Tip.zero).out)) (fun v41 => grd ((l129.length + [v41].length) * 48 ≤ 140737488355328) (nxt ((l129 ++ [v41]), (k132 + 1))))) (fin (nxt (l129, (k117 + 1))))
noncomputable def Be_ (x0 : Fst) (l114 : List TLag) (k117 : Nat) : Option (((List TLag) × Nat) ⊕ ((List TLag))) :=
 iteO (decide (((k117 : Nat) : Int) < ((x0.starts.length : Nat) : Int))) (iter (fun q : (List TLag) × Nat => Ag_ x0 k117 q.1 q.2) (l114, 0)) (fin (some l114))
noncomputable def Dl_ (x0 : Fst) : Option ((List TLag)) :=
 iter (fun q : (List TLag) × Nat => Be_ x0 q.1 q.2) (([] : List TLag), 0)
def Gq_ (σ : Store) (r : (List TLag)) : Value → Store → List Res → Prop := fun v σ' H' =>
 ∃ (a1 : Option Addr), ∃ (c1 : Nat),  v = .slice a1 r.length c1 ∧ σ = σ' ∧ H' = [Res.rowS 72 4 encLag (.slice a1 r.length c1) r]
theorem Gd_ {σ : Store} {x0 : Fst} {a0_0 : Option Addr} {c0_0 : Nat} {a0_1 : Option Addr} {c0_1 : Nat} {a0_2 : Option Addr} {c0_2 : Nat} (f0_0 : RS σ 2 encTip (.slice a0_0 x0.starts.length c0_0) x0.starts) (f0_1 : RS σ 2 encTip (.slice a0_1 x0.ends.length c0_1) x0.ends) (f0_2 : RS σ 8 encArc (.slice a0_2 x0.arcs.length c0_2) x0.arcs) {r : (List TLag)} (hh : Dl_ x0 = some r) :
  Con Tryz.prog 37 #[.agg #[.int .i64 x0.states, .slice a0_0 x0.starts.length c0_0, .slice a0_1 x0.ends.length c0_1, .slice a0_2 x0.arcs.length c0_2]] σ [] (Gq_ σ r) := by
 dsimp only [Dl_] at hh
 have f0_0b := f0_0.rv.big
 have f0_1b := f0_1.rv.big
 have f0_2b := f0_2.rv.big
 refine Con.mk (n := 49) Tryz.func37 z z z (fun w0 => ?_)
 refine TC.a (TL.op z (boxA z z z z (fun b101 => ?_)))
 refine TL.s z z (TL.en (TC.a (TL.s z z (TL.en (TC.seq (TC.a (TL.i z z (TL.en (TC.block (TC.nilS 72 4 encLag (TC.loopG (α := ((List TLag) × Nat) × ((Option Addr) × Nat)) (rgs [(3, 45)]) (fun g => [(3, .slice g.2.1 g.1.1.length g.2.2), (4, .int .i64 ((g.1.2 : Nat) : Int))]) (fun g => [Res.cells b101 #[.int .i64 x0.states, .slice a0_0 x0.starts.length c0_0, .slice a0_1 x0.ends.length c0_1, .slice a0_2 x0.arcs.length c0_2] 25, Res.rowS 72 4 encLag (.slice g.2.1 g.1.1.length g.2.2) g.1.1]) (fun g => σ) (fun g => iter (fun q : (List TLag) × Nat => Be_ x0 q.1 q.2) g.1 = some r) (fun g => rounds (fun q : (List TLag) × Nat => Be_ x0 q.1 q.2) g.1) ((([] : List TLag), 0), (none, 0)) (Sub.f [1] 2) z (by repeat (first | exact trivial | refine ⟨z, ?_⟩)) hh (fun g1 j1 hg1 => ?_))))))))))))
 obtain ⟨⟨l114, k117⟩, ⟨a115, c116⟩⟩ := g1
 have hh := hg1; clear hg1
 try dsimp only
 obtain ⟨z1, hh, hR1⟩ := iter_e hh
 dsimp only [Be_] at hh
 refine TC.isSl (i := 1) z (fun _ hb119 _ => ?_)
 refine TC.seq (TC.a (TL.i z z (TL.w z (fieldLoc z fo25_1 z) (TL.w z (loadLoc z ag22 z (i := 0) z z) (TL.w z (lenC z underlying22 z) (TL.w z (OpVal.lss z z z) (TL.en (TC.cD z hh (fun h120 hh => ?_) (fun h120 hh => ?_)))))))))
 ·refine TC.skip (S.n (TC.seq (TC.block (TC.a (TL.i z z (TL.en (TC.block (TC.loopG (α := ((List TLag) × Nat) × ((Option Addr) × Nat)) (rgs [(3, 1), (5, 1), (13, 35)]) (fun g => [(3, .slice g.2.1 g.1.1.length g.2.2), (5, .int .i64 ((g.1.2 : Nat) : Int))]) (fun g => [Res.cells b101 #[.int .i64 x0.states, .slice a0_0 x0.starts.length c0_0, .slice a0_1 x0.ends.length c0_1, .slice a0_2 x0.arcs.length c0_2] 25, Res.rowS 72 4 encLag (.slice g.2.1 g.1.1.length g.2.2) g.1.1]) (fun g => σ) (fun g => iter (fun q : (List TLag) × Nat => Ag_ x0 k117 q.1 q.2) g.1 = some z1) (fun g => rounds (fun q : (List TLag) × Nat => Ag_ x0 k117 q.1 q.2) g.1) ((l114, 0), (a115, c116)) (Sub.f [1, 1] 2) z (by repeat (first | exact trivial | refine ⟨z, ?_⟩)) hh (fun g2 j2 hg2 => ?_)))))))))
  obtain ⟨⟨l129, k132⟩, ⟨a130, c131⟩⟩ := g2
  have hh := hg2; clear hg2
  try dsimp only
  obtain ⟨z2, hh, hR2⟩ := iter_e hh
  dsimp only [Ag_] at hh
  refine TC.isSl (i := 1) z (fun _ hb133 _ => ?_)
  refine TC.seq (TC.a (TL.i z z (TL.w z (fieldLoc z fo25_1 z) (TL.w z (loadLoc z ag22 z (i := 0) z z) (TL.w z (lenC z underlying22 z) (TL.w z (OpVal.lss z z z) (TL.en (TC.cD z hh (fun h134 hh => ?_) (fun h134 hh => ?_)))))))))
  ·refine TC.skip (S.n (TC.seq (TC.block ?_)))
   obtain ⟨v41, u41, hh⟩ := bnd_e hh
   have u43 := grd_c hh
   replace hh := grd_t hh
   refine TC.draw [27, 28] (by kernel_rfl) (TA.a 0 z (moveSl (.inl z) z) z (TA.a 1 z (fieldLoc z fo25_1 z) z (TA.b 2 z (loadLoc z ag22 z (i := 0) z z) z (TA.a 3 z (moveI (.inl z) z) z (TA.b 4 z (indexN z underlying22 sz53 z z f0_0.rv.sl (by omega)) z (TA.a 5 z (fieldElem z fo53_0 z f0_0.rv.sl (by omega)) z (TA.b 6 z (loadS Tip.zero z ag3 z f0_0 (by omega) (by omega) z) z (TA.a 7 z (fieldLoc z fo25_1 z) z (TA.b 8 z (loadLoc z ag22 z (i := 0) z z) z (TA.a 9 z (moveI (.inl z) z) z (TA.b 10 z (indexN z underlying22 sz53 z z f0_0.rv.sl (by omega)) z (TA.a 11 z (fieldElem z fo53_0 z f0_0.rv.sl (by omega)) z (TA.b 12 z (loadS Tip.zero z ag3 z f0_0 (by omega) (by omega) z) z (TA.a 13 z (fieldLoc z fo25_1 z) z (TA.b 14 z (loadLoc z ag22 z (i := 0) z z) z (TA.a 15 z (moveI (.inl z) z) z (TA.b 16 z (indexN z underlying22 sz53 z z f0_0.rv.sl (by omega)) z (TA.a 17 z (fieldElem z fo53_1 z f0_0.rv.sl (by omega)) z (TA.b 18 z (loadS Tip.zero z ag9 z f0_0 (by omega) (by omega) z) z (TA.a 19 z (fieldLoc z fo25_1 z) z (TA.b 20 z (loadLoc z ag22 z (i := 0) z z) z (TA.a 21 z (moveI (.inl z) z) z (TA.b 22 z (indexN z underlying22 sz53 z z f0_0.rv.sl (by omega)) z (TA.a 23 z (fieldElem z fo53_1 z f0_0.rv.sl (by omega)) z (TA.b 24 z (loadS Tip.zero z ag9 z f0_0 (by omega) (by omega) z) z (TA.ac 25 z (callP (Fh_ u41) z z pf76 z z z (k0 ?_))))))))))))))))))))))))))))
   refine TA.ac 26 z (OpOk.lit (enc := encLag) [v41] z underlying69 sz72 ze72 z z z encLag_len (by decide) (by decide) TLag.zero z (by decide) z (by decide) encLag_one (fun a140 c141 => (k1 ?_)))
   refine TA.front 2 z z (TA.last 27 (by kernel_rfl) z z z (appendS z z underlying69 sz72 by72 ze72 z z (by decide) z z z (.inr ⟨_, 0, z⟩) (by simpa using u43) (by decide) (fun a143 c144 => ?_)))
   refine TZ.v 28 (by kernel_rfl) z z z (moveSl (.inr z) z) z z (TZ.done (by kernel_rfl) (B.n (S.n (TC.region (TL.i z z (TL.w z (OpVal.succ z z z (by omega)) (TL.i z z (TL.en ?_))))))))
   obtain ⟨hh, hlt145⟩ := nxt_x hR2 hh
   exact lf (((l129 ++ [v41]), (k132 + 1)), (a143, c144)) hlt145 hh (Sub.f [2] 2)
  ·refine TC.exit (S.x (S.x ?_))
   replace hh := fin_x hR2 hh
   refine TC.exitHere (B.n (S.n (TC.region (TL.i z z (TL.w z (OpVal.succ z z z (by omega)) (TL.i z z (TL.en ?_)))))))
   obtain ⟨hh, hlt146⟩ := nxt_x hR1 hh
   exact lf ((l129, (k117 + 1)), (a130, c131)) hlt146 hh (Sub.f [1, 1] 2)
 ·refine TC.exit (S.x (S.x ?_))
  replace hh := fin_x hR1 hh
  refine TC.exitHere (S.n (TC.a (TL.s z z (TL.s z z (TL.en (TC.ofSub (Sub.f [1] 1) (TC.ret ?_)))))))
  obtain rfl := so hh
  exact ro [Res.rowS 72 4 encLag (.slice a115 l114.length c116) l114] z (RVs.tmp z RVs.nil) ⟨a115, c116, z, z, z⟩
noncomputable def C7_ (x0 : Fst) (k119 : Nat) (k136 : Nat) (s169 : List UInt8) (l163 : List TLag) (k166 : Nat) (s173 : List UInt8) : Option (((List TLag) × Nat) ⊕ (((List TLag) × Nat) ⊕ (((List TLag) × Nat) ⊕ ((List TLag))))) :=
 bnd (Cy_ ((nth x0.arcs k119 Arc.zero).to) ((nth x0.arcs k136 Arc.zero).to) s169 s173) (fun v96 => grd ((l163.length + [v96].length) * 48 ≤ 140737488355328) (nxt ((l163 ++ [v96]), (k166 + 1))))
noncomputable def Dd_ (x0 : Fst) (k136 : Nat) (k166 : Nat) (v48 : (List UInt8)) (x1 : TLag) (k119 : Nat) (l163 : List TLag) (s169 : List UInt8) : Option (((List TLag) × Nat) ⊕ (((List TLag) × Nat) ⊕ (((List TLag) × Nat) ⊕ ((List TLag))))) :=
 iteO ((nth x0.arcs k136 Arc.zero).copy) (grd (k166 ≤ (k166 + 1) ∧ (k166 + 1) ≤ v48.length) (grd ((x1.b ++ (nth x0.arcs k136 Arc.zero).out).length + ((v48.take (k166 + 1)).drop k166).length ≤ 9223372036854775807) (C7_ x0 k119 k136 s169 l163 k166 ((x1.b ++ (nth x0.arcs k136 Arc.zero).out) ++ ((v48.take (k166 + 1)).drop k166))))) (C7_ x0 k119 k136 s169 l163 k166 (x1.b ++ (nth x0.arcs k136 Arc.zero).out))
noncomputable def Ci_ (k136 : Nat) (l141 : List TLag) : Option (((List TLag) × Nat) ⊕ (((List TLag) × Nat) ⊕ ((List TLag)))) :=
 nxt (l141, (k136 + 1))
noncomputable def Ar_ (v48 : (List UInt8)) (x1 : TLag) (x0 : Fst) (k119 : Nat) (k136 : Nat) (l163 : List TLag) (k166 : Nat) : Option (((List TLag) × Nat) ⊕ (((List TLag) × Nat) ⊕ (((List TLag) × Nat) ⊕ ((List TLag))))) :=
 iteO (decide (((k166 : Nat) : Int) < ((v48.length : Nat) : Int))) (grd (x1.a.length + ((nth x0.arcs k119 Arc.zero).out).length ≤ 9223372036854775807) (grd (x1.b.length + ((nth x0.arcs k136 Arc.zero).out).length ≤ 9223372036854775807) (iteO ((nth x0.arcs k119 Arc.zero).copy) (grd (k166 ≤ (k166 + 1) ∧ (k166 + 1) ≤ v48.length) (grd ((x1.a ++ (nth x0.arcs k119 Arc.zero).out).length + ((v48.take (k166 + 1)).drop k166).length ≤ 9223372036854775807) (Dd_ x0 k136 k166 v48 x1 k119 l163 ((x1.a ++ (nth x0.arcs k119 Arc.zero).out) ++ ((v48.take (k166 + 1)).drop k166))))) (Dd_ x0 k136 k166 v48 x1 k119 l163 (x1.a ++ (nth x0.arcs k119 Arc.zero).out))))) (fin (Ci_ k136 l163))
noncomputable def As_ (x0 : Fst) (k119 : Nat) (x1 : TLag) (l133 : List TLag) (k136 : Nat) : Option (((List TLag) × Nat) ⊕ (((List TLag) × Nat) ⊕ ((List TLag)))) :=
 iteO (decide (((k136 : Nat) : Int) < ((x0.arcs.length : Nat) : Int))) (iteO (decide (((nth x0.arcs k119 Arc.zero).frm) ≠ x1.p)) (Ci_ k136 l133) (iteO (decide (((nth x0.arcs k136 Arc.zero).frm) ≠ x1.q)) (Ci_ k136 l133) (bnd (Do_ ((nth x0.arcs k119 Arc.zero).set) ((nth x0.arcs k136 Arc.zero).set) 0) (fun v47 => bnd (Ce_ v47) (fun v48 => iter (fun q : (List TLag) × Nat => Ar_ v48 x1 x0 k119 k136 q.1 q.2) (l133, 0)))))) (fin (nxt (l133, (k119 + 1))))
noncomputable def Bq_ (x0 : Fst) (x1 : TLag) (l116 : List TLag) (k119 : Nat) : Option (((List TLag) × Nat) ⊕ ((List TLag))) :=
 iteO (decide (((k119 : Nat) : Int) < ((x0.arcs.length : Nat) : Int))) (iter (fun q : (List TLag) × Nat => As_ x0 k119 x1 q.1 q.2) (l116, 0)) (fin (some l116))
noncomputable def Du_ (x0 : Fst) (x1 : TLag) : Option ((List TLag)) :=
 iter (fun q : (List TLag) × Nat => Bq_ x0 x1 q.1 q.2) (([] : List TLag), 0)
def G9_ (σ : Store) (r : (List TLag)) : Value → Store → List Res → Prop := fun v σ' H' =>
 ∃ (a1 : Option Addr), ∃ (c1 : Nat),  v = .slice a1 r.length c1 ∧ σ = σ' ∧ H' = [Res.rowS 72 4 encLag (.slice a1 r.length c1) r]
theorem Gr_ {σ : Store} {x0 : Fst} {a0_0 : Option Addr} {c0_0 : Nat} {a0_1 : Option Addr} {c0_1 : Nat} {a0_2 : Option Addr} {c0_2 : Nat} {x1 : TLag} (f0_0 : RS σ 2 encTip (.slice a0_0 x0.starts.length c0_0) x0.starts) (f0_1 : RS σ 2 encTip (.slice a0_1 x0.ends.length c0_1) x0.ends) (f0_2 : RS σ 8 encArc (.slice a0_2 x0.arcs.length c0_2) x0.arcs) {r : (List TLag)} (hh : Du_ x0 x1 = some r) :
  Con Tryz.prog 38 #[.agg #[.int .i64 x0.states, .slice a0_0 x0.starts.length c0_0, .slice a0_1 x0.ends.length c0_1, .slice a0_2 x0.arcs.length c0_2], .agg #[.int .i64 x1.p, .int .i64 x1.q, .string (bs x1.a), .string (bs x1.b)]] σ [] (G9_ σ r) := by
 dsimp only [Du_] at hh
 have f0_0b := f0_0.rv.big
 have f0_1b := f0_1.rv.big
 have f0_2b := f0_2.rv.big
 refine Con.mk (n := 103) Tryz.func38 z z z (fun w0 => ?_)
 refine TC.a (TL.op z (boxA z z z z (fun b101 => ?_)))
 refine TL.op z (boxA z z z z (fun b103 => ?_))
 refine TL.s z z (TL.en (TC.a (TL.s z z (TL.en (TC.seq (TC.a (TL.i z z (TL.en (TC.block (TC.nilS 72 4 encLag (TC.loopG (α := ((List TLag) × Nat) × ((Option Addr) × Nat × Store)) (rgs [(5, 97)]) (fun g => [(5, .slice g.2.1 g.1.1.length g.2.2.1), (6, .int .i64 ((g.1.2 : Nat) : Int))]) (fun g => [Res.cells b101 #[.int .i64 x0.states, .slice a0_0 x0.starts.length c0_0, .slice a0_1 x0.ends.length c0_1, .slice a0_2 x0.arcs.length c0_2] 25, Res.cells b103 #[.int .i64 x1.p, .int .i64 x1.q, .string (bs x1.a), .string (bs x1.b)] 72, Res.rowS 72 4 encLag (.slice g.2.1 g.1.1.length g.2.2.1) g.1.1]) (fun g => g.2.2.2) (fun g => iter (fun q : (List TLag) × Nat => Bq_ x0 x1 q.1 q.2) g.1 = some r ∧ Store.le σ g.2.2.2) (fun g => rounds (fun q : (List TLag) × Nat => Bq_ x0 x1 q.1 q.2) g.1) ((([] : List TLag), 0), (none, 0, σ)) (Sub.f [1, 2] 3) z (by repeat (first | exact trivial | refine ⟨z, ?_⟩)) ⟨hh, (Store.le.refl _)⟩ (fun g1 j1 hg1 => ?_))))))))))))
 obtain ⟨⟨l116, k119⟩, ⟨a117, c118, τ121⟩⟩ := g1
 obtain ⟨hh, hle122⟩ := hg1
 dsimp only at hle122
 replace f0_2 := f0_2.mono hle122
 try dsimp only
 obtain ⟨z1, hh, hR1⟩ := iter_e hh
 dsimp only [Bq_] at hh
 refine TC.isSl (i := 2) z (fun _ hb123 _ => ?_)
 refine TC.seq (TC.a (TL.i z z (TL.w z (fieldLoc z fo25_3 z) (TL.w z (loadLoc z ag23 z (i := 0) z z) (TL.w z (lenC z underlying23 z) (TL.w z (OpVal.lss z z z) (TL.en (TC.cD z hh (fun h124 hh => ?_) (fun h124 hh => ?_)))))))))
 ·refine TC.skip (S.n (TC.seq (TC.block (TC.a (TL.i z z (TL.en (TC.block (TC.loopG (α := ((List TLag) × Nat) × ((Option Addr) × Nat × Store)) (rgs [(5, 1), (7, 7), (21, 81)]) (fun g => [(5, .slice g.2.1 g.1.1.length g.2.2.1), (7, .int .i64 ((g.1.2 : Nat) : Int))]) (fun g => [Res.cells b101 #[.int .i64 x0.states, .slice a0_0 x0.starts.length c0_0, .slice a0_1 x0.ends.length c0_1, .slice a0_2 x0.arcs.length c0_2] 25, Res.cells b103 #[.int .i64 x1.p, .int .i64 x1.q, .string (bs x1.a), .string (bs x1.b)] 72, Res.rowS 72 4 encLag (.slice g.2.1 g.1.1.length g.2.2.1) g.1.1]) (fun g => g.2.2.2) (fun g => iter (fun q : (List TLag) × Nat => As_ x0 k119 x1 q.1 q.2) g.1 = some z1 ∧ Store.le τ121 g.2.2.2) (fun g => rounds (fun q : (List TLag) × Nat => As_ x0 k119 x1 q.1 q.2) g.1) ((l116, 0), (a117, c118, τ121)) (Sub.f [2, 2, 2] 3) z (by repeat (first | exact trivial | refine ⟨z, ?_⟩)) ⟨hh, (Store.le.refl _)⟩ (fun g2 j2 hg2 => ?_)))))))))
  obtain ⟨⟨l133, k136⟩, ⟨a134, c135, τ137⟩⟩ := g2
  obtain ⟨hh, hle138⟩ := hg2
  dsimp only at hle138
  replace f0_2 := f0_2.mono hle138
  try dsimp only
  obtain ⟨z2, hh, hR2⟩ := iter_e hh
  dsimp only [As_] at hh
  refine TC.isSl (i := 2) z (fun _ hb139 _ => ?_)
  refine TC.seq (TC.a (TL.i z z (TL.w z (fieldLoc z fo25_3 z) (TL.w z (loadLoc z ag23 z (i := 0) z z) (TL.w z (lenC z underlying23 z) (TL.w z (OpVal.lss z z z) (TL.en (TC.cD z hh (fun h140 hh => ?_) (fun h140 hh => ?_)))))))))
  ·refine TC.skip (S.n (TC.cutG (α := ((List TLag)) × ((Option Addr) × Nat × Store)) (rgs [(5, 1), (8, 6), (28, 74)]) (fun g => [(5, .slice g.2.1 g.1.length g.2.2.1)]) (fun g => [Res.cells b101 #[.int .i64 x0.states, .slice a0_0 x0.starts.length c0_0, .slice a0_1 x0.ends.length c0_1, .slice a0_2 x0.arcs.length c0_2] 25, Res.cells b103 #[.int .i64 x1.p, .int .i64 x1.q, .string (bs x1.a), .string (bs x1.b)] 72, Res.rowS 72 4 encLag (.slice g.2.1 g.1.length g.2.2.1) g.1]) (fun g => g.2.2.2) (fun g => Ci_ k136 g.1 = some z2 ∧ Store.le τ137 g.2.2.2) ?_ (fun g j hg => ?_)))
   ·skip
    refine TC.block (TC.a (TL.w z (fieldLoc z fo25_3 z) (TL.w z (loadLoc z ag23 z (i := 0) z z) (TL.i z z (TL.w z (indexN z underlying23 sz66 z z f0_2.rv.sl (by omega)) (TL.w z (loadSA Arc.zero z ag66 sz66 z f0_2 (by omega) (by omega)) (TL.op z (OpOk.alloc z ze66 z z (fun b144 => ?_)))))))))
    refine TL.op z (storeAll z sz66 z z z z z z ?_)
    refine TL.en (TC.a (TL.w z (fieldLoc z fo25_3 z) (TL.w z (loadLoc z ag23 z (i := 1) z z) (TL.i z z (TL.w z (indexN z underlying23 sz66 z z f0_2.rv.sl (by omega)) (TL.w z (loadSA Arc.zero z ag66 sz66 z f0_2 (by omega) (by omega)) (TL.op z (OpOk.alloc z ze66 z z (fun b146 => ?_)))))))))
    refine TL.op z (storeAll z sz66 z z z z z z ?_)
    refine TL.en (TC.seq (TC.a (TL.w z (fieldLoc z fo66_0 z) (TL.w z (loadLoc z ag3 z (i := 1) z z) (TL.w z (fieldLoc z fo72_0 z) (TL.w z (loadLoc z ag3 z (i := 3) z z) (TL.w z (OpVal.neq z z z) (TL.j z z (TL.split 43 z (fun h148 => ?_) (fun h148 => ?_))))))))))
    ·replace hh := iteO_t h148 hh
     replace h148 := of_decide_eq_true h148
     exact TL.f z (TL.f z (TL.f z (TL.f z (TL.f z (TL.w z (pickTB z z z) (TL.en (TC.t z (TC.exit (S.x (TC.exitHere (S.n (cf (l133, (a134, c135, τ137)) ⟨hh, (Store.le.refl _)⟩ (Sub.f [4, 4, 4] 3)))))))))))))
    ·replace hh := iteO_f h148 hh
     replace h148 := of_decide_eq_false h148
     refine TL.g z (fieldLoc z fo66_0 z) (TL.g z (loadLoc z ag3 z (i := 0) z z) (TL.g z (fieldLoc z fo72_1 z) (TL.g z (loadLoc z ag3 z (i := 3) z z) (TL.g z (OpVal.neq z z z) (TL.w z (pickFB z z z) (TL.en (TC.cD z hh (fun h149 hh => ?_) (fun h149 hh => ?_))))))))
     ·exact TC.exit (S.x (TC.exitHere (S.n (cf (l133, (a134, c135, τ137)) ⟨hh, (Store.le.refl _)⟩ (Sub.f [4, 4, 4] 3)))))
     ·refine TC.skip (S.n (TC.a (TL.w z (fieldLoc z fo66_2 z) (TL.w z (loadLocA z ag64 sz64 z (i := 1) z z z) (TL.w z (fieldLoc z fo66_2 z) (TL.w z (loadLocA z ag64 sz64 z (i := 0) z z z) ?_))))))
      obtain ⟨v47, u47, hh⟩ := bnd_e hh
      refine TL.op z (callP (Fs_ u47) z z pf75 z z z ?_)
      obtain ⟨v48, u48, hh⟩ := bnd_e hh
      refine TL.op z (OpOk.call (E9_ u48) z z pf34 z z z z ?_)
      rintro _ _ _ hle150 ⟨a150_1, c150_1, rfl, rfl, rfl⟩
      refine TL.s z z (TL.sealS encU8_len (fun τ154 hle153 hr152 => ?_))
      have hr152b := hr152.rv.big
      refine TL.en (TC.a (TL.i z z (TL.en (TC.block (TC.loopG (α := ((List TLag) × Nat) × ((Option Addr) × Nat)) (rgs [(5, 1), (11, 3), (56, 46)]) (fun g => [(5, .slice g.2.1 g.1.1.length g.2.2), (11, .int .i64 ((g.1.2 : Nat) : Int))]) (fun g => [Res.cells b101 #[.int .i64 x0.states, .slice a0_0 x0.starts.length c0_0, .slice a0_1 x0.ends.length c0_1, .slice a0_2 x0.arcs.length c0_2] 25, Res.cells b103 #[.int .i64 x1.p, .int .i64 x1.q, .string (bs x1.a), .string (bs x1.b)] 72, Res.rowS 72 4 encLag (.slice g.2.1 g.1.1.length g.2.2) g.1.1, Res.cells b144 #[.int .i64 ((nth x0.arcs k119 Arc.zero).frm), .int .i64 ((nth x0.arcs k119 Arc.zero).to), .int .u64 ((((nth x0.arcs k119 Arc.zero).set).a : Nat) : Int), .int .u64 ((((nth x0.arcs k119 Arc.zero).set).b : Nat) : Int), .int .u64 ((((nth x0.arcs k119 Arc.zero).set).c : Nat) : Int), .int .u64 ((((nth x0.arcs k119 Arc.zero).set).d : Nat) : Int), .string (bs ((nth x0.arcs k119 Arc.zero).out)), .bool ((nth x0.arcs k119 Arc.zero).copy)] 66, Res.cells b146 #[.int .i64 ((nth x0.arcs k136 Arc.zero).frm), .int .i64 ((nth x0.arcs k136 Arc.zero).to), .int .u64 ((((nth x0.arcs k136 Arc.zero).set).a : Nat) : Int), .int .u64 ((((nth x0.arcs k136 Arc.zero).set).b : Nat) : Int), .int .u64 ((((nth x0.arcs k136 Arc.zero).set).c : Nat) : Int), .int .u64 ((((nth x0.arcs k136 Arc.zero).set).d : Nat) : Int), .string (bs ((nth x0.arcs k136 Arc.zero).out)), .bool ((nth x0.arcs k136 Arc.zero).copy)] 66]) (fun g => τ154) (fun g => iter (fun q : (List TLag) × Nat => Ar_ v48 x1 x0 k119 k136 q.1 q.2) g.1 = some z2) (fun g => rounds (fun q : (List TLag) × Nat => Ar_ v48 x1 x0 k119 k136 q.1 q.2) g.1) ((l133, 0), (a134, c135)) (Sub.f [1, 4, 4, 4] 5) z (by repeat (first | exact trivial | refine ⟨z, ?_⟩)) hh (fun g3 j3 hg3 => ?_))))))
      obtain ⟨⟨l163, k166⟩, ⟨a164, c165⟩⟩ := g3
      have hh := hg3; clear hg3
      try dsimp only
      obtain ⟨z3, hh, hR3⟩ := iter_e hh
      dsimp only [Ar_] at hh
      refine TC.isSl (i := 2) z (fun _ hb167 _ => ?_)
      refine TC.seq (TC.a (TL.i z z (TL.s z z (TL.w z (lenC z underlying60 z) (TL.w z (OpVal.lss z z z) (TL.en (TC.cD z hh (fun h168 hh => ?_) (fun h168 hh => ?_))))))))
      ·refine TC.skip (S.n (TC.seq (TC.block (TC.a (TL.w z (fieldLoc z fo72_2 z) (TL.w z (loadLoc z ag9 z (i := 1) z z) (TL.w z (fieldLoc z fo66_3 z) (TL.w z (loadLoc z ag9 z (i := 3) z z) ?_))))))))
       have u59 := grd_c hh
       replace hh := grd_t hh
       refine TL.w z (catBs z z z u59) (TL.w z (moveStr (.inr z) z) (TL.en (TC.a (TL.w z (fieldLoc z fo72_3 z) (TL.w z (loadLoc z ag9 z (i := 1) z z) (TL.w z (fieldLoc z fo66_3 z) (TL.w z (loadLoc z ag9 z (i := 4) z z) ?_)))))))
       have u65 := grd_c hh
       replace hh := grd_t hh
       refine TL.w z (catBs z z z u65) (TL.w z (moveStr (.inr z) z) (TL.en (TC.cutG (α := ((List UInt8)) × (Unit)) (rgs [(12, 1), (72, 10)]) (fun g => [(12, .string (bs g.1))]) (fun g => [Res.cells b101 #[.int .i64 x0.states, .slice a0_0 x0.starts.length c0_0, .slice a0_1 x0.ends.length c0_1, .slice a0_2 x0.arcs.length c0_2] 25, Res.cells b103 #[.int .i64 x1.p, .int .i64 x1.q, .string (bs x1.a), .string (bs x1.b)] 72, Res.rowS 72 4 encLag (.slice a164 l163.length c165) l163, Res.cells b144 #[.int .i64 ((nth x0.arcs k119 Arc.zero).frm), .int .i64 ((nth x0.arcs k119 Arc.zero).to), .int .u64 ((((nth x0.arcs k119 Arc.zero).set).a : Nat) : Int), .int .u64 ((((nth x0.arcs k119 Arc.zero).set).b : Nat) : Int), .int .u64 ((((nth x0.arcs k119 Arc.zero).set).c : Nat) : Int), .int .u64 ((((nth x0.arcs k119 Arc.zero).set).d : Nat) : Int), .string (bs ((nth x0.arcs k119 Arc.zero).out)), .bool ((nth x0.arcs k119 Arc.zero).copy)] 66, Res.cells b146 #[.int .i64 ((nth x0.arcs k136 Arc.zero).frm), .int .i64 ((nth x0.arcs k136 Arc.zero).to), .int .u64 ((((nth x0.arcs k136 Arc.zero).set).a : Nat) : Int), .int .u64 ((((nth x0.arcs k136 Arc.zero).set).b : Nat) : Int), .int .u64 ((((nth x0.arcs k136 Arc.zero).set).c : Nat) : Int), .int .u64 ((((nth x0.arcs k136 Arc.zero).set).d : Nat) : Int), .string (bs ((nth x0.arcs k136 Arc.zero).out)), .bool ((nth x0.arcs k136 Arc.zero).copy)] 66]) (fun g => τ154) (fun g => Dd_ x0 k136 k166 v48 x1 k119 l163 g.1 = some z3) ?_ (fun g j hg => ?_))))
       ·skip
        refine TC.a (TL.w z (fieldLoc z fo66_4 z) (TL.w z (loadLoc z ag4 z (i := 3) z z) (TL.en (TC.cB z hh (fun h170 hh => ?_) (fun h170 hh => ?_)))))
        ·refine TC.region (TL.w z (moveStr (.inl z) z) (TL.s z z (TL.i z z (TL.i z z (TL.w z (OpVal.succ z z z (by omega)) ?_)))))
         have u74 := grd_c hh
         replace hh := grd_t hh
         obtain ⟨a171, c171, hr171, hv171⟩ := hr152.sub k166 (k166 + 1) (by omega)
         have hr171b := hr171.rv.big
         refine TL.w z (hv171 z underlying60 sz5 z z z) (TL.w z (bytesStr (l := ((v48.take (k166 + 1)).drop k166)) z underlying60 underlying5 underlying9 z hr171.rv.sl (fun w hw => rdb_RS hr171 hw)) ?_)
         have u76 := grd_c hh
         replace hh := grd_t hh
         exact TL.w z (catBs z z z u76) (TL.w z (moveStr (.inr z) z) (TL.en (cf (((x1.a ++ (nth x0.arcs k119 Arc.zero).out) ++ ((v48.take (k166 + 1)).drop k166)), ()) hh (Sub.f [4, 4, 4, 4, 4] 5))))
        ·exact TC.skip (S.n (cf ((x1.a ++ (nth x0.arcs k119 Arc.zero).out), ()) hh (Sub.f [4, 4, 4, 4, 4] 5)))
       ·skip
        obtain ⟨s169, _⟩ := g
        have hh := hg; clear hg
        try dsimp only
        dsimp only [Dd_] at hh
        refine TC.isSl (i := 2) z (fun _ hb172 _ => ?_)
        refine TC.cutG (α := ((List UInt8)) × (Unit)) (rgs [(13, 1), (82, 10)]) (fun g => [(13, .string (bs g.1))]) (fun g => [Res.cells b101 #[.int .i64 x0.states, .slice a0_0 x0.starts.length c0_0, .slice a0_1 x0.ends.length c0_1, .slice a0_2 x0.arcs.length c0_2] 25, Res.cells b103 #[.int .i64 x1.p, .int .i64 x1.q, .string (bs x1.a), .string (bs x1.b)] 72, Res.rowS 72 4 encLag (.slice a164 l163.length c165) l163, Res.cells b144 #[.int .i64 ((nth x0.arcs k119 Arc.zero).frm), .int .i64 ((nth x0.arcs k119 Arc.zero).to), .int .u64 ((((nth x0.arcs k119 Arc.zero).set).a : Nat) : Int), .int .u64 ((((nth x0.arcs k119 Arc.zero).set).b : Nat) : Int), .int .u64 ((((nth x0.arcs k119 Arc.zero).set).c : Nat) : Int), .int .u64 ((((nth x0.arcs k119 Arc.zero).set).d : Nat) : Int), .string (bs ((nth x0.arcs k119 Arc.zero).out)), .bool ((nth x0.arcs k119 Arc.zero).copy)] 66, Res.cells b146 #[.int .i64 ((nth x0.arcs k136 Arc.zero).frm), .int .i64 ((nth x0.arcs k136 Arc.zero).to), .int .u64 ((((nth x0.arcs k136 Arc.zero).set).a : Nat) : Int), .int .u64 ((((nth x0.arcs k136 Arc.zero).set).b : Nat) : Int), .int .u64 ((((nth x0.arcs k136 Arc.zero).set).c : Nat) : Int), .int .u64 ((((nth x0.arcs k136 Arc.zero).set).d : Nat) : Int), .string (bs ((nth x0.arcs k136 Arc.zero).out)), .bool ((nth x0.arcs k136 Arc.zero).copy)] 66]) (fun g => τ154) (fun g => C7_ x0 k119 k136 s169 l163 k166 g.1 = some z3) ?_ (fun g j hg => ?_)
        ·skip
         refine TC.a (TL.w z (fieldLoc z fo66_4 z) (TL.w z (loadLoc z ag4 z (i := 4) z z) (TL.en (TC.cB z hh (fun h174 hh => ?_) (fun h174 hh => ?_)))))
         ·refine TC.region (TL.w z (moveStr (.inl z) z) (TL.s z z (TL.i z z (TL.i z z (TL.w z (OpVal.succ z z z (by omega)) ?_)))))
          have u85 := grd_c hh
          replace hh := grd_t hh
          obtain ⟨a175, c175, hr175, hv175⟩ := hr152.sub k166 (k166 + 1) (by omega)
          have hr175b := hr175.rv.big
          refine TL.w z (hv175 z underlying60 sz5 z z z) (TL.w z (bytesStr (l := ((v48.take (k166 + 1)).drop k166)) z underlying60 underlying5 underlying9 z hr175.rv.sl (fun w hw => rdb_RS hr175 hw)) ?_)
          have u87 := grd_c hh
          replace hh := grd_t hh
          exact TL.w z (catBs z z z u87) (TL.w z (moveStr (.inr z) z) (TL.en (cf (((x1.b ++ (nth x0.arcs k136 Arc.zero).out) ++ ((v48.take (k166 + 1)).drop k166)), ()) hh (Sub.f [4, 4, 4, 4, 4] 5))))
         ·exact TC.skip (S.n (cf ((x1.b ++ (nth x0.arcs k136 Arc.zero).out), ()) hh (Sub.f [4, 4, 4, 4, 4] 5)))
        ·skip
         obtain ⟨s173, _⟩ := g
         have hh := hg; clear hg
         try dsimp only
         dsimp only [C7_] at hh
         refine TC.isSl (i := 2) z (fun _ hb176 _ => ?_)
         refine TC.region (TL.s z z (TL.w z (fieldLoc z fo66_1 z) (TL.w z (loadLoc z ag3 z (i := 3) z z) (TL.w z (fieldLoc z fo66_1 z) (TL.w z (loadLoc z ag3 z (i := 4) z z) (TL.w z (moveStr (.inl z) z) (TL.w z (moveStr (.inl z) z) ?_)))))))
         obtain ⟨v96, u96, hh⟩ := bnd_e hh
         refine TL.op z (callP (Fh_ u96) z z pf76 z z z ?_)
         refine TL.op z (OpOk.lit (enc := encLag) [v96] z underlying69 sz72 ze72 z z z encLag_len (by decide) (by decide) TLag.zero z (by decide) z (by decide) encLag_one (fun a177 c178 => ?_))
         refine TL.front 3 z z ?_
         have u98 := grd_c hh
         replace hh := grd_t hh
         refine TL.op z (appendS z z underlying69 sz72 by72 ze72 z z (by decide) z z z (.inr ⟨_, 0, z⟩) (by simpa using u98) (by decide) (fun a180 c181 => ?_))
         refine TL.s z z (TL.nil (B.n (S.n (TC.region (TL.i z z (TL.w z (OpVal.succ z z z (by omega)) (TL.i z z (TL.en ?_))))))))
         obtain ⟨hh, hlt182⟩ := nxt_x hR3 hh
         exact lf (((l163 ++ [v96]), (k166 + 1)), (a180, c181)) hlt182 hh (Sub.f [5, 5, 2, 5, 5] 5)
      ·refine TC.exit (S.x (S.x ?_))
       replace hh := fin_x hR3 hh
       exact TC.exitHere (B.n (S.n (cf (l163, (a164, c165, τ154)) ⟨hh, hle153⟩ (Sub.f [2, 2, 2] 3))))
   ·skip
    obtain ⟨l141, ⟨a142, c143, τ183⟩⟩ := g
    obtain ⟨hh, hle184⟩ := hg
    try dsimp only at hle184 ⊢
    dsimp only [Ci_] at hh
    refine TC.isSl (i := 2) z (fun _ hb185 _ => ?_)
    refine TC.region (TL.i z z (TL.w z (OpVal.succ z z z (by omega)) (TL.i z z (TL.en ?_))))
    obtain ⟨hh, hlt186⟩ := nxt_x hR2 hh
    exact lf ((l141, (k136 + 1)), (a142, c143, τ183)) hlt186 ⟨hh, (hle138.trans hle184)⟩ (Sub.f [2, 2, 2] 3)
  ·refine TC.exit (S.x (S.x ?_))
   replace hh := fin_x hR2 hh
   refine TC.exitHere (B.n (S.n (TC.region (TL.i z z (TL.w z (OpVal.succ z z z (by omega)) (TL.i z z (TL.en ?_)))))))
   obtain ⟨hh, hlt187⟩ := nxt_x hR1 hh
   exact lf ((l133, (k119 + 1)), (a134, c135, τ137)) hlt187 ⟨hh, (hle122.trans hle138)⟩ (Sub.f [2, 2, 2] 3)
 ·refine TC.exit (S.x (S.x ?_))
  replace hh := fin_x hR1 hh
  refine TC.exitHere (S.n (TC.a (TL.s z z (TL.s z z (TL.en (TC.ofSub (Sub.f [2] 1) (TC.back (TC.ret ?_))))))))
  obtain rfl := so hh
  exact ro [Res.rowS 72 4 encLag (.slice a117 l116.length c118) l116] z (RVs.tmp z RVs.nil) ⟨a117, c118, z, z, z⟩
end Go.Proofs.YtjhbngjhdmapmaaGreatDoor
end

section
namespace Go.E
open Go
section
variable {β : Type} {E' E size : Nat} {enc : β → List Value} {v : Value}
theorem Zn.one (l : List β) (p : Option Addr × Nat) : Zn [(l, p)] [l] := rfl
theorem Zn.app {z y : List (NP β)} {l k : List (List β)} (h : Zn z l) (h2 : Zn y k) : Zn (z ++ y) (l ++ k) := by
  unfold Zn at *; rw [List.map_append, h, h2]
theorem Reach.nilNest {w0 : World} {C : List Nat} {σ0 σ : Store} {w : World} {F : List Res} (E' E size : Nat) (enc : β → List Value) (h : Reach w0 C σ0 σ w F) : Reach w0 C σ0 σ w (Res.nest E' E size enc (.slice none 0 0) [] :: F) :=
  Reach.star (G := [_]) (h.nilRow E' 1)
variable {X : Ctx} {e : Env} {σ : Store} {H F : List Res} {o : Oper} {x y : Operand} {K : Env → Store → List Res → Prop} {z u : List (NP β)} {l k : List (List β)}
theorem OpOk.buildN {T d : Nat} {parts : Array (Nat × Operand)} {zv : Value} {a : Option Addr} {m c : Nat} {l' : List β} (hm : l'.length = m) (ho : o.op = .buildSlice T 1 parts) (ht : X.P.underlying T = some (.slice E')) (hs : szOf X.P E' = some 1) (hz : zeroOf X.P E' = some zv) (hd : o.dst = some d) (hn : Nat.blt d X.n = true)
    (hz0 : zv.cells.toList = [.slice none 0 0]) (hf : fillL (fun i => some (i * 1, 1)) [.slice none 0 0] (parts.toList.map fun x => (x.1, ev e x.2)) = some [.slice a m c])
    (kk : ∀ a1 c1, Zn [(l', (a, c))] [l'] → K (upd e d (.slice a1 ([l'] : List (List β)).length c1)) σ (Res.nest E' E size enc (.slice a1 ([l'] : List (List β)).length c1) [(l', (a, c))] :: F)) : OpOk X o e σ (Res.rowS E size enc (.slice a m c) l' :: F) K := by
  subst hm
  refine OpOk.then (OpOk.lit (enc := (encN : NP β → List Value)) (K := fun e' σ' G => ∃ a1 c1, e' = upd e d (.slice a1 1 c1) ∧ σ' = σ ∧ G = Res.rowS E' 1 encN (.slice a1 1 c1) [(l', (a, c))] :: Res.rowS E size enc (.slice a l'.length c) l' :: F) [(l', (a, c))] ho ht hs hz hd hn rfl encN_len (by decide) (by decide) nilN hz0 (by decide) hf (by decide) encN_one fun a1 c1 => ⟨a1, c1, rfl, rfl, rfl⟩) ?_
  rintro e' σ' G ⟨a1, c1, rfl, rfl, rfl⟩
  exact ⟨_, fun w h => Reach.star (G := [Res.rowS E' 1 encN (.slice a1 1 c1) [(l', (a, c))], innerR E size enc (l', (a, c))]) h, kk a1 c1 (Zn.one l' (a, c))⟩
theorem OpOk.appendN {T d by_ : Nat} {zv w : Value} {ty : TypeId} (ho : o.op = .call { callee := .builtin .append, args := #[x, y], argTypes := #[T, ty] }) (hty : ty = T) (ht : X.P.underlying T = some (.slice E')) (hs : szOf X.P E' = some 1) (hby : byOf X.P E' = some by_) (hz : zeroOf X.P E' = some zv)
    (hd : o.dst = some d) (hn : Nat.blt d X.n = true) (hzs : zv.cells.size = 1) (hx : ev e x = v) (hy : ev e y = w) (hZ : Zn z l) (hU : Zn u k) (hb0 : (l.length + k.length) * by_ ≤ 140737488355328) (hby0 : 0 < by_)
    (kk : ∀ a c, Zn (z ++ u) (l ++ k) → K (upd e d (.slice a (l ++ k).length c)) σ (Res.nest E' E size enc (.slice a (l ++ k).length c) (z ++ u) :: F)) : OpOk X o e σ (Res.nest E' E size enc v z :: Res.nest E' E size enc w u :: F) K := by
  refine OpOk.by (H' := Res.rowS E' 1 encN v z :: Res.rowS E' 1 encN w u :: (inner E size enc z ++ (inner E size enc u ++ F))) (fun w' h => ?_) ?_
  · have h1 := h.unstar
    have h2 : Reach _ _ _ _ _ (Res.nest E' E size enc w u :: (Res.rowS E' 1 encN v z :: inner E size enc z ++ F)) := h1.perm (by
      simp only [List.cons_append]
      exact (List.perm_middle (l₁ := Res.rowS E' 1 encN v z :: inner E size enc z)).symm)
    have h3 := h2.unstar
    refine h3.perm ?_
    simp only [List.cons_append]
    refine List.Perm.trans (List.Perm.swap _ _ _) (List.Perm.cons _ ?_)
    refine List.Perm.symm ((List.perm_middle (l₁ := inner E size enc u)).trans (List.Perm.cons _ ?_))
    rw [← List.append_assoc, ← List.append_assoc]
    exact (List.perm_append_comm).append_right F
  · refine OpOk.then (OpOk.appendS (enc := (encN : NP β → List Value)) (K := fun e' σ' G => ∃ a c, e' = upd e d (.slice a (z ++ u).length c) ∧ σ' = σ ∧ G = Res.rowS E' 1 encN (.slice a (z ++ u).length c) (z ++ u) :: Res.rowS E' 1 encN w u :: (inner E size enc z ++ (inner E size enc u ++ F))) ho hty ht hs hby hz hd hn (by decide) hzs hx hy (.inr ⟨_, 0, rfl⟩) (by rw [hZ.len, hU.len]; exact hb0) hby0 fun a c => ⟨a, c, rfl, rfl, rfl⟩) ?_
    rintro e' σ' G ⟨a, c, rfl, rfl, rfl⟩
    have hl : (z ++ u).length = (l ++ k).length := by rw [List.length_append, List.length_append, hZ.len, hU.len]
    rw [hl]
    refine ⟨_, fun w' h => Reach.star ?_, kk a c (hZ.app hU)⟩
    have h1 := h.sub (H' := Res.rowS E' 1 encN (.slice a (l ++ k).length c) (z ++ u) :: (inner E size enc z ++ (inner E size enc u ++ F))) (List.Sublist.cons_cons _ (List.sublist_cons_self _ _))
    have e1 : inner E size enc (z ++ u) = inner E size enc z ++ inner E size enc u := List.map_append
    rw [e1]
    simpa only [List.cons_append, List.append_assoc] using h1
end
end Go.E
end

section
namespace Go.Proofs.YtjhbngjhdmapmaaGreatDoor
open Go Go.E Go.E.OpVal Go.E.OpOk Go.Proofs.Tryz
private theorem ag25 : Go.E.aggOf Tryz.prog 25 = some true := by kernel_rfl
private theorem ag46 : Go.E.aggOf Tryz.prog 46 = some false := by kernel_rfl
private theorem by46 : Go.E.byOf Tryz.prog 46 = some 24 := by kernel_rfl
private theorem eg72 : Tryz.prog.eqGuardType Tryz.prog.depth 72 = false := by kernel_rfl
private theorem es72 (x y : TLag) : Go.E.EqAt Tryz.prog 2 72 (.agg (Go.E.encLag x).toArray) (.agg (Go.E.encLag y).toArray) (decide (x = y)) :=
 (EqAt.struct (ts := [(false, 3, 0), (false, 3, 1), (false, 9, 2), (false, 9, 3)]) (by kernel_rfl) (by kernel_rfl) (by kernel_rfl) (EqC.one (by kernel_rfl) rfl rfl (EqAt.int underlying3 x.p y.p) (EqC.one (by kernel_rfl) rfl rfl (EqAt.int underlying3 x.q y.q) (EqC.one (by kernel_rfl) rfl rfl (EqAt.str underlying9 x.a y.a) (EqC.one (by kernel_rfl) rfl rfl (EqAt.str underlying9 x.b y.b) EqC.nil))))).of (by rw [Bool.eq_iff_iff]; cases x; cases y; simp)
private theorem fo25_0 : Go.E.foOf Tryz.prog 25 0 = some 0 := by kernel_rfl
private theorem fo25_2 : Go.E.foOf Tryz.prog 25 2 = some 2 := by kernel_rfl
private theorem pf35 : Go.E.plainF Tryz.prog 35 = true := by kernel_rfl
private theorem pf36 : Go.E.plainF Tryz.prog 36 = true := by kernel_rfl
private theorem pf37 : Go.E.plainF Tryz.prog 37 = true := by kernel_rfl
private theorem pf38 : Go.E.plainF Tryz.prog 38 = true := by kernel_rfl
private theorem sz25 : Go.E.szOf Tryz.prog 25 = some 4 := by kernel_rfl
private theorem sz46 : Go.E.szOf Tryz.prog 46 = some 1 := by kernel_rfl
private theorem ze46 : Go.E.zeroOf Tryz.prog 46 = some (.slice none 0 0) := by kernel_rfl
noncomputable def Am_ (x0 : Fst) (k154 : Nat) (l169 : List (List Bool)) (k173 : Nat) : Option (((List (List Bool)) × Nat) ⊕ (((List (List Bool)) × Nat) ⊕ ((List (List Bool))))) :=
 iteO (decide (((k173 : Nat) : Int) < ((x0.ends.length : Nat) : Int))) (grd (0 ≤ ((nth x0.ends k154 Tip.zero).state) ∧ ((nth x0.ends k154 Tip.zero).state) < (l169.length : Int)) (grd (0 ≤ ((nth x0.ends k173 Tip.zero).state) ∧ ((nth x0.ends k173 Tip.zero).state) < ((nth l169 (((nth x0.ends k154 Tip.zero).state).toNat) ([] : List Bool)).length : Int)) (nxt ((l169.set (((nth x0.ends k154 Tip.zero).state).toNat) ((nth l169 (((nth x0.ends k154 Tip.zero).state).toNat) ([] : List Bool)).set (((nth x0.ends k173 Tip.zero).state).toNat) true)), (k173 + 1))))) (fin (nxt (l169, (k154 + 1))))
noncomputable def Bv_ (k244 : Nat) (l247 : List (List Bool)) (t251 : Bool) : Option (((List (List Bool)) × Bool × Nat) ⊕ (((List (List Bool)) × Bool × Nat) ⊕ (((List (List Bool)) × Bool) ⊕ ((List (List Bool)))))) :=
 nxt (l247, t251, (k244 + 1))
noncomputable def Ak_ (x0 : Fst) (k222 : Nat) (l239 : List (List Bool)) (t243 : Bool) (k244 : Nat) : Option (((List (List Bool)) × Bool × Nat) ⊕ (((List (List Bool)) × Bool × Nat) ⊕ (((List (List Bool)) × Bool) ⊕ ((List (List Bool)))))) :=
 iteO (decide (((k244 : Nat) : Int) < ((x0.arcs.length : Nat) : Int))) (grd (0 ≤ ((nth x0.arcs k222 Arc.zero).frm) ∧ ((nth x0.arcs k222 Arc.zero).frm) < (l239.length : Int)) (grd (0 ≤ ((nth x0.arcs k222 Arc.zero).to) ∧ ((nth x0.arcs k222 Arc.zero).to) < (l239.length : Int)) (grd (0 ≤ ((nth x0.arcs k244 Arc.zero).to) ∧ ((nth x0.arcs k244 Arc.zero).to) < ((nth l239 (((nth x0.arcs k222 Arc.zero).to).toNat) ([] : List Bool)).length : Int)) (iteO (nth (nth l239 (((nth x0.arcs k222 Arc.zero).to).toNat) ([] : List Bool)) (((nth x0.arcs k244 Arc.zero).to).toNat) false) (grd (0 ≤ ((nth x0.arcs k244 Arc.zero).frm) ∧ ((nth x0.arcs k244 Arc.zero).frm) < ((nth l239 (((nth x0.arcs k222 Arc.zero).frm).toNat) ([] : List Bool)).length : Int)) (iteO (!(nth (nth l239 (((nth x0.arcs k222 Arc.zero).frm).toNat) ([] : List Bool)) (((nth x0.arcs k244 Arc.zero).frm).toNat) false)) (bnd (Do_ ((nth x0.arcs k222 Arc.zero).set) ((nth x0.arcs k244 Arc.zero).set) 0) (fun v113 => iteO (decide (v113 ≠ BSet.zero)) (grd (0 ≤ ((nth x0.arcs k244 Arc.zero).frm) ∧ ((nth x0.arcs k244 Arc.zero).frm) < ((nth l239 (((nth x0.arcs k222 Arc.zero).frm).toNat) ([] : List Bool)).length : Int)) (Bv_ k244 (l239.set (((nth x0.arcs k222 Arc.zero).frm).toNat) ((nth l239 (((nth x0.arcs k222 Arc.zero).frm).toNat) ([] : List Bool)).set (((nth x0.arcs k244 Arc.zero).frm).toNat) true)) true)) (Bv_ k244 l239 t243))) (Bv_ k244 l239 t243))) (Bv_ k244 l239 t243))))) (fin (nxt (l239, t243, (k222 + 1))))
noncomputable def Aj_ (x0 : Fst) (l217 : List (List Bool)) (t221 : Bool) (k222 : Nat) : Option (((List (List Bool)) × Bool × Nat) ⊕ (((List (List Bool)) × Bool) ⊕ ((List (List Bool))))) :=
 iteO (decide (((k222 : Nat) : Int) < ((x0.arcs.length : Nat) : Int))) (iter (fun q : (List (List Bool)) × Bool × Nat => Ak_ x0 k222 q.1 q.2.1 q.2.2) (l217, t221, 0)) (fin (nxt (l217, t221)))
noncomputable def Af_ (x0 : Fst) (l196 : List (List Bool)) (t200 : Bool) : Option (((List (List Bool)) × Bool) ⊕ ((List (List Bool)))) :=
 iteO t200 (iter (fun q : (List (List Bool)) × Bool × Nat => Aj_ x0 q.1 q.2.1 q.2.2) (l196, false, 0)) (fin (some l196))
noncomputable def Al_ (x0 : Fst) (l150 : List (List Bool)) (k154 : Nat) : Option (((List (List Bool)) × Nat) ⊕ ((List (List Bool)))) :=
 iteO (decide (((k154 : Nat) : Int) < ((x0.ends.length : Nat) : Int))) (iter (fun q : (List (List Bool)) × Nat => Am_ x0 k154 q.1 q.2) (l150, 0)) (fin (iter (fun q : (List (List Bool)) × Bool => Af_ x0 q.1 q.2) (l150, true)))
noncomputable def Aw_ (x0 : Fst) (l118 : List (List Bool)) (k123 : Nat) : Option (((List (List Bool)) × Nat) ⊕ ((List (List Bool)))) :=
 iteO (decide (((k123 : Nat) : Int) < x0.states)) (grd (0 ≤ x0.states ∧ 1 * x0.states.toNat ≤ 281474976710656) (grd ((l118.length + ([(List.replicate x0.states.toNat false)] : List (List Bool)).length) * 24 ≤ 140737488355328) (nxt ((l118 ++ ([(List.replicate x0.states.toNat false)] : List (List Bool))), (k123 + 1))))) (fin (iter (fun q : (List (List Bool)) × Nat => Al_ x0 q.1 q.2) (l118, 0)))
noncomputable def Dm_ (x0 : Fst) : Option ((List (List Bool))) :=
 iter (fun q : (List (List Bool)) × Nat => Aw_ x0 q.1 q.2) (([] : List (List Bool)), 0)
def Gv_ (σ : Store) (r : (List (List Bool))) : Value → Store → List Res → Prop := fun v σ' H' =>
 ∃ (a1 : Option Addr), ∃ (c1 : Nat),  v = .slice a1 r.length c1 ∧ RZ σ' (pkSl 1 encB encB_len) (.slice a1 r.length c1) r ∧ H' = []
set_option maxHeartbeats 8000000 in
theorem Gj_ {σ : Store} {x0 : Fst} {a0_0 : Option Addr} {c0_0 : Nat} {a0_1 : Option Addr} {c0_1 : Nat} {a0_2 : Option Addr} {c0_2 : Nat} (f0_0 : RS σ 2 encTip (.slice a0_0 x0.starts.length c0_0) x0.starts) (f0_1 : RS σ 2 encTip (.slice a0_1 x0.ends.length c0_1) x0.ends) (f0_2 : RS σ 8 encArc (.slice a0_2 x0.arcs.length c0_2) x0.arcs) {r : (List (List Bool))} (hh : Dm_ x0 = some r) :
  Con Tryz.prog 36 #[.agg #[.int .i64 x0.states, .slice a0_0 x0.starts.length c0_0, .slice a0_1 x0.ends.length c0_1, .slice a0_2 x0.arcs.length c0_2]] σ [] (Gv_ σ r) := by
 dsimp only [Dm_] at hh
 have f0_0b := f0_0.rv.big
 have f0_1b := f0_1.rv.big
 have f0_2b := f0_2.rv.big
 refine Con.mk (n := 118) Tryz.func36 z z z (fun w0 => ?_)
 refine TC.a (TL.op z (boxA z z z z (fun b101 => ?_)))
 refine TL.s z z (TL.en (TC.a (TL.s z z (TL.en (TC.seq (TC.a (TL.i z z (TL.en (TC.block (TC.by (fun w h => Reach.nilNest 46 4 1 encB h) ?_))))))))))
 have zf124 : Zn ([] : List (NP Bool)) ([] : List (List Bool)) := Zn.nil
 refine TC.loopG (α := ((List (List Bool)) × Nat) × ((Option Addr) × Nat × (List (NP Bool)))) (rgs [(3, 2), (14, 12)]) (fun g => [(3, .slice g.2.1 g.1.1.length g.2.2.1), (4, .int .i64 ((g.1.2 : Nat) : Int))]) (fun g => [Res.cells b101 #[.int .i64 x0.states, .slice a0_0 x0.starts.length c0_0, .slice a0_1 x0.ends.length c0_1, .slice a0_2 x0.arcs.length c0_2] 25, Res.nest 46 4 1 encB (.slice g.2.1 g.1.1.length g.2.2.1) g.2.2.2]) (fun g => σ) (fun g => iter (fun q : (List (List Bool)) × Nat => Aw_ x0 q.1 q.2) g.1 = some r ∧ Zn g.2.2.2 g.1.1) (fun g => rounds (fun q : (List (List Bool)) × Nat => Aw_ x0 q.1 q.2) g.1) ((([] : List (List Bool)), 0), (none, 0, ([] : List (NP Bool)))) (Sub.f [1] 2) z (by repeat (first | exact trivial | refine ⟨z, ?_⟩)) ⟨hh, zf124⟩ (fun g1 j1 hg1 => ?_)
 obtain ⟨⟨l118, k123⟩, ⟨a119, c120, z121⟩⟩ := g1
 obtain ⟨hh, zf122⟩ := hg1
 try dsimp only at zf122 ⊢
 obtain ⟨z1, hh, hR1⟩ := iter_e hh
 dsimp only [Aw_] at hh
 have zf122b := zf122.len
 refine TC.know (isSl_nest (q := 1) z zf122) (fun ⟨_, hb126⟩ => ?_)
 refine TC.seq (TC.a (TL.i z z (TL.w z (fieldLoc z fo25_0 z) (TL.w z (loadLoc z ag3 z (i := 0) z z) (TL.w z (OpVal.lss z z z) (TL.en (TC.cD z hh (fun h127 hh => ?_) (fun h127 hh => ?_))))))))
 ·refine TC.skip (S.n (TC.seq (TC.block (TC.region (TL.s z z (TL.w z (fieldLoc z fo25_0 z) (TL.w z (loadLoc z ag3 z (i := 0) z z) ?_)))))))
  have u12 := grd_c hh
  replace hh := grd_t hh
  refine TL.op rfl (makeS2 (m := x0.states.toNat) (enc := encB) false rfl underlying46 sz4 by4 ze4 rfl rfl (by show Value.int _ _ = _; rw [Int.toNat_of_nonneg u12.1]) (by show Value.int _ _ = _; rw [Int.toNat_of_nonneg u12.1]) (by omega) (by decide) encB_len (by decide) rfl encB_one (fun a128 c129 => ?_))
  refine TL.op z (buildN z z underlying67 sz46 ze46 z z z z (fun a131 c132 zf133 => ?_))
  refine TL.front 2 z z ?_
  have u14 := grd_c hh
  replace hh := grd_t hh
  refine TL.op z (appendN z z underlying67 sz46 by46 ze46 z z (by decide) z z zf122 zf133 (by simpa using u14) (by decide) (fun a135 c136 zf137 => ?_))
  refine TL.s z z (TL.nil (B.n (S.n (TC.region (TL.i z z (TL.w z (OpVal.succ z z z (by omega)) (TL.i z z (TL.en ?_))))))))
  obtain ⟨hh, hlt138⟩ := nxt_x hR1 hh
  exact lf (((l118 ++ ([(List.replicate x0.states.toNat false)] : List (List Bool))), (k123 + 1)), (a135, c136, (z121 ++ ([((List.replicate x0.states.toNat false), (a128, c129))] : List (NP Bool))))) hlt138 ⟨hh, zf137⟩ (Sub.f [1] 2)
 ·refine TC.exit (S.x (S.x ?_))
  replace hh := fin_x hR1 hh
  refine TC.exitHere (S.n (TC.seq (TC.a (TL.i z z (TL.en (TC.block (TC.loopG (α := ((List (List Bool)) × Nat) × ((List (NP Bool)))) (rgs [(5, 3), (26, 31)]) (fun g => [(5, .int .i64 ((g.1.2 : Nat) : Int))]) (fun g => [Res.cells b101 #[.int .i64 x0.states, .slice a0_0 x0.starts.length c0_0, .slice a0_1 x0.ends.length c0_1, .slice a0_2 x0.arcs.length c0_2] 25, Res.nest 46 4 1 encB (.slice a119 l118.length c120) g.2]) (fun g => σ) (fun g => iter (fun q : (List (List Bool)) × Nat => Al_ x0 q.1 q.2) g.1 = some r ∧ g.1.1.length = l118.length ∧ Zn g.2 g.1.1) (fun g => rounds (fun q : (List (List Bool)) × Nat => Al_ x0 q.1 q.2) g.1) ((l118, 0), z121) (Sub.f [1, 1] 2) z (by repeat (first | exact trivial | refine ⟨z, ?_⟩)) ⟨hh, z, zf122⟩ (fun g2 j2 hg2 => ?_))))))))
  obtain ⟨⟨l150, k154⟩, z152⟩ := g2
  obtain ⟨hh, hn151, zf153⟩ := hg2
  try dsimp only at hn151 zf153 ⊢
  obtain ⟨z1, hh, hR1⟩ := iter_e hh
  dsimp only [Al_] at hh
  have hn151b := hn151
  have zf153b := zf153.len
  refine TC.know (isSl_nest (q := 1) z zf153) (fun ⟨_, hb155⟩ => ?_)
  refine TC.seq (TC.a (TL.i z z (TL.w z (fieldLoc z fo25_2 z) (TL.w z (loadLoc z ag22 z (i := 0) z z) (TL.w z (lenC z underlying22 z) (TL.w z (OpVal.lss z z z) (TL.en (TC.cD z hh (fun h156 hh => ?_) (fun h156 hh => ?_)))))))))
  ·refine TC.skip (S.n (TC.seq (TC.block (TC.a (TL.i z z (TL.en (TC.block (TC.loopG (α := ((List (List Bool)) × Nat) × ((List (NP Bool)))) (rgs [(6, 2), (33, 24)]) (fun g => [(6, .int .i64 ((g.1.2 : Nat) : Int))]) (fun g => [Res.cells b101 #[.int .i64 x0.states, .slice a0_0 x0.starts.length c0_0, .slice a0_1 x0.ends.length c0_1, .slice a0_2 x0.arcs.length c0_2] 25, Res.nest 46 4 1 encB (.slice a119 l118.length c120) g.2]) (fun g => σ) (fun g => iter (fun q : (List (List Bool)) × Nat => Am_ x0 k154 q.1 q.2) g.1 = some z1 ∧ g.1.1.length = l118.length ∧ Zn g.2 g.1.1) (fun g => rounds (fun q : (List (List Bool)) × Nat => Am_ x0 k154 q.1 q.2) g.1) ((l150, 0), z152) (Sub.f [1, 1] 2) z (by repeat (first | exact trivial | refine ⟨z, ?_⟩)) ⟨hh, hn151, zf153⟩ (fun g3 j3 hg3 => ?_)))))))))
   obtain ⟨⟨l169, k173⟩, z171⟩ := g3
   obtain ⟨hh, hn170, zf172⟩ := hg3
   try dsimp only at hn170 zf172 ⊢
   obtain ⟨z2, hh, hR2⟩ := iter_e hh
   dsimp only [Am_] at hh
   have hn170b := hn170
   have zf172b := zf172.len
   refine TC.know (isSl_nest (q := 1) z zf172) (fun ⟨_, hb174⟩ => ?_)
   refine TC.seq (TC.a (TL.i z z (TL.w z (fieldLoc z fo25_2 z) (TL.w z (loadLoc z ag22 z (i := 0) z z) (TL.w z (lenC z underlying22 z) (TL.w z (OpVal.lss z z z) (TL.en (TC.cD z hh (fun h175 hh => ?_) (fun h175 hh => ?_)))))))))
   ·refine TC.skip (S.n (TC.seq (TC.block (TC.a (TL.s z z (TL.w z (fieldLoc z fo25_2 z) (TL.w z (loadLoc z ag22 z (i := 0) z z) (TL.i z z (TL.w z (indexN z underlying22 sz53 z z f0_1.rv.sl (by omega)) (TL.w z (fieldElem z fo53_0 z f0_1.rv.sl (by omega)) (TL.w z (loadS Tip.zero z ag3 z f0_1 (by omega) (by omega) z) ?_)))))))))))
    have u38 := grd_c hh
    replace hh := grd_t hh
    refine TL.know (isSl_nest (q := 1) z zf172) (fun ⟨hs176, hs176b⟩ => ?_)
    refine TL.w z (OpVal.index z underlying67 sz46 z z hs176 u38.1 u38.2) ?_
    obtain ⟨p177, hz177, hm177⟩ := Zn.at zf172 (i := ((nth x0.ends k154 Tip.zero).state).toNat) (by omega)
    refine TL.w z (loadN z ag46 z (q := 1) z hz177 hm177) (TL.s z z (TL.en (TC.region (TL.s z z (TL.w z (fieldLoc z fo25_2 z) (TL.w z (loadLoc z ag22 z (i := 0) z z) (TL.i z z (TL.w z (indexN z underlying22 sz53 z z f0_1.rv.sl (by omega)) (TL.w z (fieldElem z fo53_0 z f0_1.rv.sl (by omega)) (TL.w z (loadS Tip.zero z ag3 z f0_1 (by omega) (by omega) z) ?_))))))))))
    have u48 := grd_c hh
    replace hh := grd_t hh
    refine TL.know (isSl_inner (q := 1) z hz177 hm177) (fun ⟨hs178, hs178b⟩ => ?_)
    refine TL.w z (OpVal.index z underlying46 sz4 z z hs178 u48.1 u48.2) (TL.front 1 z z (TL.by (fun w h => Reach.takeN hz177 hm177 h) ?_))
    have hn181 : (l169.set (((nth x0.ends k154 Tip.zero).state).toNat) ((nth l169 (((nth x0.ends k154 Tip.zero).state).toNat) ([] : List Bool)).set (((nth x0.ends k173 Tip.zero).state).toNat) true)).length = l118.length := (List.length_set ..).trans hn170
    refine TL.op z (storeS true z sz4 z z z z encB_len encB_one (by decide) (by omega) ?_)
    refine TL.by (fun w h => Reach.putN hz177 hm177 (by rw [List.length_set]) h) ?_
    have zf180 := Zn.set zf172 (((nth x0.ends k154 Tip.zero).state).toNat) ((nth l169 (((nth x0.ends k154 Tip.zero).state).toNat) ([] : List Bool)).set (((nth x0.ends k173 Tip.zero).state).toNat) true) p177
    refine TL.nil (B.n (S.n (TC.region (TL.i z z (TL.w z (OpVal.succ z z z (by omega)) (TL.i z z (TL.en ?_)))))))
    obtain ⟨hh, hlt182⟩ := nxt_x hR2 hh
    exact lf (((l169.set (((nth x0.ends k154 Tip.zero).state).toNat) ((nth l169 (((nth x0.ends k154 Tip.zero).state).toNat) ([] : List Bool)).set (((nth x0.ends k173 Tip.zero).state).toNat) true)), (k173 + 1)), (z171.set (((nth x0.ends k154 Tip.zero).state).toNat) (((nth l169 (((nth x0.ends k154 Tip.zero).state).toNat) ([] : List Bool)).set (((nth x0.ends k173 Tip.zero).state).toNat) true), p177))) hlt182 ⟨hh, hn181, zf180⟩ (Sub.f [1] 2)
   ·refine TC.exit (S.x (S.x ?_))
    replace hh := fin_x hR2 hh
    refine TC.exitHere (B.n (S.n (TC.region (TL.i z z (TL.w z (OpVal.succ z z z (by omega)) (TL.i z z (TL.en ?_)))))))
    obtain ⟨hh, hlt183⟩ := nxt_x hR1 hh
    exact lf ((l169, (k154 + 1)), z171) hlt183 ⟨hh, hn170, zf172⟩ (Sub.f [1, 1] 2)
  ·refine TC.exit (S.x (S.x ?_))
   replace hh := fin_x hR1 hh
   refine TC.exitHere (S.n (TC.seq (TC.a (TL.j z z (TL.en (TC.block (TC.loopG (α := ((List (List Bool)) × Bool) × ((List (NP Bool)))) (rgs [(8, 6), (57, 60)]) (fun g => [(8, .bool g.1.2)]) (fun g => [Res.cells b101 #[.int .i64 x0.states, .slice a0_0 x0.starts.length c0_0, .slice a0_1 x0.ends.length c0_1, .slice a0_2 x0.arcs.length c0_2] 25, Res.nest 46 4 1 encB (.slice a119 l118.length c120) g.2]) (fun g => σ) (fun g => iter (fun q : (List (List Bool)) × Bool => Af_ x0 q.1 q.2) g.1 = some r ∧ g.1.1.length = l118.length ∧ Zn g.2 g.1.1) (fun g => rounds (fun q : (List (List Bool)) × Bool => Af_ x0 q.1 q.2) g.1) ((l150, true), z152) (Sub.f [1, 1] 2) z (by repeat (first | exact trivial | refine ⟨z, ?_⟩)) ⟨hh, hn151, zf153⟩ (fun g4 j4 hg4 => ?_))))))))
   obtain ⟨⟨l196, t200⟩, z198⟩ := g4
   obtain ⟨hh, hn197, zf199⟩ := hg4
   try dsimp only at hn197 zf199 ⊢
   obtain ⟨z1, hh, hR1⟩ := iter_e hh
   dsimp only [Af_] at hh
   have hn197b := hn197
   have zf199b := zf199.len
   refine TC.know (isSl_nest (q := 1) z zf199) (fun ⟨_, hb201⟩ => ?_)
   refine TC.seq (TC.a (TL.j z z (TL.en (TC.cB z hh (fun h202 hh => ?_) (fun h202 hh => ?_)))))
   ·refine TC.skip (S.n (TC.block (TC.a (TL.j z z (TL.en (TC.a (TL.i z z (TL.en (TC.block (TC.loopG (α := ((List (List Bool)) × Bool × Nat) × ((List (NP Bool)))) (rgs [(8, 6), (58, 59)]) (fun g => [(8, .bool g.1.2.1), (9, .int .i64 ((g.1.2.2 : Nat) : Int))]) (fun g => [Res.cells b101 #[.int .i64 x0.states, .slice a0_0 x0.starts.length c0_0, .slice a0_1 x0.ends.length c0_1, .slice a0_2 x0.arcs.length c0_2] 25, Res.nest 46 4 1 encB (.slice a119 l118.length c120) g.2]) (fun g => σ) (fun g => iter (fun q : (List (List Bool)) × Bool × Nat => Aj_ x0 q.1 q.2.1 q.2.2) g.1 = some z1 ∧ g.1.1.length = l118.length ∧ Zn g.2 g.1.1) (fun g => rounds (fun q : (List (List Bool)) × Bool × Nat => Aj_ x0 q.1 q.2.1 q.2.2) g.1) ((l196, false, 0), z198) (Sub.f [1, 1] 2) z (by repeat (first | exact trivial | refine ⟨z, ?_⟩)) ⟨hh, hn197, zf199⟩ (fun g5 j5 hg5 => ?_)))))))))))
    obtain ⟨⟨l217, t221, k222⟩, z219⟩ := g5
    obtain ⟨hh, hn218, zf220⟩ := hg5
    try dsimp only at hn218 zf220 ⊢
    obtain ⟨z2, hh, hR2⟩ := iter_e hh
    dsimp only [Aj_] at hh
    have hn218b := hn218
    have zf220b := zf220.len
    refine TC.know (isSl_nest (q := 1) z zf220) (fun ⟨_, hb223⟩ => ?_)
    refine TC.seq (TC.a (TL.i z z (TL.w z (fieldLoc z fo25_3 z) (TL.w z (loadLoc z ag23 z (i := 0) z z) (TL.w z (lenC z underlying23 z) (TL.w z (OpVal.lss z z z) (TL.en (TC.cD z hh (fun h224 hh => ?_) (fun h224 hh => ?_)))))))))
    ·refine TC.skip (S.n (TC.seq (TC.block (TC.a (TL.i z z (TL.en (TC.block (TC.loopG (α := ((List (List Bool)) × Bool × Nat) × ((List (NP Bool)))) (rgs [(8, 1), (10, 4), (65, 52)]) (fun g => [(8, .bool g.1.2.1), (10, .int .i64 ((g.1.2.2 : Nat) : Int))]) (fun g => [Res.cells b101 #[.int .i64 x0.states, .slice a0_0 x0.starts.length c0_0, .slice a0_1 x0.ends.length c0_1, .slice a0_2 x0.arcs.length c0_2] 25, Res.nest 46 4 1 encB (.slice a119 l118.length c120) g.2]) (fun g => σ) (fun g => iter (fun q : (List (List Bool)) × Bool × Nat => Ak_ x0 k222 q.1 q.2.1 q.2.2) g.1 = some z2 ∧ g.1.1.length = l118.length ∧ Zn g.2 g.1.1) (fun g => rounds (fun q : (List (List Bool)) × Bool × Nat => Ak_ x0 k222 q.1 q.2.1 q.2.2) g.1) ((l217, t221, 0), z219) (Sub.f [1, 1] 2) z (by repeat (first | exact trivial | refine ⟨z, ?_⟩)) ⟨hh, hn218, zf220⟩ (fun g6 j6 hg6 => ?_)))))))))
     obtain ⟨⟨l239, t243, k244⟩, z241⟩ := g6
     obtain ⟨hh, hn240, zf242⟩ := hg6
     try dsimp only at hn240 zf242 ⊢
     obtain ⟨z3, hh, hR3⟩ := iter_e hh
     dsimp only [Ak_] at hh
     have hn240b := hn240
     have zf242b := zf242.len
     refine TC.know (isSl_nest (q := 1) z zf242) (fun ⟨_, hb245⟩ => ?_)
     refine TC.seq (TC.a (TL.i z z (TL.w z (fieldLoc z fo25_3 z) (TL.w z (loadLoc z ag23 z (i := 0) z z) (TL.w z (lenC z underlying23 z) (TL.w z (OpVal.lss z z z) (TL.en (TC.cD z hh (fun h246 hh => ?_) (fun h246 hh => ?_)))))))))
     ·refine TC.skip (S.n (TC.cutG (α := ((List (List Bool)) × Bool) × ((List (NP Bool)))) (rgs [(8, 1), (11, 3), (72, 45)]) (fun g => [(8, .bool g.1.2)]) (fun g => [Res.cells b101 #[.int .i64 x0.states, .slice a0_0 x0.starts.length c0_0, .slice a0_1 x0.ends.length c0_1, .slice a0_2 x0.arcs.length c0_2] 25, Res.nest 46 4 1 encB (.slice a119 l118.length c120) g.2]) (fun g => σ) (fun g => Bv_ k244 g.1.1 g.1.2 = some z3 ∧ g.1.1.length = l118.length ∧ Zn g.2 g.1.1) ?_ (fun g j hg => ?_)))
      ·skip
       refine TC.block (TC.a (TL.w z (fieldLoc z fo25_3 z) (TL.w z (loadLoc z ag23 z (i := 0) z z) (TL.i z z (TL.w z (indexN z underlying23 sz66 z z f0_2.rv.sl (by omega)) (TL.w z (loadSA Arc.zero z ag66 sz66 z f0_2 (by omega) (by omega)) (TL.op z (OpOk.alloc z ze66 z z (fun b252 => ?_)))))))))
       refine TL.op z (storeAll z sz66 z z z z z z ?_)
       refine TL.en (TC.a (TL.w z (fieldLoc z fo25_3 z) (TL.w z (loadLoc z ag23 z (i := 1) z z) (TL.i z z (TL.w z (indexN z underlying23 sz66 z z f0_2.rv.sl (by omega)) (TL.w z (loadSA Arc.zero z ag66 sz66 z f0_2 (by omega) (by omega)) (TL.op z (OpOk.alloc z ze66 z z (fun b254 => ?_)))))))))
       refine TL.op z (storeAll z sz66 z z z z z z ?_)
       refine TL.en (TC.a (TL.s z z (TL.w z (fieldLoc z fo66_0 z) (TL.w z (loadLoc z ag3 z (i := 1) z z) ?_))))
       have u88 := grd_c hh
       replace hh := grd_t hh
       refine TL.know (isSl_nest (q := 3) z zf242) (fun ⟨hs256, hs256b⟩ => ?_)
       refine TL.w z (OpVal.index z underlying67 sz46 z z hs256 u88.1 u88.2) ?_
       obtain ⟨p257, hz257, hm257⟩ := Zn.at zf242 (i := ((nth x0.arcs k222 Arc.zero).frm).toNat) (by omega)
       refine TL.w z (loadN z ag46 z (q := 3) z hz257 hm257) (TL.s z z (TL.en (TC.seq (TC.draw [] (by kernel_rfl) (TA.a 0 z (moveSl (.inl z) z) z (TA.a 1 z (fieldLoc z fo66_1 z) z (TA.b 2 z (loadLoc z ag3 z (i := 1) z z) z ?_)))))))
       have u94 := grd_c hh
       replace hh := grd_t hh
       refine TA.know (isSl_nest (q := 3) z zf242) (fun ⟨hs258, hs258b⟩ => ?_)
       refine TA.b 3 z (OpVal.index z underlying67 sz46 z z hs258 u94.1 u94.2) z ?_
       obtain ⟨p259, hz259, hm259⟩ := Zn.at zf242 (i := ((nth x0.arcs k222 Arc.zero).to).toNat) (by omega)
       refine TA.b 4 z (loadN z ag46 z (q := 3) z hz259 hm259) z (TA.a 5 z (fieldLoc z fo66_1 z) z (TA.b 6 z (loadLoc z ag3 z (i := 0) z z) z ?_))
       have u98 := grd_c hh
       replace hh := grd_t hh
       refine TA.know (isSl_inner (q := 3) z hz259 hm259) (fun ⟨hs260, hs260b⟩ => ?_)
       refine TA.b 7 z (OpVal.index z underlying46 sz4 z z hs260 u98.1 u98.2) z (TA.b 8 z (OpVal.seen (sees_inner (q := 3) z hz259 hm259) (loadO1 false z ag4 z (q := 0) z encB_len (by omega) z)) z (TA.a 9 z (moveB (.inl z) z) z (TA.split 96 z (fun h261 => ?_) (fun h261 => ?_))))
       ·replace hh := iteO_t h261 hh
        refine TA.on 10 z z z z (moveSl (.inl z) z) z (TA.on 11 z z z z (fieldLoc z fo66_0 z) z (TA.on 12 z z z z (loadLoc z ag3 z (i := 0) z z) z ?_))
        have u104 := grd_c hh
        replace hh := grd_t hh
        refine TA.know (isSl_inner (q := 3) z hz257 hm257) (fun ⟨hs262, hs262b⟩ => ?_)
        refine TA.on 13 z z z z (OpVal.index z underlying46 sz4 z z hs262 u104.1 u104.2) z (TA.on 14 z z z z (OpVal.seen (sees_inner (q := 3) z hz257 hm257) (loadO1 false z ag4 z (q := 0) z encB_len (by omega) z)) z (TA.on 15 z z z z (OpVal.not z z) z (TA.a 16 z (pickTB z z z) z (TA.a 17 z (moveB (.inl z) z) z (TA.split 104 z (fun h263 => ?_) (fun h263 => ?_))))))
        ·replace hh := iteO_t h263 hh
         refine TA.on 18 z z z z (fieldLoc z fo66_2 z) z (TA.on 19 z z z z (loadLocA z ag64 sz64 z (i := 1) z z z) z (TA.on 20 z z z z (fieldLoc z fo66_2 z) z (TA.on 21 z z z z (loadLocA z ag64 sz64 z (i := 0) z z z) z (TA.on 23 z z z z (buildArrL z underlying64 sz62 ze64 z) z ?_))))
         obtain ⟨v113, u113, hh⟩ := bnd_e hh
         refine TA.actOn 22 (by kernel_rfl) z z z z z z (callP (Fs_ u113) z z pf75 z z z (k0 ?_))
         refine TA.on 24 z z z z (neqSet (s := v113) (t := BSet.zero) z underlying64 underlying62 ag62 sz62 eg64 z z) z (TA.a 25 z (pickTB z z z) z (TA.dn (S.n (TC.cD z hh (fun h264 hh => ?_) (fun h264 hh => ?_)))))
         ·refine TC.a (TL.s z z (TL.w z (fieldLoc z fo66_0 z) (TL.w z (loadLoc z ag3 z (i := 0) z z) ?_)))
          have u120 := grd_c hh
          replace hh := grd_t hh
          refine TL.know (isSl_inner (q := 3) z hz257 hm257) (fun ⟨hs265, hs265b⟩ => ?_)
          refine TL.w z (OpVal.index z underlying46 sz4 z z hs265 u120.1 u120.2) (TL.front 3 z z (TL.by (fun w h => Reach.takeN hz257 hm257 h) ?_))
          have hn268 : (l239.set (((nth x0.arcs k222 Arc.zero).frm).toNat) ((nth l239 (((nth x0.arcs k222 Arc.zero).frm).toNat) ([] : List Bool)).set (((nth x0.arcs k244 Arc.zero).frm).toNat) true)).length = l118.length := (List.length_set ..).trans hn240
          refine TL.op z (storeS true z sz4 z z z z encB_len encB_one (by decide) (by omega) ?_)
          refine TL.by (fun w h => Reach.putN hz257 hm257 (by rw [List.length_set]) h) ?_
          have zf267 := Zn.set zf242 (((nth x0.arcs k222 Arc.zero).frm).toNat) ((nth l239 (((nth x0.arcs k222 Arc.zero).frm).toNat) ([] : List Bool)).set (((nth x0.arcs k244 Arc.zero).frm).toNat) true) p257
          exact TL.en (TC.region (TL.j z z (TL.nil (B.n (S.n (cf (((l239.set (((nth x0.arcs k222 Arc.zero).frm).toNat) ((nth l239 (((nth x0.arcs k222 Arc.zero).frm).toNat) ([] : List Bool)).set (((nth x0.arcs k244 Arc.zero).frm).toNat) true)), true), (z241.set (((nth x0.arcs k222 Arc.zero).frm).toNat) (((nth l239 (((nth x0.arcs k222 Arc.zero).frm).toNat) ([] : List Bool)).set (((nth x0.arcs k244 Arc.zero).frm).toNat) true), p257))) ⟨hh, hn268, zf267⟩ (Sub.f [3] 2)))))))
         ·exact TC.skip (B.n (S.n (cf ((l239, t243), z241) ⟨hh, hn240, zf242⟩ (Sub.f [3, 3] 2))))
        ·replace hh := iteO_f h263 hh
         exact TA.off 18 z z z z z z (TA.off 19 z z z z z z (TA.off 20 z z z z z z (TA.off 21 z z z z z z (TA.off 22 z z z z z z (TA.off 23 z z z z z z (TA.off 24 z z z z z z (TA.a 25 z (pickFB z z z) z (TA.dn (S.n (TC.f z (TC.skip (B.n (S.n (cf ((l239, t243), z241) ⟨hh, hn240, zf242⟩ (Sub.f [3, 3] 2)))))))))))))))
       ·replace hh := iteO_f h261 hh
        exact TA.off 10 z z z z z z (TA.off 11 z z z z z z (TA.off 12 z z z z z z (TA.off 13 z z z z z z (TA.off 14 z z z z z z (TA.off 15 z z z z z z (TA.a 16 z (pickFB z z z) z (TA.a 17 z (moveB (.inl z) z) z (TA.off 18 z z z z z z (TA.off 19 z z z z z z (TA.off 20 z z z z z z (TA.off 21 z z z z z z (TA.off 22 z z z z z z (TA.off 23 z z z z z z (TA.off 24 z z z z z z (TA.a 25 z (pickFB z z z) z (TA.dn (S.n (TC.f z (TC.skip (B.n (S.n (cf ((l239, t243), z241) ⟨hh, hn240, zf242⟩ (Sub.f [3, 3] 2)))))))))))))))))))))))
      ·skip
       obtain ⟨⟨l247, t251⟩, z249⟩ := g
       obtain ⟨hh, hn248, zf250⟩ := hg
       try dsimp only at hn248 zf250 ⊢
       dsimp only [Bv_] at hh
       have hn248b := hn248
       have zf250b := zf250.len
       refine TC.know (isSl_nest (q := 1) z zf250) (fun ⟨_, hb269⟩ => ?_)
       refine TC.region (TL.i z z (TL.w z (OpVal.succ z z z (by omega)) (TL.i z z (TL.en ?_))))
       obtain ⟨hh, hlt270⟩ := nxt_x hR3 hh
       exact lf ((l247, t251, (k244 + 1)), z249) hlt270 ⟨hh, hn248, zf250⟩ (Sub.f [1, 1] 2)
     ·refine TC.exit (S.x (S.x ?_))
      replace hh := fin_x hR3 hh
      refine TC.exitHere (B.n (S.n (TC.region (TL.i z z (TL.w z (OpVal.succ z z z (by omega)) (TL.i z z (TL.en ?_)))))))
      obtain ⟨hh, hlt271⟩ := nxt_x hR2 hh
      exact lf ((l239, t243, (k222 + 1)), z241) hlt271 ⟨hh, hn240, zf242⟩ (Sub.f [1, 1] 2)
    ·refine TC.exit (S.x (S.x ?_))
     replace hh := fin_x hR2 hh
     refine TC.exitHere (B.n (S.n ?_))
     obtain ⟨hh, hlt272⟩ := nxt_x hR1 hh
     exact lf ((l217, t221), z219) hlt272 ⟨hh, hn218, zf220⟩ (Sub.f [1, 1] 2)
   ·refine TC.exit (S.x (S.x ?_))
    replace hh := fin_x hR1 hh
    refine TC.exitHere (S.n (TC.a (TL.s z z (TL.s z z (TL.en ?_)))))
    rw [← hn197]
    refine TC.front 1 z z (TC.seals (fun w h => Reach.sealNest encB_len zf199 h) (fun τ275 hle274 hr273 => ?_))
    have hr273b := hr273.big
    refine TC.rt 0 ?_
    obtain rfl := so hh
    exact rq [2] ⟨a119, c120, z, hr273, z⟩
noncomputable def Cl_ (k158 : Nat) (t162 : Bool) : Option ((Bool × Nat) ⊕ (((List TLag) × (List TLag) × Nat) ⊕ (Bool × Int))) :=
 nxt (t162, (k158 + 1))
noncomputable def Cp_ (k189 : Nat) : Option ((Nat) ⊕ ((Nat) ⊕ (((List TLag) × (List TLag) × Nat) ⊕ (Bool × Int)))) :=
 nxt (k189 + 1)
noncomputable def Ao_ (v5 : Fst × Int) (k183 : Nat) (l125 : List TLag) (k132 : Nat) (k189 : Nat) : Option ((Nat) ⊕ ((Nat) ⊕ (((List TLag) × (List TLag) × Nat) ⊕ (Bool × Int)))) :=
 iteO (decide (((k189 : Nat) : Int) < ((v5.1.ends.length : Nat) : Int))) (iteO (decide (((nth v5.1.ends k183 Tip.zero).state) = ((nth l125 k132 TLag.zero).p))) (iteO (decide (((nth v5.1.ends k189 Tip.zero).state) = ((nth l125 k132 TLag.zero).q))) (grd (((nth l125 k132 TLag.zero).a).length + ((nth v5.1.ends k183 Tip.zero).out).length ≤ 9223372036854775807) (grd (((nth l125 k132 TLag.zero).b).length + ((nth v5.1.ends k189 Tip.zero).out).length ≤ 9223372036854775807) (iteO (decide (((nth l125 k132 TLag.zero).a ++ (nth v5.1.ends k183 Tip.zero).out) ≠ ((nth l125 k132 TLag.zero).b ++ (nth v5.1.ends k189 Tip.zero).out))) (fin (fin (fin (some (false, 0))))) (Cp_ k189)))) (Cp_ k189)) (Cp_ k189)) (fin (nxt (k183 + 1)))
noncomputable def Dk_ (k132 : Nat) (l137 : List TLag) (l140 : List TLag) : Option (((List TLag) × (List TLag) × Nat) ⊕ (Bool × Int)) :=
 nxt (l137, l140, (k132 + 1))
noncomputable def Ap_ (v5 : Fst × Int) (l125 : List TLag) (k132 : Nat) (l129 : List TLag) (k183 : Nat) : Option ((Nat) ⊕ (((List TLag) × (List TLag) × Nat) ⊕ (Bool × Int))) :=
 iteO (decide (((k183 : Nat) : Int) < ((v5.1.ends.length : Nat) : Int))) (iter (fun q : Nat => Ao_ v5 k183 l125 k132 q) 0) (fin (bnd (Du_ v5.1 (nth l125 k132 TLag.zero)) (fun v165 => grd ((l125.length + v165.length) * 48 ≤ 140737488355328) (Dk_ k132 (l125 ++ v165) (l129 ++ [(nth l125 k132 TLag.zero)])))))
noncomputable def A0_ (l129 : List TLag) (l125 : List TLag) (k132 : Nat) (v5 : Fst × Int) (t157 : Bool) (k158 : Nat) : Option ((Bool × Nat) ⊕ (((List TLag) × (List TLag) × Nat) ⊕ (Bool × Int))) :=
 iteO (decide (((k158 : Nat) : Int) < ((l129.length : Nat) : Int))) (iteO (decide (((nth l129 k158 TLag.zero).p) = ((nth l125 k132 TLag.zero).p))) (iteO (decide (((nth l129 k158 TLag.zero).q) = ((nth l125 k132 TLag.zero).q))) (iteO (decide (¬ ((nth l129 k158 TLag.zero) = (nth l125 k132 TLag.zero)))) (fin (fin (some (false, 0)))) (Cl_ k158 true)) (Cl_ k158 t157)) (Cl_ k158 t157)) (fin (iteO t157 (Dk_ k132 l125 l129) (grd ((l129.length + [(nth l125 k132 TLag.zero)].length) * 48 ≤ 140737488355328) (iter (fun q : Nat => Ap_ v5 l125 k132 l129 q) 0))))
noncomputable def Bs_ (l129 : List TLag) (l125 : List TLag) (k132 : Nat) (v5 : Fst × Int) : Option (((List TLag) × (List TLag) × Nat) ⊕ (Bool × Int)) :=
 iter (fun q : Bool × Nat => A0_ l129 l125 k132 v5 q.1 q.2) (false, 0)
noncomputable def An_ (v22 : (List (List Bool))) (v5 : Fst × Int) (l125 : List TLag) (l129 : List TLag) (k132 : Nat) : Option (((List TLag) × (List TLag) × Nat) ⊕ (Bool × Int)) :=
 iteO (decide (((k132 : Nat) : Int) < ((l125.length : Nat) : Int))) (grd (0 ≤ ((nth l125 k132 TLag.zero).p) ∧ ((nth l125 k132 TLag.zero).p) < (v22.length : Int)) (grd (0 ≤ ((nth l125 k132 TLag.zero).q) ∧ ((nth l125 k132 TLag.zero).q) < ((nth v22 (((nth l125 k132 TLag.zero).p).toNat) ([] : List Bool)).length : Int)) (iteO (!(nth (nth v22 (((nth l125 k132 TLag.zero).p).toNat) ([] : List Bool)) (((nth l125 k132 TLag.zero).q).toNat) false)) (Dk_ k132 l125 l129) (iteO (decide ((nth l125 k132 TLag.zero).a ≠ ([] : List UInt8))) (iteO (decide ((nth l125 k132 TLag.zero).b ≠ ([] : List UInt8))) (fin (some (false, 0))) (Bs_ l129 l125 k132 v5)) (Bs_ l129 l125 k132 v5))))) (fin (some (true, 0)))
noncomputable def Dx_ (x0 : Fst) : Option (Bool × Int) :=
 bnd (Dt_ x0) (fun v5 => iteO (decide (v5.2 ≠ 0)) (some (false, v5.2)) (iteO (decide (32 < v5.1.states)) (some (false, 2)) (bnd (Dm_ v5.1) (fun v22 => bnd (Dl_ v5.1) (fun v25 => iter (fun q : (List TLag) × (List TLag) × Nat => An_ v22 v5 q.1 q.2.1 q.2.2) (v25, ([] : List TLag), 0))))))
set_option maxHeartbeats 8000000 in
theorem Gy_ {σ : Store} {x0 : Fst} {a0_0 : Option Addr} {c0_0 : Nat} {a0_1 : Option Addr} {c0_1 : Nat} {a0_2 : Option Addr} {c0_2 : Nat} (f0_0 : RS σ 2 encTip (.slice a0_0 x0.starts.length c0_0) x0.starts) (f0_1 : RS σ 2 encTip (.slice a0_1 x0.ends.length c0_1) x0.ends) (f0_2 : RS σ 8 encArc (.slice a0_2 x0.arcs.length c0_2) x0.arcs) {r : Bool × Int} (hh : Dx_ x0 = some r) :
  Con Tryz.prog 12 #[.agg #[.int .i64 x0.states, .slice a0_0 x0.starts.length c0_0, .slice a0_1 x0.ends.length c0_1, .slice a0_2 x0.arcs.length c0_2]] σ [] (PureP (.tuple #[.bool r.1, .int .i64 r.2]) σ) := by
 dsimp only [Dx_] at hh
 have f0_0b := f0_0.rv.big
 have f0_1b := f0_1.rv.big
 have f0_2b := f0_2.rv.big
 refine Con.mk (n := 152) Tryz.func12 z z z (fun w0 => ?_)
 refine TC.a (TL.op z (boxA z z z z (fun b101 => ?_)))
 refine TL.j z z (TL.i z z (TL.en (TC.a (TL.w z (loadAll z ag25 sz25 z (i := 0) z z) ?_))))
 obtain ⟨v5, u5, hh⟩ := bnd_e hh
 refine TL.op z (OpOk.call (Gn_ (x0 := x0) f0_0 f0_1 f0_2 u5) z z pf35 z z z z ?_)
 rintro _ τ103 _ hle103 ⟨a103_1, c103_1, a103_2, c103_2, a103_3, c103_3, rfl, hr103_0, hr103_1, hr103_2, rfl⟩
 have hr103_0b := hr103_0.rv.big
 have hr103_1b := hr103_1.rv.big
 have hr103_2b := hr103_2.rv.big
 refine TL.w z (moveT (.inl z) z) (TL.w z (OpVal.extract z z z) (TL.w z (OpVal.extract z z z) (TL.op z (storeAll z sz25 z z z z z z ?_))))
 refine TL.i z z (TL.en (TC.seq (TC.a (TL.i z z (TL.w z (OpVal.neq z z z) (TL.en (TC.cD z hh (fun h104 hh => ?_) (fun h104 hh => ?_))))))))
 ·refine TC.a (TL.i z z (TL.j z z (TL.i z z (TL.en (TC.ofSub (Sub.pre 0 z) (TC.back (TC.ret (S.r ?_))))))))
  obtain rfl := so hh
  exact rq [2, 3] ⟨z, z, z⟩
 ·refine TC.skip (S.n (TC.seq (TC.a (TL.w z (fieldLoc z fo25_0 z) (TL.w z (loadLoc z ag3 z (i := 0) z z) (TL.w z (OpVal.gtr z z z) (TL.en (TC.cD z hh (fun h105 hh => ?_) (fun h105 hh => ?_)))))))))
  ·refine TC.a (TL.j z z (TL.i z z (TL.en (TC.ofSub (Sub.pre 0 z) (TC.back (TC.ret (S.r ?_)))))))
   obtain rfl := so hh
   exact rq [2, 3] ⟨z, z, z⟩
  ·refine TC.skip (S.n (TC.a (TL.w z (loadAll z ag25 sz25 z (i := 0) z z) ?_)))
   obtain ⟨v22, u22, hh⟩ := bnd_e hh
   refine TL.op z (OpOk.call (Gj_ (x0 := v5.1) hr103_0 hr103_1 hr103_2 u22) z z pf36 z z z z ?_)
   rintro _ τ106 _ hle106 ⟨a106_1, c106_1, rfl, hr106_0, rfl⟩
   replace hr103_0 := hr103_0.mono hle106
   replace hr103_1 := hr103_1.mono hle106
   replace hr103_2 := hr103_2.mono hle106
   have hr106_0b := hr106_0.big
   refine TL.s z z (TL.en (TC.a (TL.w z (loadAll z ag25 sz25 z (i := 0) z z) ?_)))
   obtain ⟨v25, u25, hh⟩ := bnd_e hh
   refine TL.op z (OpOk.call (Gd_ (x0 := v5.1) hr103_0 hr103_1 hr103_2 u25) z z pf37 z z z z ?_)
   rintro _ _ _ hle107 ⟨a107_1, c107_1, rfl, rfl, rfl⟩
   refine TL.s z z (TL.en (TC.a (TL.s z z (TL.en (TC.seq (TC.a (TL.i z z (TL.en (TC.block (TC.nilS 72 4 encLag (TC.loopG (α := ((List TLag) × (List TLag) × Nat) × ((Option Addr) × Nat × (Option Addr) × Nat)) (rgs [(2, 2), (6, 8), (29, 123)]) (fun g => [(6, .slice g.2.1 g.1.1.length g.2.2.1), (7, .slice g.2.2.2.1 g.1.2.1.length g.2.2.2.2), (8, .int .i64 ((g.1.2.2 : Nat) : Int))]) (fun g => [Res.cells b101 #[.int .i64 v5.1.states, .slice a103_1 v5.1.starts.length c103_1, .slice a103_2 v5.1.ends.length c103_2, .slice a103_3 v5.1.arcs.length c103_3] 25, Res.rowS 72 4 encLag (.slice g.2.1 g.1.1.length g.2.2.1) g.1.1, Res.rowS 72 4 encLag (.slice g.2.2.2.1 g.1.2.1.length g.2.2.2.2) g.1.2.1]) (fun g => τ106) (fun g => iter (fun q : (List TLag) × (List TLag) × Nat => An_ v22 v5 q.1 q.2.1 q.2.2) g.1 = some r) (fun g => rounds (fun q : (List TLag) × (List TLag) × Nat => An_ v22 v5 q.1 q.2.1 q.2.2) g.1) ((v25, ([] : List TLag), 0), (a107_1, c107_1, none, 0)) (Sub.f [1, 2] 3) z (by repeat (first | exact trivial | refine ⟨z, ?_⟩)) hh (fun g1 j1 hg1 => ?_))))))))))))
   obtain ⟨⟨l125, l129, k132⟩, ⟨a126, c127, a130, c131⟩⟩ := g1
   have hh := hg1; clear hg1
   try dsimp only
   obtain ⟨z1, hh, hR1⟩ := iter_e hh
   dsimp only [An_] at hh
   refine TC.isSl (i := 1) z (fun _ hb134 _ => ?_)
   refine TC.isSl (i := 2) z (fun _ hb135 _ => ?_)
   refine TC.seq (TC.a (TL.i z z (TL.s z z (TL.w z (lenC z underlying69 z) (TL.w z (OpVal.lss z z z) (TL.en (TC.cD z hh (fun h136 hh => ?_) (fun h136 hh => ?_))))))))
   ·refine TC.skip (S.n (TC.cutG (α := ((List TLag) × (List TLag)) × ((Option Addr) × Nat × (Option Addr) × Nat)) (rgs [(2, 2), (6, 2), (9, 5), (35, 117)]) (fun g => [(6, .slice g.2.1 g.1.1.length g.2.2.1), (7, .slice g.2.2.2.1 g.1.2.length g.2.2.2.2)]) (fun g => [Res.cells b101 #[.int .i64 v5.1.states, .slice a103_1 v5.1.starts.length c103_1, .slice a103_2 v5.1.ends.length c103_2, .slice a103_3 v5.1.arcs.length c103_3] 25, Res.rowS 72 4 encLag (.slice g.2.1 g.1.1.length g.2.2.1) g.1.1, Res.rowS 72 4 encLag (.slice g.2.2.2.1 g.1.2.length g.2.2.2.2) g.1.2]) (fun g => τ106) (fun g => Dk_ k132 g.1.1 g.1.2 = some z1) ?_ (fun g j hg => ?_)))
    ·skip
     refine TC.block (TC.a (TL.s z z (TL.i z z (TL.isSl (i := 1) z (fun hs143 _ _ => ?_)))))
     refine TL.w z (indexN z underlying69 sz72 z z hs143 (by omega)) (TL.w z (loadOA TLag.zero z ag72 sz72 z (q := 1) z encLag_len (by omega) (by omega)) (TL.op z (OpOk.alloc z ze72 z z (fun b144 => ?_))))
     refine TL.op z (storeAll z sz72 z z z z z z ?_)
     refine TL.en (TC.seq (TC.seq ?_))
     have u42 := grd_c hh
     replace hh := grd_t hh
     have u46 := grd_c hh
     replace hh := grd_t hh
     refine TC.draw [] (by kernel_rfl) (TA.a 0 z (moveSl (.inl z) z) z (TA.a 1 z (fieldLoc z fo72_0 z) z (TA.b 2 z (loadLoc z ag3 z (i := 0) z z) z (TA.b 3 z (OpVal.index z underlying67 sz46 z z hr106_0.isSl u42.1 u42.2) z ?_))))
     obtain ⟨p147, hk147, hg147⟩ := RZ.seg hr106_0 (((nth l125 k132 TLag.zero).p).toNat) (by omega)
     replace hk147 : RS _ 1 encB (.slice p147.1 (nth v22 (((nth l125 k132 TLag.zero).p).toNat) ([] : List Bool)).length p147.2) (nth v22 (((nth l125 k132 TLag.zero).p).toNat) ([] : List Bool)) := hk147
     have hk147b := hk147.rv.big
     refine TA.b 4 z (OpVal.of (loadSeg0 z ag46 z hg147 z) (v' := .slice p147.1 ((nth v22 (((nth l125 k132 TLag.zero).p).toNat) ([] : List Bool)).length) p147.2) z) z (TA.a 5 z (fieldLoc z fo72_1 z) z (TA.b 6 z (loadLoc z ag3 z (i := 0) z z) z (TA.b 7 z (OpVal.index z underlying46 sz4 z z hk147.rv.sl u46.1 u46.2) z (TA.b 8 z (loadS1 false z ag4 z hk147 (by omega) z) z (TA.a 9 z (OpVal.not z z) z (TA.dn (S.n (TC.cB z hh (fun h148 hh => ?_) (fun h148 hh => ?_)))))))))
     ·exact TC.exit (S.x (TC.exitHere (S.n (cf ((l125, l129), (a126, c127, a130, c131)) hh (Sub.f [3, 3, 3] 3)))))
     ·refine TC.skip (S.n (TC.cutG (α := (Unit) × (Unit)) (rgs [(2, 2), (49, 8)]) (fun g => []) (fun g => [Res.cells b101 #[.int .i64 v5.1.states, .slice a103_1 v5.1.starts.length c103_1, .slice a103_2 v5.1.ends.length c103_2, .slice a103_3 v5.1.arcs.length c103_3] 25, Res.rowS 72 4 encLag (.slice a126 l125.length c127) l125, Res.rowS 72 4 encLag (.slice a130 l129.length c131) l129, Res.cells b144 #[.int .i64 ((nth l125 k132 TLag.zero).p), .int .i64 ((nth l125 k132 TLag.zero).q), .string (bs ((nth l125 k132 TLag.zero).a)), .string (bs ((nth l125 k132 TLag.zero).b))] 72]) (fun g => τ106) (fun g => Bs_ l129 l125 k132 v5 = some z1) ?_ (fun g j hg => ?_)))
      ·skip
       refine TC.a (TL.w z (fieldLoc z fo72_2 z) (TL.w z (loadLoc z ag9 z (i := 0) z z) (TL.w z (neqBs z z z) (TL.j z z (TL.split 52 z (fun h149 => ?_) (fun h149 => ?_))))))
       ·replace hh := iteO_t h149 hh
        replace h149 := of_decide_eq_true h149
        refine TL.g z (fieldLoc z fo72_3 z) (TL.g z (loadLoc z ag9 z (i := 0) z z) (TL.g z (neqBs z z z) (TL.w z (pickTB z z z) (TL.en (TC.cD z hh (fun h150 hh => ?_) (fun h150 hh => ?_))))))
        ·refine TC.a (TL.j z z (TL.i z z (TL.en (TC.ofSub (Sub.pre 0 z) (TC.back (TC.ret (S.r (B.r (S.r (S.r ?_))))))))))
         replace hh := fin_x hR1 hh
         refine B.r (S.r ?_)
         obtain rfl := so hh
         exact rq [2, 3] ⟨z, z, z⟩
        ·exact TC.skip (S.n (cf ((), ()) hh (Sub.f [3, 3, 3] 4)))
       ·replace hh := iteO_f h149 hh
        replace h149 := of_decide_eq_false h149
        exact TL.f z (TL.f z (TL.f z (TL.w z (pickFB z z z) (TL.en (TC.f z (TC.skip (S.n (cf ((), ()) hh (Sub.f [3, 3, 3] 4)))))))))
      ·skip
       obtain ⟨_, _⟩ := g
       have hh := hg; clear hg
       try dsimp only
       dsimp only [Bs_] at hh
       refine TC.isSl (i := 1) z (fun _ hb151 _ => ?_)
       refine TC.isSl (i := 2) z (fun _ hb152 _ => ?_)
       refine TC.a (TL.j z z (TL.en (TC.seq (TC.a (TL.i z z (TL.en (TC.block (TC.loopG (α := (Bool × Nat) × (Unit)) (rgs [(2, 2), (10, 2), (57, 30)]) (fun g => [(10, .bool g.1.1), (11, .int .i64 ((g.1.2 : Nat) : Int))]) (fun g => [Res.cells b101 #[.int .i64 v5.1.states, .slice a103_1 v5.1.starts.length c103_1, .slice a103_2 v5.1.ends.length c103_2, .slice a103_3 v5.1.arcs.length c103_3] 25, Res.rowS 72 4 encLag (.slice a126 l125.length c127) l125, Res.rowS 72 4 encLag (.slice a130 l129.length c131) l129, Res.cells b144 #[.int .i64 ((nth l125 k132 TLag.zero).p), .int .i64 ((nth l125 k132 TLag.zero).q), .string (bs ((nth l125 k132 TLag.zero).a)), .string (bs ((nth l125 k132 TLag.zero).b))] 72]) (fun g => τ106) (fun g => iter (fun q : Bool × Nat => A0_ l129 l125 k132 v5 q.1 q.2) g.1 = some z1) (fun g => rounds (fun q : Bool × Nat => A0_ l129 l125 k132 v5 q.1 q.2) g.1) ((false, 0), ()) (Sub.f [3, 3, 3, 3] 4) z (by repeat (first | exact trivial | refine ⟨z, ?_⟩)) hh (fun g2 j2 hg2 => ?_)))))))))
       obtain ⟨⟨t157, k158⟩, _⟩ := g2
       have hh := hg2; clear hg2
       try dsimp only
       obtain ⟨z2, hh, hR2⟩ := iter_e hh
       dsimp only [A0_] at hh
       refine TC.isSl (i := 1) z (fun _ hb159 _ => ?_)
       refine TC.isSl (i := 2) z (fun _ hb160 _ => ?_)
       refine TC.seq (TC.a (TL.i z z (TL.s z z (TL.w z (lenC z underlying69 z) (TL.w z (OpVal.lss z z z) (TL.en (TC.cD z hh (fun h161 hh => ?_) (fun h161 hh => ?_))))))))
       ·refine TC.skip (S.n (TC.cutG (α := (Bool) × (Unit)) (rgs [(2, 2), (10, 1), (63, 24)]) (fun g => [(10, .bool g.1)]) (fun g => [Res.cells b101 #[.int .i64 v5.1.states, .slice a103_1 v5.1.starts.length c103_1, .slice a103_2 v5.1.ends.length c103_2, .slice a103_3 v5.1.arcs.length c103_3] 25, Res.rowS 72 4 encLag (.slice a126 l125.length c127) l125, Res.rowS 72 4 encLag (.slice a130 l129.length c131) l129, Res.cells b144 #[.int .i64 ((nth l125 k132 TLag.zero).p), .int .i64 ((nth l125 k132 TLag.zero).q), .string (bs ((nth l125 k132 TLag.zero).a)), .string (bs ((nth l125 k132 TLag.zero).b))] 72]) (fun g => τ106) (fun g => Cl_ k158 g.1 = some z2) ?_ (fun g j hg => ?_)))
        ·skip
         refine TC.block (TC.seq (TC.draw [] (by kernel_rfl) (TA.a 0 z (moveSl (.inl z) z) z (TA.a 1 z (moveI (.inl z) z) z (TA.isSl (i := 2) z (fun hs163 _ _ => ?_))))))
         refine TA.b 2 z (indexN z underlying69 sz72 z z hs163 (by omega)) z (TA.isSl (i := 2) z (fun hs164 _ _ => ?_))
         refine TA.a 3 z (fieldElem z fo72_0 z hs164 (by omega)) z (TA.b 4 z (loadO TLag.zero z ag3 z (q := 2) z encLag_len (by omega) (by omega) z) z (TA.a 5 z (fieldLoc z fo72_0 z) z (TA.b 6 z (loadLoc z ag3 z (i := 3) z z) z (TA.a 7 z (OpVal.eql z z z) z (TA.a 8 z (moveB (.inl z) z) z (TA.split 71 z (fun h165 => ?_) (fun h165 => ?_)))))))
         ·replace hh := iteO_t h165 hh
          replace h165 := of_decide_eq_true h165
          refine TA.on 9 z z z z (moveSl (.inl z) z) z (TA.on 10 z z z z (moveI (.inl z) z) z (TA.isSl (i := 2) z (fun hs166 _ _ => ?_)))
          refine TA.on 11 z z z z (indexN z underlying69 sz72 z z hs166 (by omega)) z (TA.isSl (i := 2) z (fun hs167 _ _ => ?_))
          refine TA.on 12 z z z z (fieldElem z fo72_1 z hs167 (by omega)) z (TA.on 13 z z z z (loadO TLag.zero z ag3 z (q := 2) z encLag_len (by omega) (by omega) z) z (TA.on 14 z z z z (fieldLoc z fo72_1 z) z (TA.on 15 z z z z (loadLoc z ag3 z (i := 3) z z) z (TA.on 16 z z z z (OpVal.eql z z z) z (TA.a 17 z (pickTB z z z) z (TA.dn (S.n (TC.cD z hh (fun h168 hh => ?_) (fun h168 hh => ?_)))))))))
          ·refine TC.a (TL.j z z (TL.en (TC.seq (TC.draw [] (by kernel_rfl) (TA.a 0 z (moveSl (.inl z) z) z (TA.a 1 z (moveI (.inl z) z) z (TA.isSl (i := 2) z (fun hs170 _ _ => ?_))))))))
           refine TA.b 2 z (indexN z underlying69 sz72 z z hs170 (by omega)) z (TA.b 3 z (loadOA TLag.zero z ag72 sz72 z (q := 2) z encLag_len (by omega) (by omega)) z (TA.b 4 z (loadAll z ag72 sz72 z (i := 3) z z) z (TA.a 5 z (neqSt (p := (nth l129 k158 TLag.zero) = (nth l125 k132 TLag.zero)) z z z eg72 (es72 (nth l129 k158 TLag.zero) (nth l125 k132 TLag.zero)) z) z (TA.dn (S.n (TC.cD z hh (fun h171 hh => ?_) (fun h171 hh => ?_)))))))
           ·refine TC.a (TL.j z z (TL.i z z (TL.en (TC.ofSub (Sub.pre 0 z) (TC.back (TC.ret (B.r (S.r (S.r ?_)))))))))
            replace hh := fin_x hR2 hh
            refine B.r (S.r (B.r (S.r (S.r ?_))))
            replace hh := fin_x hR1 hh
            refine B.r (S.r ?_)
            obtain rfl := so hh
            exact rq [2, 3] ⟨z, z, z⟩
           ·exact TC.skip (B.n (S.n (cf (true, ()) hh (Sub.f [3, 3, 3, 3] 4))))
          ·exact TC.skip (B.n (S.n (cf (t157, ()) hh (Sub.f [3, 3, 3, 3] 4))))
         ·replace hh := iteO_f h165 hh
          replace h165 := of_decide_eq_false h165
          exact TA.off 9 z z z z z z (TA.off 10 z z z z z z (TA.off 11 z z z z z z (TA.off 12 z z z z z z (TA.off 13 z z z z z z (TA.off 14 z z z z z z (TA.off 15 z z z z z z (TA.off 16 z z z z z z (TA.a 17 z (pickFB z z z) z (TA.dn (S.n (TC.f z (TC.skip (B.n (S.n (cf (t157, ()) hh (Sub.f [3, 3, 3, 3] 4))))))))))))))))
        ·skip
         obtain ⟨t162, _⟩ := g
         have hh := hg; clear hg
         try dsimp only
         dsimp only [Cl_] at hh
         refine TC.isSl (i := 1) z (fun _ hb172 _ => ?_)
         refine TC.isSl (i := 2) z (fun _ hb173 _ => ?_)
         refine TC.region (TL.i z z (TL.w z (OpVal.succ z z z (by omega)) (TL.i z z (TL.en ?_))))
         obtain ⟨hh, hlt174⟩ := nxt_x hR2 hh
         exact lf ((t162, (k158 + 1)), ()) hlt174 hh (Sub.f [3, 3, 3, 3] 4)
       ·refine TC.exit (S.x (S.x ?_))
        replace hh := fin_x hR2 hh
        refine TC.exitHere (S.n (TC.seq (TC.a (TL.j z z (TL.en (TC.cB z hh (fun h175 hh => ?_) (fun h175 hh => ?_)))))))
        ·exact TC.exit (S.x (TC.exitHere (S.n (cf ((l125, l129), (a126, c127, a130, c131)) hh (Sub.f [2, 2, 2] 3)))))
        ·refine TC.skip (S.n (TC.a (TL.s z z (TL.w z (loadAll z ag72 sz72 z (i := 3) z z) (TL.op z (OpOk.lit (enc := encLag) [(nth l125 k132 TLag.zero)] z underlying69 sz72 ze72 z z z encLag_len (by decide) (by decide) TLag.zero z (by decide) z (by decide) encLag_one (fun a176 c177 => ?_)))))))
         refine TL.front 3 z z ?_
         have u99 := grd_c hh
         replace hh := grd_t hh
         refine TL.op z (appendS z z underlying69 sz72 by72 ze72 z z (by decide) z z z (.inr ⟨_, 0, z⟩) (by simpa using u99) (by decide) (fun a179 c180 => ?_))
         refine TL.s z z (TL.en (TC.seq (TC.a (TL.i z z (TL.en (TC.block (TC.loopG (α := (Nat) × (Unit)) (rgs [(2, 2), (12, 2), (92, 55)]) (fun g => [(12, .int .i64 ((g.1 : Nat) : Int))]) (fun g => [Res.cells b101 #[.int .i64 v5.1.states, .slice a103_1 v5.1.starts.length c103_1, .slice a103_2 v5.1.ends.length c103_2, .slice a103_3 v5.1.arcs.length c103_3] 25, Res.rowS 72 4 encLag (.slice a126 l125.length c127) l125, Res.rowS 72 4 encLag (.slice a179 (l129 ++ [(nth l125 k132 TLag.zero)]).length c180) (l129 ++ [(nth l125 k132 TLag.zero)]), Res.cells b144 #[.int .i64 ((nth l125 k132 TLag.zero).p), .int .i64 ((nth l125 k132 TLag.zero).q), .string (bs ((nth l125 k132 TLag.zero).a)), .string (bs ((nth l125 k132 TLag.zero).b))] 72]) (fun g => τ106) (fun g => iter (fun q : Nat => Ap_ v5 l125 k132 l129 q) g.1 = some z1) (fun g => rounds (fun q : Nat => Ap_ v5 l125 k132 l129 q) g.1) (0, ()) (Sub.f [4, 1, 4, 4] 4) z (by repeat (first | exact trivial | refine ⟨z, ?_⟩)) hh (fun g3 j3 hg3 => ?_))))))))
         obtain ⟨k183, _⟩ := g3
         have hh := hg3; clear hg3
         try dsimp only
         obtain ⟨z2, hh, hR2⟩ := iter_e hh
         dsimp only [Ap_] at hh
         refine TC.isSl (i := 1) z (fun _ hb184 _ => ?_)
         refine TC.isSl (i := 2) z (fun _ hb185 _ => ?_)
         refine TC.seq (TC.a (TL.i z z (TL.w z (fieldLoc z fo25_2 z) (TL.w z (loadLoc z ag22 z (i := 0) z z) (TL.w z (lenC z underlying22 z) (TL.w z (OpVal.lss z z z) (TL.en (TC.cD z hh (fun h186 hh => ?_) (fun h186 hh => ?_)))))))))
         ·refine TC.skip (S.n (TC.seq (TC.block (TC.a (TL.i z z (TL.en (TC.block (TC.loopG (α := (Nat) × (Unit)) (rgs [(2, 2), (13, 1), (99, 48)]) (fun g => [(13, .int .i64 ((g.1 : Nat) : Int))]) (fun g => [Res.cells b101 #[.int .i64 v5.1.states, .slice a103_1 v5.1.starts.length c103_1, .slice a103_2 v5.1.ends.length c103_2, .slice a103_3 v5.1.arcs.length c103_3] 25, Res.rowS 72 4 encLag (.slice a126 l125.length c127) l125, Res.rowS 72 4 encLag (.slice a179 (l129 ++ [(nth l125 k132 TLag.zero)]).length c180) (l129 ++ [(nth l125 k132 TLag.zero)]), Res.cells b144 #[.int .i64 ((nth l125 k132 TLag.zero).p), .int .i64 ((nth l125 k132 TLag.zero).q), .string (bs ((nth l125 k132 TLag.zero).a)), .string (bs ((nth l125 k132 TLag.zero).b))] 72]) (fun g => τ106) (fun g => iter (fun q : Nat => Ao_ v5 k183 l125 k132 q) g.1 = some z2) (fun g => rounds (fun q : Nat => Ao_ v5 k183 l125 k132 q) g.1) (0, ()) (Sub.f [3, 3, 3, 3] 4) z (by repeat (first | exact trivial | refine ⟨z, ?_⟩)) hh (fun g4 j4 hg4 => ?_)))))))))
          obtain ⟨k189, _⟩ := g4
          have hh := hg4; clear hg4
          try dsimp only
          obtain ⟨z3, hh, hR3⟩ := iter_e hh
          dsimp only [Ao_] at hh
          refine TC.isSl (i := 1) z (fun _ hb190 _ => ?_)
          refine TC.isSl (i := 2) z (fun _ hb191 _ => ?_)
          refine TC.seq (TC.a (TL.i z z (TL.w z (fieldLoc z fo25_2 z) (TL.w z (loadLoc z ag22 z (i := 0) z z) (TL.w z (lenC z underlying22 z) (TL.w z (OpVal.lss z z z) (TL.en (TC.cD z hh (fun h192 hh => ?_) (fun h192 hh => ?_)))))))))
          ·refine TC.skip (S.n (TC.cutG (α := (Unit) × (Unit)) (rgs [(2, 2), (106, 41)]) (fun g => []) (fun g => [Res.cells b101 #[.int .i64 v5.1.states, .slice a103_1 v5.1.starts.length c103_1, .slice a103_2 v5.1.ends.length c103_2, .slice a103_3 v5.1.arcs.length c103_3] 25, Res.rowS 72 4 encLag (.slice a126 l125.length c127) l125, Res.rowS 72 4 encLag (.slice a179 (l129 ++ [(nth l125 k132 TLag.zero)]).length c180) (l129 ++ [(nth l125 k132 TLag.zero)]), Res.cells b144 #[.int .i64 ((nth l125 k132 TLag.zero).p), .int .i64 ((nth l125 k132 TLag.zero).q), .string (bs ((nth l125 k132 TLag.zero).a)), .string (bs ((nth l125 k132 TLag.zero).b))] 72]) (fun g => τ106) (fun g => Cp_ k189 = some z3) ?_ (fun g j hg => ?_)))
           ·skip
            refine TC.block (TC.seq (TC.draw [] (by kernel_rfl) (TA.a 0 z (fieldLoc z fo25_2 z) z (TA.b 1 z (loadLoc z ag22 z (i := 0) z z) z (TA.a 2 z (moveI (.inl z) z) z (TA.b 3 z (indexN z underlying22 sz53 z z hr103_1.rv.sl (by omega)) z (TA.a 4 z (fieldElem z fo53_0 z hr103_1.rv.sl (by omega)) z (TA.b 5 z (loadS Tip.zero z ag3 z hr103_1 (by omega) (by omega) z) z (TA.a 6 z (fieldLoc z fo72_0 z) z (TA.b 7 z (loadLoc z ag3 z (i := 3) z z) z (TA.a 8 z (OpVal.eql z z z) z (TA.a 9 z (moveB (.inl z) z) z (TA.split 115 z (fun h193 => ?_) (fun h193 => ?_))))))))))))))
            ·replace hh := iteO_t h193 hh
             replace h193 := of_decide_eq_true h193
             refine TA.on 10 z z z z (fieldLoc z fo25_2 z) z (TA.on 11 z z z z (loadLoc z ag22 z (i := 0) z z) z (TA.on 12 z z z z (moveI (.inl z) z) z (TA.on 13 z z z z (indexN z underlying22 sz53 z z hr103_1.rv.sl (by omega)) z (TA.on 14 z z z z (fieldElem z fo53_0 z hr103_1.rv.sl (by omega)) z (TA.on 15 z z z z (loadS Tip.zero z ag3 z hr103_1 (by omega) (by omega) z) z (TA.on 16 z z z z (fieldLoc z fo72_1 z) z (TA.on 17 z z z z (loadLoc z ag3 z (i := 3) z z) z (TA.on 18 z z z z (OpVal.eql z z z) z (TA.a 19 z (pickTB z z z) z (TA.a 20 z (moveB (.inl z) z) z (TA.split 126 z (fun h194 => ?_) (fun h194 => ?_))))))))))))
             ·replace hh := iteO_t h194 hh
              replace h194 := of_decide_eq_true h194
              refine TA.on 21 z z z z (fieldLoc z fo72_2 z) z (TA.on 22 z z z z (loadLoc z ag9 z (i := 3) z z) z (TA.on 23 z z z z (fieldLoc z fo25_2 z) z (TA.on 24 z z z z (loadLoc z ag22 z (i := 0) z z) z (TA.on 25 z z z z (moveI (.inl z) z) z (TA.on 26 z z z z (indexN z underlying22 sz53 z z hr103_1.rv.sl (by omega)) z (TA.on 27 z z z z (fieldElem z fo53_1 z hr103_1.rv.sl (by omega)) z (TA.on 28 z z z z (loadS Tip.zero z ag9 z hr103_1 (by omega) (by omega) z) z ?_)))))))
              have u142 := grd_c hh
              replace hh := grd_t hh
              refine TA.on 29 z z z z (catBs z z z u142) z (TA.on 30 z z z z (fieldLoc z fo72_3 z) z (TA.on 31 z z z z (loadLoc z ag9 z (i := 3) z z) z (TA.on 32 z z z z (fieldLoc z fo25_2 z) z (TA.on 33 z z z z (loadLoc z ag22 z (i := 0) z z) z (TA.on 34 z z z z (moveI (.inl z) z) z (TA.on 35 z z z z (indexN z underlying22 sz53 z z hr103_1.rv.sl (by omega)) z (TA.on 36 z z z z (fieldElem z fo53_1 z hr103_1.rv.sl (by omega)) z (TA.on 37 z z z z (loadS Tip.zero z ag9 z hr103_1 (by omega) (by omega) z) z ?_))))))))
              have u151 := grd_c hh
              replace hh := grd_t hh
              refine TA.on 38 z z z z (catBs z z z u151) z (TA.on 39 z z z z (neqBs z z z) z (TA.a 40 z (pickTB z z z) z (TA.dn (S.n (TC.cD z hh (fun h195 hh => ?_) (fun h195 hh => ?_))))))
              ·refine TC.a (TL.j z z (TL.i z z (TL.en (TC.ofSub (Sub.pre 0 z) (TC.back (TC.ret (B.r (S.r (S.r ?_)))))))))
               replace hh := fin_x hR3 hh
               refine B.r (B.r (S.r (S.r ?_)))
               replace hh := fin_x hR2 hh
               refine B.r (S.r (B.r (S.r (S.r ?_))))
               replace hh := fin_x hR1 hh
               refine B.r (S.r ?_)
               obtain rfl := so hh
               exact rq [2, 3] ⟨z, z, z⟩
              ·exact TC.skip (B.n (S.n (cf ((), ()) hh (Sub.f [3, 3, 3, 3] 4))))
             ·replace hh := iteO_f h194 hh
              replace h194 := of_decide_eq_false h194
              exact TA.off 21 z z z z z z (TA.off 22 z z z z z z (TA.off 23 z z z z z z (TA.off 24 z z z z z z (TA.off 25 z z z z z z (TA.off 26 z z z z z z (TA.off 27 z z z z z z (TA.off 28 z z z z z z (TA.off 29 z z z z z z (TA.off 30 z z z z z z (TA.off 31 z z z z z z (TA.off 32 z z z z z z (TA.off 33 z z z z z z (TA.off 34 z z z z z z (TA.off 35 z z z z z z (TA.off 36 z z z z z z (TA.off 37 z z z z z z (TA.off 38 z z z z z z (TA.off 39 z z z z z z (TA.a 40 z (pickFB z z z) z (TA.dn (S.n (TC.f z (TC.skip (B.n (S.n (cf ((), ()) hh (Sub.f [3, 3, 3, 3] 4)))))))))))))))))))))))))))
            ·replace hh := iteO_f h193 hh
             replace h193 := of_decide_eq_false h193
             exact TA.off 10 z z z z z z (TA.off 11 z z z z z z (TA.off 12 z z z z z z (TA.off 13 z z z z z z (TA.off 14 z z z z z z (TA.off 15 z z z z z z (TA.off 16 z z z z z z (TA.off 17 z z z z z z (TA.off 18 z z z z z z (TA.a 19 z (pickFB z z z) z (TA.a 20 z (moveB (.inl z) z) z (TA.off 21 z z z z z z (TA.off 22 z z z z z z (TA.off 23 z z z z z z (TA.off 24 z z z z z z (TA.off 25 z z z z z z (TA.off 26 z z z z z z (TA.off 27 z z z z z z (TA.off 28 z z z z z z (TA.off 29 z z z z z z (TA.off 30 z z z z z z (TA.off 31 z z z z z z (TA.off 32 z z z z z z (TA.off 33 z z z z z z (TA.off 34 z z z z z z (TA.off 35 z z z z z z (TA.off 36 z z z z z z (TA.off 37 z z z z z z (TA.off 38 z z z z z z (TA.off 39 z z z z z z (TA.a 40 z (pickFB z z z) z (TA.dn (S.n (TC.f z (TC.skip (B.n (S.n (cf ((), ()) hh (Sub.f [3, 3, 3, 3] 4))))))))))))))))))))))))))))))))))))))
           ·skip
            obtain ⟨_, _⟩ := g
            have hh := hg; clear hg
            try dsimp only
            dsimp only [Cp_] at hh
            refine TC.isSl (i := 1) z (fun _ hb196 _ => ?_)
            refine TC.isSl (i := 2) z (fun _ hb197 _ => ?_)
            refine TC.region (TL.i z z (TL.w z (OpVal.succ z z z (by omega)) (TL.i z z (TL.en ?_))))
            obtain ⟨hh, hlt198⟩ := nxt_x hR3 hh
            exact lf ((k189 + 1), ()) hlt198 hh (Sub.f [3, 3, 3, 3] 4)
          ·refine TC.exit (S.x (S.x ?_))
           replace hh := fin_x hR3 hh
           refine TC.exitHere (B.n (S.n (TC.region (TL.i z z (TL.w z (OpVal.succ z z z (by omega)) (TL.i z z (TL.en ?_)))))))
           obtain ⟨hh, hlt199⟩ := nxt_x hR2 hh
           exact lf ((k183 + 1), ()) hlt199 hh (Sub.f [3, 3, 3, 3] 4)
         ·refine TC.exit (S.x (S.x ?_))
          replace hh := fin_x hR2 hh
          refine TC.exitHere (S.n (TC.region (TL.s z z (TL.w z (loadAll z ag25 sz25 z (i := 0) z z) (TL.w z (loadAll z ag72 sz72 z (i := 3) z z) ?_)))))
          obtain ⟨v165, u165, hh⟩ := bnd_e hh
          refine TL.op z (OpOk.call (Gr_ (x0 := v5.1) hr103_0 hr103_1 hr103_2 u165) z z pf38 z z z z ?_)
          rintro _ _ _ hle200 ⟨a200_1, c200_1, rfl, rfl, rfl⟩
          refine TL.front 2 z z ?_
          have u166 := grd_c hh
          replace hh := grd_t hh
          refine TL.op z (appendS z z underlying69 sz72 by72 ze72 z z (by decide) z z z (.inr ⟨_, 0, z⟩) (by simpa using u166) (by decide) (fun a202 c203 => ?_))
          exact TL.s z z (TL.nil (B.n (S.n (cf (((l125 ++ v165), (l129 ++ [(nth l125 k132 TLag.zero)])), (a202, c203, a179, c180)) hh (Sub.f [3, 1, 3] 3)))))
    ·skip
     obtain ⟨⟨l137, l140⟩, ⟨a138, c139, a141, c142⟩⟩ := g
     have hh := hg; clear hg
     try dsimp only
     dsimp only [Dk_] at hh
     refine TC.isSl (i := 1) z (fun _ hb204 _ => ?_)
     refine TC.isSl (i := 2) z (fun _ hb205 _ => ?_)
     refine TC.region (TL.i z z (TL.w z (OpVal.succ z z z (by omega)) (TL.i z z (TL.en ?_))))
     obtain ⟨hh, hlt206⟩ := nxt_x hR1 hh
     exact lf ((l137, l140, (k132 + 1)), (a138, c139, a141, c142)) hlt206 hh (Sub.f [2, 2, 2] 3)
   ·refine TC.exit (S.x (S.x ?_))
    replace hh := fin_x hR1 hh
    refine TC.exitHere (S.n (TC.a (TL.j z z (TL.i z z (TL.en (TC.ofSub (Sub.pre 0 z) (TC.back (TC.ret ?_))))))))
    obtain rfl := so hh
    exact rq [2, 3] ⟨z, z, z⟩
end Go.Proofs.YtjhbngjhdmapmaaGreatDoor
end

section
namespace Go.Proofs.YtjhbngjhdmapmaaGreatDoor
open Go Go.E
theorem grp_len {β γ : Type} {key : β → Int} {val : β → γ} {n : Nat} {l : List (List γ)} {xs : List β} (h : Grp key val n l xs) {i : Nat} (hi : i < n) : (nth l i []).length ≤ xs.length := by
  rw [h.row i hi, List.length_map]; exact List.length_filter_le ..
theorem take_len_le {α : Type} (l : List α) (k : Nat) : (l.take k).length ≤ l.length := by rw [List.length_take]; omega
theorem useful_eq {t : Fst} (ht : FstOk t) : ∃ on bk, E5_ t = some (t, on, bk) ∧ Grp Arc.frm Arc.to t.states.toNat on t.arcs ∧ Grp Arc.to Arc.frm t.states.toNat bk t.arcs := by
  have h0 := ht.st0
  have h1 := ht.st1
  have hN := ht.arcsN
  unfold E5_ E2_
  rw [grd_mk ⟨h0, by omega⟩, grd_mk ⟨h0, by omega⟩]
  obtain ⟨r, h2, on, bk, rfl, h3, h4⟩ := iter_for (step := fun q : List (List Int) × List (List Int) × Nat => B7_ t q.1 q.2.1 q.2.2) (fun (s : List (List Int) × List (List Int)) k => (s.1, s.2, k)) t.arcs Arc.zero
    (fun pre s => Grp Arc.frm Arc.to t.states.toNat s.1 pre ∧ Grp Arc.to Arc.frm t.states.toNat s.2 pre)
    (fun r => ∃ on bk, r = (t, on, bk) ∧ Grp Arc.frm Arc.to t.states.toNat on t.arcs ∧ Grp Arc.to Arc.frm t.states.toNat bk t.arcs)
    (fun k s hk ⟨a1, a2⟩ => by
      obtain ⟨b1, b2, b3, b4⟩ := ht.arcs _ (mem_at Arc.zero hk)
      have l1 := a1.len
      have l2 := a2.len
      have r1 := grp_len a1 (i := (nth t.arcs k Arc.zero).frm.toNat) (by omega)
      have r2 := grp_len a2 (i := (nth t.arcs k Arc.zero).to.toNat) (by omega)
      have r3 := take_len_le t.arcs k
      refine .inl ⟨(s.1.set (nth t.arcs k Arc.zero).frm.toNat (nth s.1 (nth t.arcs k Arc.zero).frm.toNat [] ++ [(nth t.arcs k Arc.zero).to]), s.2.set (nth t.arcs k Arc.zero).to.toNat (nth s.2 (nth t.arcs k Arc.zero).to.toNat [] ++ [(nth t.arcs k Arc.zero).frm])), ?_, a1.snoc b1.1 (by omega), a2.snoc b2.1 (by omega)⟩
      show B7_ t s.1 s.2 k = _
      unfold B7_ E3_ Ey_
      rw [iteO_dt (by omega), grd_mk ⟨b1.1, by omega⟩, grd_mk (by simp only [List.length_singleton]; omega), grd_mk ⟨b1.1, by omega⟩, grd_mk ⟨b2.1, by omega⟩, grd_mk (by simp only [List.length_singleton]; omega), grd_mk ⟨b2.1, by omega⟩]
      rfl)
    (fun s hI => ⟨(t, s.1, s.2), by
      show B7_ t s.1 s.2 t.arcs.length = _
      unfold B7_
      rw [iteO_df (by omega)]; rfl, s.1, s.2, rfl, hI.1, hI.2⟩)
    (s0 := (List.replicate t.states.toNat [], List.replicate t.states.toNat [])) ⟨Grp.nil .., Grp.nil ..⟩
  exact ⟨on, bk, h2, h3, h4⟩
theorem stE_on {t : Fst} (ht : FstOk t) {key val : Arc → Int} {l : List (List Int)} (h : Grp key val t.states.toNat l t.arcs) (hk : ∀ a ∈ t.arcs, 0 ≤ key a ∧ key a < t.states) : stE l = fun a b => ∃ x ∈ t.arcs, key x = a ∧ val x = b := by
  funext a b
  refine propext ⟨fun ⟨h0, hb⟩ => ?_, fun ⟨x, hx, h1, h2⟩ => ?_⟩
  · have hlt : a.toNat < t.states.toNat := by
      have := h.len
      by_cases hl : a.toNat < l.length
      · omega
      · unfold nth at hb
        rw [List.getD_eq_getElem?_getD, List.getElem?_eq_none (by omega)] at hb
        simp at hb
    rw [h.row _ hlt, List.mem_map] at hb
    obtain ⟨x, hx, e⟩ := hb
    have := List.mem_filter.1 hx
    exact ⟨x, this.1, by have := of_decide_eq_true this.2; omega, e⟩
  · have := hk x hx
    refine ⟨by omega, ?_⟩
    rw [h.row _ (by omega), List.mem_map]
    exact ⟨x, List.mem_filter.2 ⟨hx, decide_eq_true (by omega)⟩, h2⟩
theorem grp_rng {t : Fst} {key val : Arc → Int} {l : List (List Int)} (h : Grp key val t.states.toNat l t.arcs) (hk : ∀ a ∈ t.arcs, 0 ≤ val a ∧ val a < t.states) : ∀ a, ∀ z ∈ nth l a [], 0 ≤ z ∧ z < t.states.toNat := fun a z hz => by
  have hl := h.len
  by_cases ha : a < t.states.toNat
  · rw [h.row _ ha, List.mem_map] at hz
    obtain ⟨x, hx, rfl⟩ := hz
    have := hk x (List.mem_filter.1 hx).1
    omega
  · unfold nth at hz
    rw [List.getD_eq_getElem?_getD, List.getElem?_eq_none (by omega)] at hz
    simp at hz
def NumOk (p : Nat → Bool) (n : Nat) (num : List Int) : Prop := num.length = n ∧ ∀ s : Int, 0 ≤ s → s < n → nth num s.toNat 0 = numB p s
theorem keepT_snoc (p : Nat → Bool) (l : List Tip) (k : Nat) (h : k < l.length) : keepT p (l.take (k + 1)) = keepT p (l.take k) ++ (if 0 ≤ numB p (nth l k Tip.zero).state then [⟨numB p (nth l k Tip.zero).state, (nth l k Tip.zero).out⟩] else []) := by
  rw [take_snoc l h Tip.zero]
  unfold keepT
  rw [List.filterMap_append]
  congr 1
  by_cases hc : 0 ≤ numB p (nth l k Tip.zero).state
  · rw [List.filterMap_cons, if_pos hc, if_pos hc]; rfl
  · rw [List.filterMap_cons, if_neg hc, if_neg hc]; rfl
theorem keepA_snoc (p : Nat → Bool) (l : List Arc) (k : Nat) (h : k < l.length) : keepA p (l.take (k + 1)) = keepA p (l.take k) ++ (if 0 ≤ numB p (nth l k Arc.zero).frm ∧ 0 ≤ numB p (nth l k Arc.zero).to then [⟨numB p (nth l k Arc.zero).frm, numB p (nth l k Arc.zero).to, (nth l k Arc.zero).set, (nth l k Arc.zero).out, (nth l k Arc.zero).copy⟩] else []) := by
  rw [take_snoc l h Arc.zero]
  unfold keepA
  rw [List.filterMap_append]
  congr 1
  by_cases hc : 0 ≤ numB p (nth l k Arc.zero).frm ∧ 0 ≤ numB p (nth l k Arc.zero).to
  · rw [List.filterMap_cons, if_pos hc, if_pos hc]; rfl
  · rw [List.filterMap_cons, if_neg hc, if_neg hc]; rfl
theorem trim_arcs {t : Fst} (ht : FstOk t) {p : Nat → Bool} {num : List Int} (hn : NumOk p t.states.toNat num) (c : Nat) (S E : List Tip) :
    iter (fun q : List Arc × Nat => Cx_ t num c S E q.1 q.2) (([] : List Arc), 0) = bnd (D2_ ⟨(c : Int), S, E, keepA p t.arcs⟩) (fun v => some (v.1, v.2)) := by
  have hN := ht.arcsN
  obtain ⟨r, hr⟩ : ∃ r, bnd (D2_ ⟨(c : Int), S, E, keepA p t.arcs⟩) (fun v => some (v.1, v.2)) = some r := by rw [sort_eq]; exact ⟨_, rfl⟩
  rw [hr]
  refine iter_fold t.arcs Arc.zero (fun k => keepA p (t.arcs.take k)) (fun k hk => ?_) ?_
  · obtain ⟨b1, b2, b3, b4⟩ := ht.arcs _ (mem_at Arc.zero hk)
    have hl := keepA_len p (t.arcs.take k)
    have r3 := take_len_le t.arcs k
    have e1 := hn.2 _ b1.1 (by omega)
    have e2 := hn.2 _ b2.1 (by omega)
    have l1 := hn.1
    show Cx_ t num c S E _ k = _
    unfold Cx_ Eb_
    rw [iteO_dt (by omega), grd_mk ⟨b1.1, by omega⟩, grd_mk ⟨b2.1, by omega⟩, e1, e2, keepA_snoc p _ k hk]
    by_cases c1 : 0 ≤ numB p (nth t.arcs k Arc.zero).frm
    · rw [iteO_dt c1]
      by_cases c2 : 0 ≤ numB p (nth t.arcs k Arc.zero).to
      · rw [iteO_dt c2, if_pos ⟨c1, c2⟩, grd_mk (by simp only [List.length_singleton]; omega)]; rfl
      · rw [iteO_df c2, if_neg (fun h => c2 h.2), List.append_nil]; rfl
    · rw [iteO_df c1, if_neg (fun h => c1 h.1), List.append_nil]; rfl
  · show Cx_ t num c S E _ _ = _
    unfold Cx_
    rw [iteO_df (by omega), List.take_length, hr]; rfl
theorem trim_ends {t : Fst} (ht : FstOk t) {p : Nat → Bool} {num : List Int} (hn : NumOk p t.states.toNat num) (c : Nat) (S : List Tip) :
    iter (fun q : List Tip × Nat => Cv_ t num c S q.1 q.2) (([] : List Tip), 0) = bnd (D2_ ⟨(c : Int), S, keepT p t.ends, keepA p t.arcs⟩) (fun v => some (v.1, v.2)) := by
  have hN := ht.endsN
  obtain ⟨r, hr⟩ : ∃ r, bnd (D2_ ⟨(c : Int), S, keepT p t.ends, keepA p t.arcs⟩) (fun v => some (v.1, v.2)) = some r := by rw [sort_eq]; exact ⟨_, rfl⟩
  rw [hr]
  refine iter_fold t.ends Tip.zero (fun k => keepT p (t.ends.take k)) (fun k hk => ?_) ?_
  · obtain ⟨b1, b2⟩ := ht.ends _ (mem_at Tip.zero hk)
    have hl := keepT_len p (t.ends.take k)
    have r3 := take_len_le t.ends k
    have e1 := hn.2 _ b1.1 (by omega)
    have l1 := hn.1
    show Cv_ t num c S _ k = _
    unfold Cv_ Et_
    rw [iteO_dt (by omega), grd_mk ⟨b1.1, by omega⟩, e1, keepT_snoc p _ k hk]
    by_cases c1 : 0 ≤ numB p (nth t.ends k Tip.zero).state
    · rw [iteO_dt c1, if_pos c1, grd_mk (by simp only [List.length_singleton]; omega)]; rfl
    · rw [iteO_df c1, if_neg c1, List.append_nil]; rfl
  · show Cv_ t num c S _ _ = _
    unfold Cv_
    rw [iteO_df (by omega), List.take_length, trim_arcs ht hn, hr]; rfl
theorem trim_starts {t : Fst} (ht : FstOk t) {p : Nat → Bool} {num : List Int} (hn : NumOk p t.states.toNat num) (c : Nat) :
    iter (fun q : List Tip × Nat => Ct_ t num c q.1 q.2) (([] : List Tip), 0) = bnd (D2_ ⟨(c : Int), keepT p t.starts, keepT p t.ends, keepA p t.arcs⟩) (fun v => some (v.1, v.2)) := by
  have hN := ht.startsN
  obtain ⟨r, hr⟩ : ∃ r, bnd (D2_ ⟨(c : Int), keepT p t.starts, keepT p t.ends, keepA p t.arcs⟩) (fun v => some (v.1, v.2)) = some r := by rw [sort_eq]; exact ⟨_, rfl⟩
  rw [hr]
  refine iter_fold t.starts Tip.zero (fun k => keepT p (t.starts.take k)) (fun k hk => ?_) ?_
  · obtain ⟨b1, b2⟩ := ht.starts _ (mem_at Tip.zero hk)
    have hl := keepT_len p (t.starts.take k)
    have r3 := take_len_le t.starts k
    have e1 := hn.2 _ b1.1 (by omega)
    have l1 := hn.1
    show Ct_ t num c _ k = _
    unfold Ct_ Eu_
    rw [iteO_dt (by omega), grd_mk ⟨b1.1, by omega⟩, e1, keepT_snoc p _ k hk]
    by_cases c1 : 0 ≤ numB p (nth t.starts k Tip.zero).state
    · rw [iteO_dt c1, if_pos c1, grd_mk (by simp only [List.length_singleton]; omega)]; rfl
    · rw [iteO_df c1, if_neg c1, List.append_nil]; rfl
  · show Ct_ t num c _ _ = _
    unfold Ct_
    rw [iteO_df (by omega), List.take_length, trim_ends ht hn, hr]; rfl
theorem number_eq {t : Fst} (ht : FstOk t) {on bk : List (List Int)} (h1 : Grp Arc.frm Arc.to t.states.toNat on t.arcs) (h2 : Grp Arc.to Arc.frm t.states.toNat bk t.arcs) {l0 : List Int} (hl0 : l0.length = t.states.toNat) (hm : ∀ i, i < t.states.toNat → nth l0 i 0 = -1) :
    ∃ num, El_ (stepY (fun (q : List Int × Nat) (x : Int) => Dj_ q.1 q.2 x)) (0, (l0, 0)) (⟨t.states, t.starts, t.ends, t.arcs⟩ : Fst) on bk = some (0, (num, cntB (useB t) t.states.toNat)) ∧ NumOk (useB t) t.states.toNat num := by
  have h0 := ht.st0
  have hs1 := ht.st1
  obtain ⟨ah, a1, a2, a3⟩ := reach_ok (tips := t.starts) (by omega) h1.len (grp_rng h1 fun a ha => (ht.arcs a ha).2.1) (fun x hx => by have := (ht.starts x hx).1; omega)
  obtain ⟨be, b1, b2, b3⟩ := reach_ok (tips := t.ends) (by omega) h2.len (grp_rng h2 fun a ha => (ht.arcs a ha).1) (fun x hx => by have := (ht.ends x hx).1; omega)
  rw [stE_on ht h1 fun a ha => (ht.arcs a ha).1] at a3
  rw [stE_on ht h2 fun a ha => (ht.arcs a ha).2.1] at b3
  have hp : ∀ v, useB t v = (nth ah v false && nth be v false) := fun v => by
    rw [Bool.eq_iff_iff, Bool.and_eq_true, a3 v, b3 v]; exact useB_iff
  unfold El_
  rw [bnd_some a1, bnd_some b1]
  obtain ⟨r, e, f⟩ := iter_up (step := fun q : Nat × (Nat × List Int × Nat) => Bu_ ah be (stepY (fun (q : List Int × Nat) (x : Int) => Dj_ q.1 q.2 x)) q.1 q.2) (fun (s : Nat × List Int × Nat) k => (k, s)) t.states.toNat
    (fun k s => s.1 = 0 ∧ s.2.2 = cntB (useB t) k ∧ s.2.1.length = t.states.toNat ∧ ∀ i, i < t.states.toNat → nth s.2.1 i 0 = if i < k then numB (useB t) i else -1)
    (fun r => r.1 = 0 ∧ r.2.2 = cntB (useB t) t.states.toNat ∧ NumOk (useB t) t.states.toNat r.2.1)
    (fun k s hk ⟨c1, c2, c3, c4⟩ => by
      obtain ⟨j, l, c⟩ := s
      obtain rfl : j = 0 := c1
      obtain rfl : c = cntB (useB t) k := c2
      dsimp only at c3 c4
      refine .inl ?_
      show ∃ s' : Nat × List Int × Nat, Bu_ ah be _ k (0, l, cntB (useB t) k) = _ ∧ _
      unfold Bu_ Di_
      rw [iteO_dt (by omega)]
      have hk' := hp k
      cases ha : nth ah k false with
      | false =>
        rw [ha, Bool.false_and] at hk'
        refine ⟨(0, l, cntB (useB t) k), rfl, rfl, by simp only [cntB, hk']; rfl, c3, fun i hi => ?_⟩
        dsimp only
        rw [c4 i hi]
        by_cases e1 : i < k
        · rw [if_pos e1, if_pos (by omega)]
        · rw [if_neg e1]
          by_cases e2 : i < k + 1
          · obtain rfl : i = k := by omega
            rw [if_pos e2]; unfold numB; simp [hk']
          · rw [if_neg e2]
      | true =>
        rw [iteO_true, grd_mk (by omega)]
        cases hb : nth be k false with
        | false =>
          rw [ha, hb, Bool.true_and] at hk'
          refine ⟨(0, l, cntB (useB t) k), rfl, rfl, by simp only [cntB, hk']; rfl, c3, fun i hi => ?_⟩
          dsimp only
          rw [c4 i hi]
          by_cases e1 : i < k
          · rw [if_pos e1, if_pos (by omega)]
          · rw [if_neg e1]
            by_cases e2 : i < k + 1
            · obtain rfl : i = k := by omega
              rw [if_pos e2]; unfold numB; simp [hk']
            · rw [if_neg e2]
        | true =>
          rw [ha, hb, Bool.true_and] at hk'
          have hy : stepY (fun (q : List Int × Nat) (x : Int) => Dj_ q.1 q.2 x) (0, l, cntB (useB t) k) ((k : Nat) : Int) = some ((0, l.set k ((cntB (useB t) k : Nat) : Int), cntB (useB t) k + 1), true) := by
            unfold stepY
            rw [if_pos rfl]
            show (Dj_ l (cntB (useB t) k) ((k : Nat) : Int)).bind _ = _
            unfold Dj_
            have hself := cntB_self (useB t) k
            rw [grd_mk ⟨by omega, by omega⟩, grd_mk (by omega)]; rfl
          rw [iteO_true, bnd_some hy]
          refine ⟨(0, l.set k ((cntB (useB t) k : Nat) : Int), cntB (useB t) k + 1), rfl, rfl, by simp only [cntB, hk', if_true], by rw [List.length_set]; exact c3, fun i hi => ?_⟩
          dsimp only
          rw [nth_set]
          by_cases e1 : k = i
          · subst e1
            rw [if_pos ⟨rfl, by omega⟩, if_pos (by omega), numB_pos (by simpa using hk')]; simp
          · rw [if_neg (fun h => e1 h.1), c4 i hi]
            by_cases e2 : i < k
            · rw [if_pos e2, if_pos (by omega)]
            · rw [if_neg e2, if_neg (by omega)])
    (fun s ⟨c1, c2, c3, c4⟩ => ⟨s, by
      show Bu_ ah be _ _ s = _
      unfold Bu_
      rw [iteO_df (by omega)]; rfl, c1, c2, c3, fun v h1 h2 => by
        rw [c4 _ (by omega), if_pos (by omega), show ((v.toNat : Nat) : Int) = v by omega]⟩)
    (s0 := (0, l0, 0)) ⟨rfl, rfl, hl0, fun i hi => by rw [if_neg (by omega)]; exact hm i hi⟩
  obtain ⟨j, num, c⟩ := r
  obtain ⟨f1, f2, f3⟩ := f
  dsimp only at f1 f2 f3
  subst f1 f2
  exact ⟨num, e, f3⟩
noncomputable def trimD (t : Fst) : Fst := srt (keepF (useB t) t)
theorem ok_rng {t : Fst} (ht : FstOk t) : Rng t := ⟨fun x hx => (ht.starts x hx).1, fun x hx => (ht.ends x hx).1, fun x hx => ⟨(ht.arcs x hx).1, (ht.arcs x hx).2.1⟩⟩
theorem keep_ok {t : Fst} (ht : FstOk t) : FstOk (keepF (useB t) t) := by
  have hr := keep_rng (t := t) (r := keepF (useB t) t) (fun _ => Iff.rfl) (fun _ => Iff.rfl) (fun _ => Iff.rfl) rfl (ok_rng ht)
  have h1 := ht.st1
  have hc := cntB_self (useB t) t.states.toNat
  have l1 := keepT_len (useB t) t.starts
  have l2 := keepT_len (useB t) t.ends
  have l3 := keepA_len (useB t) t.arcs
  refine ⟨by show (0 : Int) ≤ ((cntB (useB t) t.states.toNat : Nat) : Int); omega, by have := ht.st0; show ((cntB (useB t) t.states.toNat : Nat) : Int) ≤ 1024; omega, Nat.le_trans l3 ht.arcsN, Nat.le_trans l1 ht.startsN, Nat.le_trans l2 ht.endsN, fun y hy => ⟨hr.starts y hy, ?_⟩, fun y hy => ⟨hr.ends y hy, ?_⟩, fun y hy => ⟨(hr.arcs y hy).1, (hr.arcs y hy).2, ?_⟩⟩
  · obtain ⟨x, hx, _, rfl⟩ := mem_keepT.1 hy; exact (ht.starts x hx).2
  · obtain ⟨x, hx, _, rfl⟩ := mem_keepT.1 hy; exact (ht.ends x hx).2
  · obtain ⟨x, hx, _, _, rfl⟩ := mem_keepA.1 hy; exact (ht.arcs x hx).2.2
theorem trim_eq (t : Fst) : Fj_ t = some (if fstB t = true then (trimD t, 0) else (⟨0, [], [], []⟩, 1)) := by
  unfold Fj_
  rw [Hd_, bnd, Option.bind_some, errB_ne]
  by_cases h : fstB t = true
  · have ht := (fstB_iff t).1 h
    have h0 := ht.st0
    have h1 := ht.st1
    rw [h, Bool.not_true, iteO_false, grd_mk ⟨h0, by omega⟩, if_pos rfl]
    obtain ⟨r, e, rfl⟩ := iter_up (step := fun q : List Int × Nat => Cu_ t q.1 q.2) (fun (l : List Int) k => (l, k)) t.states.toNat
      (fun k l => l.length = t.states.toNat ∧ ∀ i, i < k → nth l i 0 = -1) (fun r => r = (trimD t, 0))
      (fun k l hk ⟨c1, c2⟩ => .inl ⟨l.set k (-1), by
        show Cu_ t l k = _
        unfold Cu_
        rw [List.length_replicate, iteO_dt (by omega), grd_mk (by omega)]; rfl, by rw [List.length_set]; exact c1, fun i hi => by
          rw [nth_set]
          by_cases e1 : k = i
          · rw [if_pos ⟨e1, by omega⟩]
          · rw [if_neg (fun h => e1 h.1)]; exact c2 i (by omega)⟩)
      (fun l ⟨c1, c2⟩ => ⟨(trimD t, 0), by
        obtain ⟨on, bk, u1, u2, u3⟩ := useful_eq ht
        obtain ⟨num, v1, v2⟩ := number_eq ht u2 u3 c1 c2
        show Cu_ t l _ = _
        unfold Cu_
        rw [List.length_replicate, iteO_df (by omega), bnd_some u1]
        dsimp only
        rw [bnd_some v1]
        unfold F5_
        show fin (iter _ _) = _
        rw [trim_starts ht v2, sort_eq]
        show fin (bnd (some (if fstB (keepF (useB t) t) = true then (srt (keepF (useB t) t), 0) else _)) _) = _
        rw [if_pos ((fstB_iff _).2 (keep_ok ht))]; rfl, rfl⟩)
      (s0 := List.replicate t.states.toNat 0) ⟨List.length_replicate .., fun i hi => by omega⟩
    exact e
  · simp only [Bool.not_eq_true] at h
    rw [h]; rfl
theorem trimD_ok {t : Fst} (ht : FstOk t) : FstOk (trimD t) := srt_ok (keep_ok ht)
end Go.Proofs.YtjhbngjhdmapmaaGreatDoor
end

section
namespace Go.Proofs.YtjhbngjhdmapmaaGreatDoor
open Go Go.E
theorem tips_all (l : List Tip) (n : Int) : Dh_ l n = some (tipsB l n) := by
  unfold Dh_ tipsB
  rw [iter_all (y := decide ((l.length : Int) ≤ 1024)) (no := false) l Tip.zero (tipB n)]
  · cases l.all (tipB n) <;> simp
  · intro k hk hp
    simp only [tipB, Bool.and_eq_true, decide_eq_true_eq] at hp
    simp only [B2_, lt_dec hk, iteO_true]
    rw [decide_eq_false (by omega), iteO_false, decide_eq_false (by omega), iteO_false, decide_eq_false (by omega), iteO_false]; rfl
  · intro k hk hp
    simp only [B2_, lt_dec hk, iteO_true]
    by_cases h1 : (nth l k Tip.zero).state < 0
    · rw [decide_eq_true h1, iteO_true]; rfl
    rw [decide_eq_false h1, iteO_false]
    by_cases h2 : n ≤ (nth l k Tip.zero).state
    · rw [decide_eq_true h2, iteO_true]; rfl
    rw [decide_eq_false h2, iteO_false]
    simp only [tipB, decide_eq_true (show 0 ≤ (nth l k Tip.zero).state by omega), decide_eq_true (show (nth l k Tip.zero).state < n by omega), Bool.true_and, decide_eq_false_iff_not] at hp
    rw [decide_eq_true (by omega), iteO_true]; rfl
  · simp only [B2_, Int.lt_irrefl, decide_false, iteO_false]; rfl
theorem right_eq (t : Fst) : C1_ t = some (fstB t) := by
  unfold C1_
  by_cases h1 : t.states < 0
  · rw [decide_eq_true h1, iteO_true]; simp [fstB, show ¬ 0 ≤ t.states by omega]
  rw [decide_eq_false h1, iteO_false]
  by_cases h2 : 1024 < t.states
  · rw [decide_eq_true h2, iteO_true]; simp [fstB, show ¬ t.states ≤ 1024 by omega]
  rw [decide_eq_false h2, iteO_false, tips_all, bnd, Option.bind_some]
  have e0 : fstB t = (decide ((t.arcs.length : Int) ≤ 16384) && tipsB t.starts t.states && tipsB t.ends t.states && t.arcs.all (arcB t.states)) := by
    simp only [fstB, decide_eq_true (show 0 ≤ t.states by omega), decide_eq_true (show t.states ≤ 1024 by omega), Bool.true_and]
  rw [e0]
  cases h4 : tipsB t.starts t.states
  · simp
  simp only [Bool.not_true, iteO_false, tips_all, bnd, Option.bind_some]
  cases h5 : tipsB t.ends t.states
  · simp
  simp only [Bool.not_true, iteO_false, Bool.and_true]
  by_cases h3 : (16384 : Int) < (t.arcs.length : Int)
  · rw [decide_eq_true h3, iteO_true, decide_eq_false (show ¬ (t.arcs.length : Int) ≤ 16384 by omega), Bool.false_and]
  rw [decide_eq_false h3, iteO_false, decide_eq_true (show (t.arcs.length : Int) ≤ 16384 by omega), Bool.true_and, iter_all (y := true) (no := false) t.arcs Arc.zero (arcB t.states)]
  · cases t.arcs.all (arcB t.states) <;> rfl
  · intro k hk hp
    obtain ⟨p1, p2, p3, p4⟩ := arcB_ok hp
    simp only [Bz_, lt_dec hk, iteO_true]
    rw [decide_eq_false (by omega), iteO_false, decide_eq_false (by omega), iteO_false, decide_eq_false (by omega), iteO_false, decide_eq_false (by omega), iteO_false, decide_eq_false p3, iteO_false, decide_eq_false (by omega), iteO_false]; rfl
  · intro k hk hp
    simp only [Bz_, lt_dec hk, iteO_true]
    by_cases q1 : (nth t.arcs k Arc.zero).frm < 0
    · rw [decide_eq_true q1, iteO_true]; rfl
    rw [decide_eq_false q1, iteO_false]
    by_cases q2 : t.states ≤ (nth t.arcs k Arc.zero).frm
    · rw [decide_eq_true q2, iteO_true]; rfl
    rw [decide_eq_false q2, iteO_false]
    by_cases q3 : (nth t.arcs k Arc.zero).to < 0
    · rw [decide_eq_true q3, iteO_true]; rfl
    rw [decide_eq_false q3, iteO_false]
    by_cases q4 : t.states ≤ (nth t.arcs k Arc.zero).to
    · rw [decide_eq_true q4, iteO_true]; rfl
    rw [decide_eq_false q4, iteO_false]
    by_cases q5 : (nth t.arcs k Arc.zero).set = BSet.zero
    · rw [decide_eq_true q5, iteO_true]; rfl
    rw [decide_eq_false q5, iteO_false]
    simp only [arcB, decide_eq_true (show 0 ≤ (nth t.arcs k Arc.zero).frm by omega), decide_eq_true (show (nth t.arcs k Arc.zero).frm < t.states by omega), decide_eq_true (show 0 ≤ (nth t.arcs k Arc.zero).to by omega), decide_eq_true (show (nth t.arcs k Arc.zero).to < t.states by omega), ne_eq, q5, not_false_eq_true, decide_true, Bool.true_and, decide_eq_false_iff_not] at hp
    rw [decide_eq_true (by omega), iteO_true]; rfl
  · simp only [Bz_, Int.lt_irrefl, decide_false, iteO_false]; rfl
end Go.Proofs.YtjhbngjhdmapmaaGreatDoor
end

section
namespace Go.Proofs.YtjhbngjhdmapmaaGreatDoor
open Go Go.E
section
variable {α : Type} [DecidableEq α] {d : α} {cf : α → α → Int}
theorem ins_run (hc : GoodCmp cf) (x0 : List α) (step1 : List α × Nat → Option ((List α × Nat) ⊕ List α)) (step2 : List α → Nat → Nat → Option (Nat ⊕ ((List α × Nat) ⊕ List α)))
    (hend : ∀ l k, x0.length ≤ k → step1 (l, k) = some (.inr l)) (hbody : ∀ l k, k < x0.length → step1 (l, k) = iter (step2 l k) 0)
    (hlt : ∀ l k j, k < x0.length → j < l.length → cf (nth l j d) (nth x0 k d) < 0 → step2 l k j = some (.inl (j + 1)))
    (heq : ∀ l k j, k < x0.length → j < l.length → nth l j d = nth x0 k d → step2 l k j = some (.inr (.inl (l, k + 1))))
    (hins : ∀ l k j, k < x0.length → l.length ≤ x0.length → j ≤ l.length → (j < l.length → ¬ cf (nth l j d) (nth x0 k d) < 0 ∧ nth l j d ≠ nth x0 k d) → step2 l k j = some (.inr (.inl (l.take j ++ [nth x0 k d] ++ l.drop j, k + 1)))) :
    iter step1 ([], 0) = some (onceL d cf x0) := by
  refine Exists.elim (iter_run (step := step1) (fun q => q.2 ≤ x0.length ∧ q.1.length ≤ q.2 ∧ (q.1.Pairwise fun x y => cf x y < 0) ∧ ∀ x, x ∈ q.1 ↔ x ∈ x0.take q.2) (fun r => r = onceL d cf x0) (fun q => x0.length - q.2) ?_ ([], 0) ⟨Nat.zero_le _, Nat.le_refl _, List.Pairwise.nil, by simp⟩) (fun r hr => by rw [hr.1, hr.2])
  rintro ⟨l, k⟩ ⟨hk, hl, hp, hm⟩
  simp only at hk hl hp hm
  by_cases hkl : k < x0.length
  · left
    have inner : ∃ r, iter (step2 l k) 0 = some r ∧ ∃ l', r = .inl (l', k + 1) ∧ l'.length ≤ k + 1 ∧ (l'.Pairwise fun x y => cf x y < 0) ∧ ∀ x, x ∈ l' ↔ x ∈ l ∨ x = nth x0 k d := by
      refine iter_run (step := step2 l k) (fun j => j ≤ l.length ∧ ∀ i, i < j → cf (nth l i d) (nth x0 k d) < 0) _ (fun j => l.length - j) ?_ 0 ⟨Nat.zero_le _, fun i hi => absurd hi (Nat.not_lt_zero _)⟩
      rintro j ⟨hj, hI⟩
      by_cases hjl : j < l.length
      · by_cases h1 : cf (nth l j d) (nth x0 k d) < 0
        · left
          refine ⟨j + 1, hlt l k j hkl hjl h1, ⟨by omega, fun i hi => ?_⟩, by omega⟩
          by_cases e : i = j
          · subst e; exact h1
          · exact hI i (by omega)
        · right
          by_cases h2 : nth l j d = nth x0 k d
          · refine ⟨_, heq l k j hkl hjl h2, l, rfl, by omega, hp, fun x => ⟨.inl, ?_⟩⟩
            rintro (h | rfl)
            · exact h
            · rw [← h2]; exact nth_mem' hjl d
          · refine ⟨_, hins l k j hkl (by omega) hj (fun _ => ⟨h1, h2⟩), _, rfl, ?_, ?_, ?_⟩
            · simp only [List.length_append, List.length_take, List.length_drop, List.length_singleton]; omega
            · have hxj : cf (nth x0 k d) (nth l j d) < 0 := by
                have a := hc.anti (nth x0 k d) (nth l j d)
                have b := hc.eq (nth l j d) (nth x0 k d)
                have : cf (nth l j d) (nth x0 k d) ≠ 0 := fun h => h2 (b.1 h)
                omega
              have hd : l.drop j = nth l j d :: l.drop (j + 1) := by
                have := getD_some l hjl d
                rw [List.getElem?_eq_getElem hjl, Option.some.injEq] at this
                rw [← this]; exact List.drop_eq_getElem_cons hjl
              have hpd : (l.drop j).Pairwise fun x y => cf x y < 0 := hp.sublist (List.drop_sublist ..)
              have hgt : ∀ y ∈ l.drop j, cf (nth x0 k d) y < 0 := fun y hy => by
                rw [hd] at hy hpd
                rw [List.pairwise_cons] at hpd
                rcases List.mem_cons.1 hy with rfl | hy
                · exact hxj
                · exact hc.trans _ _ _ hxj (hpd.1 y hy)
              have hls : ∀ y ∈ l.take j, cf y (nth x0 k d) < 0 := fun y hy => by
                obtain ⟨i, hi, rfl⟩ := List.mem_iff_getElem.1 hy
                have hij : i < j := by simp at hi; omega
                have := hI i hij
                have e := getD_some l (show i < l.length by omega) d
                rw [List.getElem?_eq_getElem (show i < l.length by omega), Option.some.injEq] at e
                rw [List.getElem_take, e]; exact this
              rw [List.append_assoc, List.pairwise_append]
              refine ⟨hp.sublist (List.take_sublist ..), ?_, fun x hx y hy => ?_⟩
              · rw [List.singleton_append, List.pairwise_cons]
                exact ⟨hgt, hpd⟩
              · rw [List.singleton_append, List.mem_cons] at hy
                rcases hy with rfl | hy
                · exact hls x hx
                · exact hc.trans _ _ _ (hls x hx) (hgt y hy)
            · intro x
              rw [List.append_assoc, List.mem_append, List.singleton_append, List.mem_cons]
              have : x ∈ l ↔ x ∈ l.take j ∨ x ∈ l.drop j := by rw [← List.mem_append, List.take_append_drop]
              rw [this]
              constructor
              · rintro (h | h | h)
                · exact .inl (.inl h)
                · exact .inr h
                · exact .inl (.inr h)
              · rintro ((h | h) | h)
                · exact .inl h
                · exact .inr (.inr h)
                · exact .inr (.inl h)
      · right
        have hj' : j = l.length := by omega
        subst hj'
        refine ⟨_, hins l k l.length hkl (by omega) hj (fun h => absurd h (Nat.lt_irrefl _)), _, rfl, ?_, ?_, ?_⟩
        · simp only [List.length_append, List.length_take, List.length_drop, List.length_singleton]; omega
        · rw [List.take_length, List.drop_length, List.append_nil, List.pairwise_append]
          refine ⟨hp, List.pairwise_singleton .., fun x hx y hy => ?_⟩
          rw [List.mem_singleton.1 hy]
          obtain ⟨i, hi, rfl⟩ := List.mem_iff_getElem.1 hx
          have := hI i hi
          have e := getD_some l hi d
          rw [List.getElem?_eq_getElem hi, Option.some.injEq] at e
          rw [e]; exact this
        · intro x; simp
    obtain ⟨r, h1, l', rfl, h2, h3, h4⟩ := inner
    refine ⟨(l', k + 1), by rw [hbody l k hkl, h1], ⟨by simp only; omega, h2, h3, fun x => ?_⟩, by simp only; omega⟩
    simp only
    rw [h4, take_snoc x0 hkl d, List.mem_append, List.mem_singleton, hm]
  · right
    refine ⟨l, hend l k (by omega), rising_eq hc hp (sorted_onceL hc x0) fun x => ?_⟩
    rw [hm, mem_onceL, List.take_of_length_le (by omega)]
end
end Go.Proofs.YtjhbngjhdmapmaaGreatDoor
end

section
namespace Go.Proofs.YtjhbngjhdmapmaaGreatDoor
open Go Go.E
theorem corI_lt {a b : Int} : corI a b < 0 ↔ a < 0 ∨ (a = 0 ∧ b < 0) := by unfold corI; split <;> omega
theorem cmpN_lt {x y : Nat} : cmpN x y < 0 ↔ x < y := by unfold cmpN; (repeat' split) <;> omega
theorem cmpN_eq0 {x y : Nat} : cmpN x y = 0 ↔ x = y := cmpN_good.eq x y
theorem cmpI_eq0 {x y : Int} : cmpI x y = 0 ↔ x = y := cmpI_good.eq x y
theorem cmpB_eq0 {x y : List UInt8} : Lib.compareBytes x y = 0 ↔ x = y := cmpB_good.eq x y
theorem tipLess_eq (x y : Tip) : De_ x y = some (decide (cmpTip x y < 0)) := by
  unfold De_
  simp only [cmpTip, corI_lt, cmpI_lt, cmpI_eq0]
  by_cases h1 : x.state < y.state
  · simp [h1]
  · by_cases h2 : x.state = y.state
    · simp [h2]
    · simp [h1, h2]
theorem arcLess_tail (x y : Arc) : iter (fun q : Nat => Ac_ x y q) 4 = some (decide (corI (Lib.compareBytes x.out y.out) (corI (cmpBool x.copy y.copy) 0) < 0)) := by
  refine iter_done ?_
  simp only [Ac_, corI_lt]
  rw [decide_eq_false (by omega), iteO_false]
  by_cases h : x.out = y.out
  · have := cmpB_eq0.2 h
    rw [decide_eq_false (by simpa using h), iteO_false]
    simp only [this]
    cases x.copy <;> cases y.copy <;> decide
  · have : ¬ Lib.compareBytes x.out y.out = 0 := fun e => h (cmpB_eq0.1 e)
    rw [decide_eq_true (by simpa using h), iteO_true]
    simp [this]
theorem arcLess_word (x y : Arc) (k : Nat) (hk : k < 4) {t : Int} (ht : iter (fun q : Nat => Ac_ x y q) (k + 1) = some (decide (t < 0))) :
    iter (fun q : Nat => Ac_ x y q) k = some (decide (corI (cmpN (x.set.word k) (y.set.word k)) t < 0)) := by
  simp only [corI_lt, cmpN_lt, cmpN_eq0]
  by_cases h : x.set.word k = y.set.word k
  · refine iter_next (s' := k + 1) ?_ ?_
    · simp only [Ac_]
      rw [decide_eq_true (by omega), iteO_true, grd_mk hk, grd_mk hk, decide_eq_false (by simpa using h), iteO_false]; rfl
    · rw [ht]; simp [h]
  · refine iter_done ?_
    simp only [Ac_]
    rw [decide_eq_true (by omega), iteO_true, grd_mk hk, grd_mk hk, decide_eq_true (by simpa using h), iteO_true, grd_mk hk, grd_mk hk]
    simp [h]
theorem arcLess_eq (x y : Arc) : C8_ x y = some (decide (cmpArc x y < 0)) := by
  have hw := arcLess_word x y 0 (by decide) (arcLess_word x y 1 (by decide) (arcLess_word x y 2 (by decide) (arcLess_word x y 3 (by decide) (arcLess_tail x y))))
  unfold C8_
  have e : cmpArc x y = corI (cmpI x.frm y.frm) (corI (cmpI x.to y.to) (corI (cmpN (x.set.word 0) (y.set.word 0)) (corI (cmpN (x.set.word 1) (y.set.word 1)) (corI (cmpN (x.set.word 2) (y.set.word 2)) (corI (cmpN (x.set.word 3) (y.set.word 3)) (corI (Lib.compareBytes x.out y.out) (corI (cmpBool x.copy y.copy) 0))))))) := by
    have asc : ∀ a b c : Int, corI (corI a b) c = corI a (corI b c) := fun a b c => by unfold corI; (repeat' split) <;> first | rfl | omega
    simp only [cmpArc, cmpSet, asc]; rfl
  rw [e, hw]
  generalize corI (cmpN (x.set.word 0) (y.set.word 0)) _ = T
  simp only [corI_lt, cmpI_lt, cmpI_eq0]
  by_cases h1 : x.frm = y.frm
  · rw [decide_eq_false (by simpa using h1), iteO_false]
    by_cases h2 : x.to = y.to
    · rw [decide_eq_false (by simpa using h2), iteO_false]
      simp [h1, h2]
    · rw [decide_eq_true (by simpa using h2), iteO_true]
      simp [h1, h2]
  · rw [decide_eq_true (by simpa using h1), iteO_true]
    simp [h1]
theorem sortTips_eq {l : List Tip} (h : l.length ≤ 1000000) : Cb_ l = some (onceL Tip.zero cmpTip l) := by
  unfold Cb_
  refine ins_run cmpTip_good l (fun q => Bh_ l q.1 q.2) (fun m k j => Ai_ m l k j) ?_ ?_ ?_ ?_ ?_
  · intro m k hk
    simp only [Bh_, decide_eq_false (show ¬ ((k : Nat) : Int) < ((l.length : Nat) : Int) by omega), iteO_false]; rfl
  · intro m k hk
    simp only [Bh_, lt_dec hk, iteO_true]
  · intro m k j hk hj hc
    simp only [Ai_, lt_dec hj, iteO_true, tipLess_eq, bnd, Option.bind_some, decide_eq_true hc]; rfl
  · intro m k j hk hj he
    simp only [Ai_, lt_dec hj, iteO_true, tipLess_eq, bnd, Option.bind_some, he, decide_eq_false (cmpTip_good.irr _), iteO_false, Bk_, decide_true]; rfl
  · intro m k j hk hm hj hn
    have hg : Bw_ j m l k = some (.inl (m.take j ++ [nth l k Tip.zero] ++ m.drop j, k + 1)) := by
      unfold Bw_ Cd_
      rw [grd_mk (by omega), grd_mk (by simp only [List.length_nil, List.length_take]; omega), grd_mk (by simp only [List.length_append, List.length_nil, List.length_take, List.length_singleton]; omega), grd_mk (by omega), grd_mk (by simp only [List.length_append, List.length_nil, List.length_take, List.length_singleton, List.length_drop]; omega)]
      rfl
    by_cases hjl : j < m.length
    · obtain ⟨h1, h2⟩ := hn hjl
      simp only [Ai_, lt_dec hjl, iteO_true, tipLess_eq, bnd, Option.bind_some, decide_eq_false h1, iteO_false, Bk_, decide_eq_false h2, hg, fin_some]
    · simp only [Ai_, decide_eq_false (show ¬ ((j : Nat) : Int) < ((m.length : Nat) : Int) by omega), iteO_false, Bk_, hg, fin_some]
theorem sortArcs_eq {l : List Arc} (h : l.length ≤ 1000000) : C3_ l = some (onceL Arc.zero cmpArc l) := by
  unfold C3_
  refine ins_run cmpArc_good l (fun q => Bj_ l q.1 q.2) (fun m k j => Ah_ m l k j) ?_ ?_ ?_ ?_ ?_
  · intro m k hk
    simp only [Bj_, decide_eq_false (show ¬ ((k : Nat) : Int) < ((l.length : Nat) : Int) by omega), iteO_false]; rfl
  · intro m k hk
    simp only [Bj_, lt_dec hk, iteO_true]
  · intro m k j hk hj hc
    simp only [Ah_, lt_dec hj, iteO_true, arcLess_eq, bnd, Option.bind_some, decide_eq_true hc]; rfl
  · intro m k j hk hj he
    simp only [Ah_, lt_dec hj, iteO_true, arcLess_eq, bnd, Option.bind_some, he, decide_eq_false (cmpArc_good.irr _), iteO_false, Bi_, decide_true]; rfl
  · intro m k j hk hm hj hn
    have hg : Bx_ j m l k = some (.inl (m.take j ++ [nth l k Arc.zero] ++ m.drop j, k + 1)) := by
      unfold Bx_ Cf_
      rw [grd_mk (by omega), grd_mk (by simp only [List.length_nil, List.length_take]; omega), grd_mk (by simp only [List.length_append, List.length_nil, List.length_take, List.length_singleton]; omega), grd_mk (by omega), grd_mk (by simp only [List.length_append, List.length_nil, List.length_take, List.length_singleton, List.length_drop]; omega)]
      rfl
    by_cases hjl : j < m.length
    · obtain ⟨h1, h2⟩ := hn hjl
      simp only [Ah_, lt_dec hjl, iteO_true, arcLess_eq, bnd, Option.bind_some, decide_eq_false h1, iteO_false, Bi_, decide_eq_false h2, hg, fin_some]
    · simp only [Ah_, decide_eq_false (show ¬ ((j : Nat) : Int) < ((m.length : Nat) : Int) by omega), iteO_false, Bi_, hg, fin_some]
theorem rsort_eq (t : Fst) : A9_ t = some (if fstB t = true then (srt t, 0) else (⟨0, [], [], []⟩, 1)) := by
  unfold A9_
  rw [right_eq, bnd, Option.bind_some]
  by_cases h : fstB t = true
  · have ht := (fstB_iff t).1 h
    have h1 := ht.startsN
    have h2 := ht.endsN
    have h3 := ht.arcsN
    rw [h, if_pos rfl, Bool.not_true, iteO_false]
    simp only [sortTips_eq (l := t.starts) (by omega), sortTips_eq (l := t.ends) (by omega), sortArcs_eq (l := t.arcs) (by omega), bnd, Option.bind_some]
    rfl
  · simp only [Bool.not_eq_true] at h
    rw [h]; rfl
end Go.Proofs.YtjhbngjhdmapmaaGreatDoor
end

section
namespace Go.Proofs.YtjhbngjhdmapmaaGreatDoor
open Go Go.E
def aFrm (back : Bool) (x : Arc) : Int := if back = true then x.to else x.frm
def aTo (back : Bool) (x : Arc) : Int := if back = true then x.frm else x.to
def aE (t : Fst) (back : Bool) (a b : Int) : Prop := ∃ x ∈ t.arcs, aFrm back x = a ∧ aTo back x = b
structure GI (t : Fst) (tips : List Tip) (back : Bool) (l : List Bool) : Prop where
  len : l.length = t.states.toNat
  sound : ∀ v : Nat, nth l v false = true → Rch (fun c => ∃ x ∈ tips, x.state = c) (aE t back) v
  tip : ∀ x ∈ tips, nth l x.state.toNat false = true
def cntF (l : List Bool) : Nat := l.count false
theorem cntF_set {l : List Bool} {i : Nat} (hi : i < l.length) (h : nth l i false = false) : cntF (l.set i true) < cntF l := by
  have h2 : l[i] = false := by have := getD_some l hi false; rw [List.getElem?_eq_getElem hi, h] at this; exact Option.some.inj this
  have h3 : 0 < l.count false := List.count_pos_iff.2 (h2 ▸ List.getElem_mem hi)
  unfold cntF
  rw [List.count_set hi, h2]
  simp only [beq_self_eq_true, if_true, show (true == false) = false from rfl, Bool.false_eq_true, if_false, Nat.add_zero]
  omega
theorem grown_pass {t : Fst} (ht : FstOk t) {tips : List Tip} {back : Bool} {l0 : List Bool} (h0 : GI t tips back l0) :
    ∃ r, iter (fun q : (List Bool) × Bool × Nat => Ae_ t back q.1 q.2.1 q.2.2) (l0, false, 0) = some r ∧ ∃ l b, r = .inl (l, b) ∧ GI t tips back l ∧ (b = true → cntF l < cntF l0) ∧ (b = false → l = l0 ∧ ∀ x ∈ t.arcs, nth l (aFrm back x).toNat false = true → nth l (aTo back x).toNat false = true) := by
  refine iter_for (step := fun q : (List Bool) × Bool × Nat => Ae_ t back q.1 q.2.1 q.2.2) (fun (s : List Bool × Bool) k => (s.1, s.2, k)) t.arcs Arc.zero
    (fun pre s => GI t tips back s.1 ∧ (s.2 = true → cntF s.1 < cntF l0) ∧ (s.2 = false → s.1 = l0 ∧ ∀ x ∈ pre, nth s.1 (aFrm back x).toNat false = true → nth s.1 (aTo back x).toNat false = true)) _
    (fun k s hk hI => ?_) (fun s hI => ?_) (s0 := (l0, false)) ⟨h0, fun h => (by cases h), fun _ => ⟨rfl, fun x hx => (by cases hx)⟩⟩
  · obtain ⟨l, b⟩ := s
    obtain ⟨g, hb, hc⟩ := hI
    dsimp only at g hb hc
    obtain ⟨b1, b2, b3⟩ := ht.arcs _ (mem_at Arc.zero hk)
    have hlen := g.len
    generalize hx : nth t.arcs k Arc.zero = x at b1 b2 b3
    have hxm : x ∈ t.arcs := hx ▸ mem_at Arc.zero hk
    have rf : 0 ≤ aFrm back x ∧ aFrm back x < t.states := by unfold aFrm; split <;> assumption
    have rt : 0 ≤ aTo back x ∧ aTo back x < t.states := by unfold aTo; split <;> assumption
    left
    have e : Ae_ t back l b k = Cc_ l k b (aFrm back x) (aTo back x) := by
      unfold Ae_
      rw [iteO_dt (by omega), hx]
      cases back <;> rfl
    show ∃ s', Ae_ t back l b k = _ ∧ _
    rw [e]
    unfold Cc_ Ca_
    rw [grd_mk ⟨rf.1, by omega⟩]
    cases h1 : nth l (aFrm back x).toNat false with
    | false =>
      refine ⟨(l, b), rfl, g, hb, fun hbf => ⟨(hc hbf).1, fun y hy hy1 => ?_⟩⟩
      rcases List.mem_append.1 hy with hy | hy
      · exact (hc hbf).2 y hy hy1
      · obtain rfl := List.mem_singleton.1 hy
        dsimp only at hy1; rw [h1] at hy1; cases hy1
    | true =>
      rw [iteO_true, grd_mk ⟨rt.1, by omega⟩]
      cases h2 : nth l (aTo back x).toNat false with
      | true =>
        refine ⟨(l, b), rfl, g, hb, fun hbf => ⟨(hc hbf).1, fun y hy hy1 => ?_⟩⟩
        rcases List.mem_append.1 hy with hy | hy
        · exact (hc hbf).2 y hy hy1
        · obtain rfl := List.mem_singleton.1 hy; exact h2
      | false =>
        rw [Bool.not_false, iteO_true, grd_mk ⟨rt.1, by omega⟩]
        have hlt : cntF (l.set (aTo back x).toNat true) < cntF l := cntF_set (by omega) h2
        have hle : cntF l ≤ cntF l0 := by
          cases b with
          | true => exact Nat.le_of_lt (hb rfl)
          | false => rw [(hc rfl).1]; exact Nat.le_refl _
        refine ⟨(l.set (aTo back x).toNat true, true), rfl, ⟨by rw [List.length_set]; exact hlen, fun v hv => ?_, fun y hy => ?_⟩, fun _ => (by dsimp only; omega), fun h => (by cases h)⟩
        · rw [nth_set] at hv
          by_cases c : (aTo back x).toNat = v
          · have hr := g.sound _ h1
            have : ((v : Nat) : Int) = aTo back x := by omega
            rw [this]
            refine Rch.step hr ⟨x, hxm, by omega, rfl⟩
          · rw [if_neg (fun h => c h.1)] at hv; exact g.sound v hv
        · rw [nth_set]
          split
          · rfl
          · exact g.tip y hy
  · obtain ⟨l, b⟩ := s
    obtain ⟨g, hb, hc⟩ := hI
    refine ⟨_, ?_, l, b, rfl, g, hb, hc⟩
    show Ae_ t back l b t.arcs.length = _
    unfold Ae_
    rw [iteO_df (by omega)]; rfl
theorem rgrown_ok {t : Fst} (ht : FstOk t) (tips : List Tip) (back : Bool) (htip : ∀ x ∈ tips, 0 ≤ x.state ∧ x.state < t.states) :
    ∃ r, C5_ t tips back = some r ∧ r.length = t.states.toNat ∧ ∀ v : Nat, nth r v false = true ↔ Rch (fun c => ∃ x ∈ tips, x.state = c) (aE t back) v := by
  have h0 := ht.st0
  have h1 := ht.st1
  unfold C5_
  rw [grd_mk ⟨h0, by omega⟩]
  refine iter_for (step := fun q : (List Bool) × Nat => Ax_ tips t back q.1 q.2) (fun (s : List Bool) k => (s, k)) tips Tip.zero
    (fun pre l => l.length = t.states.toNat ∧ (∀ v : Nat, nth l v false = true → ∃ x ∈ tips, x.state = (v : Int)) ∧ ∀ x ∈ pre, nth l x.state.toNat false = true) _
    (fun k l hk hI => ?_) (fun l hI => ?_) (s0 := List.replicate t.states.toNat false) ⟨List.length_replicate .., fun v hv => ?_, fun x hx => by cases hx⟩
  · obtain ⟨a1, a2, a3⟩ := hI
    have hm := mem_at Tip.zero hk
    have hr := htip _ hm
    refine .inl ⟨l.set (nth tips k Tip.zero).state.toNat true, ?_, by rw [List.length_set]; exact a1, fun v hv => ?_, fun x hx => ?_⟩
    · show Ax_ tips t back l k = _
      unfold Ax_
      rw [iteO_dt (by omega), grd_mk ⟨hr.1, by omega⟩]; rfl
    · rw [nth_set] at hv
      by_cases c : (nth tips k Tip.zero).state.toNat = v
      · exact ⟨_, hm, by omega⟩
      · rw [if_neg (fun h => c h.1)] at hv; exact a2 v hv
    · rw [nth_set]
      split
      · rfl
      · rename_i hn
        rcases List.mem_append.1 hx with hx | hx
        · exact a3 x hx
        · rw [List.mem_singleton.1 hx] at hn; exact absurd ⟨rfl, by omega⟩ hn
  · obtain ⟨a1, a2, a3⟩ := hI
    have key := iter_run (step := fun q : (List Bool) × Bool => Av_ t back q.1 q.2)
      (fun q => GI t tips back q.1 ∧ (q.2 = false → ∀ x ∈ t.arcs, nth q.1 (aFrm back x).toNat false = true → nth q.1 (aTo back x).toNat false = true))
      (fun r => r.length = t.states.toNat ∧ ∀ v : Nat, nth r v false = true ↔ Rch (fun c => ∃ x ∈ tips, x.state = c) (aE t back) v)
      (fun q => 2 * cntF q.1 + if q.2 = true then 1 else 0) (fun q hq => ?_) (l, true) ⟨⟨a1, fun v hv => Rch.base (a2 v hv), a3⟩, fun h => by cases h⟩
    · obtain ⟨r, hr, hp⟩ := key
      refine ⟨r, ?_, hp⟩
      show Ax_ tips t back l tips.length = _
      unfold Ax_
      rw [iteO_df (by omega), hr]; rfl
    · obtain ⟨l, b⟩ := q
      obtain ⟨g, hc⟩ := hq
      dsimp only at g hc ⊢
      cases b with
      | true =>
        obtain ⟨r, hr, l', b', rfl, g', hb', hc'⟩ := grown_pass ht g
        left
        refine ⟨(l', b'), ?_, ⟨g', fun h => (hc' h).2⟩, ?_⟩
        · show Av_ t back l true = _
          unfold Av_
          rw [iteO_true]; exact hr
        · dsimp only
          cases b' with
          | true => have := hb' rfl; simp only [if_true]; omega
          | false => rw [(hc' rfl).1]; simp only [if_true, Bool.false_eq_true, if_false]; omega
      | false =>
        right
        refine ⟨l, ?_, g.len, fun v => ⟨g.sound v, fun hv => ?_⟩⟩
        · show Av_ t back l false = _
          unfold Av_; rfl
        · have key : ∀ c : Int, Rch (fun c => ∃ x ∈ tips, x.state = c) (aE t back) c → nth l c.toNat false = true := fun c h => by
            induction h with
            | base h => obtain ⟨x, hx, rfl⟩ := h; exact g.tip x hx
            | step h he ih => obtain ⟨x, hx, rfl, rfl⟩ := he; exact hc rfl x hx ih
          have := key _ hv
          rwa [Int.toNat_natCast] at this
  · unfold nth at hv
    rw [List.getD_eq_getElem?_getD, List.getElem?_replicate] at hv
    split at hv <;> cases hv
theorem rtrim_arcs {t : Fst} (ht : FstOk t) {p : Nat → Bool} {num : List Int} (hn : NumOk p t.states.toNat num) (c : Nat) (S E : List Tip) :
    iter (fun q : List Arc × Nat => Bb_ t num c S E q.1 q.2) (([] : List Arc), 0) = bnd (A9_ ⟨(c : Int), S, E, keepA p t.arcs⟩) (fun v => some (v.1, v.2)) := by
  have hN := ht.arcsN
  obtain ⟨r, hr⟩ : ∃ r, bnd (A9_ ⟨(c : Int), S, E, keepA p t.arcs⟩) (fun v => some (v.1, v.2)) = some r := by rw [rsort_eq]; exact ⟨_, rfl⟩
  rw [hr]
  refine iter_fold t.arcs Arc.zero (fun k => keepA p (t.arcs.take k)) (fun k hk => ?_) ?_
  · obtain ⟨b1, b2, b3, b4⟩ := ht.arcs _ (mem_at Arc.zero hk)
    have hl := keepA_len p (t.arcs.take k)
    have r3 := take_len_le t.arcs k
    have e1 := hn.2 _ b1.1 (by omega)
    have e2 := hn.2 _ b2.1 (by omega)
    have l1 := hn.1
    show Bb_ t num c S E _ k = _
    unfold Bb_ Ch_
    rw [iteO_dt (by omega), grd_mk ⟨b1.1, by omega⟩, e1, e2, keepA_snoc p _ k hk]
    by_cases c1 : 0 ≤ numB p (nth t.arcs k Arc.zero).frm
    · rw [iteO_dt c1, grd_mk ⟨b2.1, by omega⟩]
      by_cases c2 : 0 ≤ numB p (nth t.arcs k Arc.zero).to
      · rw [iteO_dt c2, if_pos ⟨c1, c2⟩, grd_mk ⟨b1.1, by omega⟩, grd_mk ⟨b2.1, by omega⟩, grd_mk (by simp only [List.length_singleton]; omega)]; rfl
      · rw [iteO_df c2, if_neg (fun h => c2 h.2), List.append_nil]; rfl
    · rw [iteO_df c1, if_neg (fun h => c1 h.1), List.append_nil]; rfl
  · show Bb_ t num c S E _ _ = _
    unfold Bb_
    rw [iteO_df (by omega), List.take_length, hr]; rfl
theorem rtrim_ends {t : Fst} (ht : FstOk t) {p : Nat → Bool} {num : List Int} (hn : NumOk p t.states.toNat num) (c : Nat) (S : List Tip) :
    iter (fun q : List Tip × Nat => Ba_ t num c S q.1 q.2) (([] : List Tip), 0) = bnd (A9_ ⟨(c : Int), S, keepT p t.ends, keepA p t.arcs⟩) (fun v => some (v.1, v.2)) := by
  have hN := ht.endsN
  obtain ⟨r, hr⟩ : ∃ r, bnd (A9_ ⟨(c : Int), S, keepT p t.ends, keepA p t.arcs⟩) (fun v => some (v.1, v.2)) = some r := by rw [rsort_eq]; exact ⟨_, rfl⟩
  rw [hr]
  refine iter_fold t.ends Tip.zero (fun k => keepT p (t.ends.take k)) (fun k hk => ?_) ?_
  · obtain ⟨b1, b2⟩ := ht.ends _ (mem_at Tip.zero hk)
    have hl := keepT_len p (t.ends.take k)
    have r3 := take_len_le t.ends k
    have e1 := hn.2 _ b1.1 (by omega)
    have l1 := hn.1
    show Ba_ t num c S _ k = _
    unfold Ba_ Dg_
    rw [iteO_dt (by omega), grd_mk ⟨b1.1, by omega⟩, e1, keepT_snoc p _ k hk]
    by_cases c1 : 0 ≤ numB p (nth t.ends k Tip.zero).state
    · rw [iteO_dt c1, if_pos c1, grd_mk ⟨b1.1, by omega⟩, grd_mk (by simp only [List.length_singleton]; omega)]; rfl
    · rw [iteO_df c1, if_neg c1, List.append_nil]; rfl
  · show Ba_ t num c S _ _ = _
    unfold Ba_
    rw [iteO_df (by omega), List.take_length, rtrim_arcs ht hn, hr]; rfl
theorem rtrim_starts {t : Fst} (ht : FstOk t) {p : Nat → Bool} {num : List Int} (hn : NumOk p t.states.toNat num) (c : Nat) :
    iter (fun q : List Tip × Nat => Aq_ t num c q.1 q.2) (([] : List Tip), 0) = bnd (A9_ ⟨(c : Int), keepT p t.starts, keepT p t.ends, keepA p t.arcs⟩) (fun v => some (v.1, v.2)) := by
  have hN := ht.startsN
  obtain ⟨r, hr⟩ : ∃ r, bnd (A9_ ⟨(c : Int), keepT p t.starts, keepT p t.ends, keepA p t.arcs⟩) (fun v => some (v.1, v.2)) = some r := by rw [rsort_eq]; exact ⟨_, rfl⟩
  rw [hr]
  refine iter_fold t.starts Tip.zero (fun k => keepT p (t.starts.take k)) (fun k hk => ?_) ?_
  · obtain ⟨b1, b2⟩ := ht.starts _ (mem_at Tip.zero hk)
    have hl := keepT_len p (t.starts.take k)
    have r3 := take_len_le t.starts k
    have e1 := hn.2 _ b1.1 (by omega)
    have l1 := hn.1
    show Aq_ t num c _ k = _
    unfold Aq_ Db_
    rw [iteO_dt (by omega), grd_mk ⟨b1.1, by omega⟩, e1, keepT_snoc p _ k hk]
    by_cases c1 : 0 ≤ numB p (nth t.starts k Tip.zero).state
    · rw [iteO_dt c1, if_pos c1, grd_mk ⟨b1.1, by omega⟩, grd_mk (by simp only [List.length_singleton]; omega)]; rfl
    · rw [iteO_df c1, if_neg c1, List.append_nil]; rfl
  · show Aq_ t num c _ _ = _
    unfold Aq_
    rw [iteO_df (by omega), List.take_length, rtrim_ends ht hn, hr]; rfl
theorem rnumber_eq {t : Fst} (ht : FstOk t) {u v : List Bool} (hu : u.length = t.states.toNat) (hv : v.length = t.states.toNat) (h1 : ∀ s : Nat, nth u s false = true ↔ Rch (onS t) (arE t) s) (h2 : ∀ s : Nat, nth v s false = true ↔ Rch (enS t) (arB t) s) {R : Fst × Int}
    (hR : ∀ num, NumOk (useB t) t.states.toNat num → iter (fun q : (List Tip) × Nat => Aq_ t num (cntB (useB t) t.states.toNat) q.1 q.2) (([] : List Tip), 0) = some R) :
    iter (fun q : (List Int) × Nat × Nat => Ab_ t u v q.1 q.2.1 q.2.2) ((List.replicate t.states.toNat (0 : Int)), 0, 0) = some R := by
  have h0 := ht.st0
  have hs := ht.st1
  obtain ⟨r, e, rfl⟩ := iter_up (step := fun q : (List Int) × Nat × Nat => Ab_ t u v q.1 q.2.1 q.2.2) (fun (l : List Int) k => (l, cntB (useB t) k, k)) t.states.toNat
    (fun k l => l.length = t.states.toNat ∧ ∀ s, s < k → nth l s 0 = numB (useB t) s) (fun r => r = R)
    (fun k l hk ⟨c1, c2⟩ => .inl (by
      have hc := cntB_self (useB t) k
      have hother : ∀ (x : Int) s, s < k → nth (l.set k x) s 0 = numB (useB t) s := fun x s hsk => by
        rw [nth_set, if_neg (fun h => by omega)]; exact c2 s hsk
      by_cases hb : useB t k = true
      · have hUse : Use t k := by simpa [useB] using hb
        refine ⟨(l.set k (-1)).set k ((cntB (useB t) k : Nat) : Int), ?_, by rw [List.length_set, List.length_set]; exact c1, fun s hsk => ?_⟩
        · show Ab_ t u v l _ k = _
          unfold Ab_ B5_
          rw [iteO_dt (by omega), grd_mk (by omega), grd_mk (by omega), (h1 k).2 hUse.1, iteO_true, grd_mk (by omega), (h2 k).2 hUse.2, iteO_true, grd_mk (by rw [List.length_set]; omega), grd_mk (show cntB (useB t) k + 1 ≤ 9223372036854775807 by omega)]
          rw [cntB, if_pos hb]; rfl
        · rw [nth_set]
          by_cases c : k = s
          · subst c; rw [if_pos ⟨rfl, by rw [List.length_set]; omega⟩]; exact (numB_pos (s := ((k : Nat) : Int)) hb).symm
          · rw [if_neg (fun h => c h.1)]; exact hother _ s (by omega)
      · have hno : ¬ Use t k := fun h => hb (by simpa [useB] using h)
        refine ⟨l.set k (-1), ?_, by rw [List.length_set]; exact c1, fun s hsk => ?_⟩
        · show Ab_ t u v l _ k = _
          unfold Ab_ B5_
          rw [iteO_dt (by omega), grd_mk (by omega), grd_mk (by omega), cntB, if_neg hb]
          cases e1 : nth u k false with
          | false => rfl
          | true =>
            rw [iteO_true, grd_mk (by omega)]
            cases e2 : nth v k false with
            | false => rfl
            | true => exact absurd ⟨(h1 k).1 e1, (h2 k).1 e2⟩ hno
        · by_cases c : k = s
          · subst c
            rw [nth_set, if_pos ⟨rfl, by omega⟩]
            unfold numB; rw [if_neg (by simpa using hb)]
          · exact hother _ s (by omega)))
    (fun l ⟨c1, c2⟩ => ⟨R, by
      show Ab_ t u v l _ t.states.toNat = _
      unfold Ab_
      rw [iteO_df (by omega), hR l ⟨c1, fun s s0 s1 => by
        have := c2 s.toNat (by omega)
        rw [this]; congr 1; omega⟩]; rfl, rfl⟩)
    (s0 := List.replicate t.states.toNat 0) ⟨List.length_replicate .., fun s hs => by omega⟩
  exact e
theorem rtrim_eq (t : Fst) : Dt_ t = some (if fstB t = true then (trimD t, 0) else (⟨0, [], [], []⟩, 1)) := by
  unfold Dt_
  rw [right_eq, bnd_mk]
  by_cases h : fstB t = true
  · have ht := (fstB_iff t).1 h
    have h0 := ht.st0
    have h1 := ht.st1
    obtain ⟨u, a1, a2, a3⟩ := rgrown_ok ht t.starts false fun x hx => (ht.starts x hx).1
    obtain ⟨v, b1, b2, b3⟩ := rgrown_ok ht t.ends true fun x hx => (ht.ends x hx).1
    rw [h, Bool.not_true, iteO_false, a1, bnd_mk, b1, bnd_mk, grd_mk ⟨h0, by omega⟩, if_pos rfl]
    refine rnumber_eq ht a2 b2 a3 b3 fun num hn => ?_
    rw [rtrim_starts ht hn, rsort_eq]
    show bnd (some (if fstB (keepF (useB t) t) = true then (srt (keepF (useB t) t), 0) else _)) _ = _
    rw [if_pos ((fstB_iff _).2 (keep_ok ht))]; rfl
  · simp only [Bool.not_eq_true] at h
    rw [h]; rfl
end Go.Proofs.YtjhbngjhdmapmaaGreatDoor
end

section
namespace Go.Proofs.YtjhbngjhdmapmaaGreatDoor
open Go Go.E
theorem rbegins_eq (x y : List UInt8) (hx : x.length ≤ 281474976710656) (hy : y.length ≤ 281474976710656) : B6_ x y = some (decide (x.length ≤ y.length ∧ y.take x.length = x)) := by
  unfold B6_
  rw [grd_mk hx, grd_mk hy]
  by_cases c : x.length ≤ y.length
  · rw [iteO_dt (by omega), grd_mk ⟨by omega, c⟩]
    simp [c]
  · rw [iteO_df (by omega)]
    simp [c]
theorem lcp_le : ∀ (a b : List UInt8) (n : Nat), n ≤ a.length → (n ≤ lcpN a b ↔ n ≤ b.length ∧ b.take n = a.take n)
  | a, b, 0, _ => by simp
  | [], b, n + 1, h => by simp at h
  | x :: l, [], n + 1, h => by simp [lcpN]
  | x :: l, y :: m, n + 1, h => by
    have ih := lcp_le l m n (by simpa using h)
    unfold lcpN
    by_cases c : x = y
    · subst c; simp [ih]
    · simp only [if_neg c, List.length_cons, List.take_succ_cons, List.cons.injEq]
      constructor
      · intro h; omega
      · intro h; exact absurd h.2.1.symm c
theorem rlcp_in (a b : List UInt8) (ha : a.length ≤ 281474976710656) (hb : b.length ≤ 281474976710656) (n : Nat) (hn : n + 1 ≤ a.length) :
    Bl_ [a, b] ((n + 1 : Nat) : Int) = some (if n + 1 ≤ b.length ∧ b.take (n + 1) = a.take (n + 1) then .inr (a.take (n + 1)) else .inl ((n : Nat) : Int)) := by
  have hl : (a.take (n + 1)).length = n + 1 := by rw [List.length_take]; omega
  unfold Bl_
  rw [iteO_dt (by omega)]
  refine iter_next (s' := (true, 1)) ?_ (iter_next (s' := (decide (n + 1 ≤ b.length ∧ b.take (n + 1) = a.take (n + 1)), 2)) ?_ (iter_done ?_))
  · show A3_ [a, b] _ true 0 = _
    unfold A3_ Cs_
    rw [iteO_dt (by simp), iteO_true, grd_mk (by simp), grd_mk (by simp only [nth, List.getD_cons_zero]; omega), Int.toNat_natCast]
    show bnd (B6_ (a.take (n + 1)) a) _ = _
    rw [rbegins_eq _ _ (by omega) ha, bnd_mk, hl, decide_eq_true ⟨hn, rfl⟩]; rfl
  · show A3_ [a, b] _ true 1 = _
    unfold A3_ Cs_
    rw [iteO_dt (by simp), iteO_true, grd_mk (by simp), grd_mk (by simp only [nth, List.getD_cons_zero]; omega), Int.toNat_natCast]
    show bnd (B6_ (a.take (n + 1)) b) _ = _
    rw [rbegins_eq _ _ (by omega) hb, bnd_mk, hl]; rfl
  · show A3_ [a, b] _ _ 2 = _
    unfold A3_
    rw [iteO_df (by simp)]
    by_cases c : n + 1 ≤ b.length ∧ b.take (n + 1) = a.take (n + 1)
    · rw [decide_eq_true c, iteO_true, grd_mk (by simp), grd_mk (by simp only [nth, List.getD_cons_zero]; omega), Int.toNat_natCast, if_pos c]; rfl
    · rw [decide_eq_false c, iteO_false, if_neg c, show ((n + 1 : Nat) : Int) - 1 = (n : Int) by omega, wrap64_of (by omega) (by omega)]; rfl
theorem rlcp_eq (a b : List UInt8) (ha : a.length ≤ 281474976710656) (hb : b.length ≤ 281474976710656) : D4_ [a, b] = some (a.take (lcpN a b)) := by
  have key : ∀ n : Nat, n ≤ a.length → lcpN a b ≤ n → iter (fun q : Int => Bl_ [a, b] q) ((n : Nat) : Int) = some (a.take (lcpN a b)) := by
    intro n
    induction n with
    | zero =>
      intro _ h
      rw [show lcpN a b = 0 by omega]
      refine iter_done ?_
      show Bl_ [a, b] _ = _
      unfold Bl_
      rw [iteO_df (by omega)]; rfl
    | succ n ih =>
      intro hn h
      have hs := rlcp_in a b ha hb n hn
      have hi := lcp_le a b (n + 1) hn
      by_cases c : n + 1 ≤ b.length ∧ b.take (n + 1) = a.take (n + 1)
      · rw [if_pos c] at hs
        have := hi.2 c
        rw [show lcpN a b = n + 1 by omega]
        exact iter_done hs
      · rw [if_neg c] at hs
        have : ¬ n + 1 ≤ lcpN a b := fun h => c (hi.1 h)
        exact iter_next hs (ih (by omega) (by omega))
  unfold D4_
  rw [iteO_df (by simp), grd_mk (by simp)]
  exact key a.length (Nat.le_refl _) (lcpN_l a b)
theorem rlag_eq (a b : List UInt8) (ha : a.length ≤ 281474976710656) (hb : b.length ≤ 281474976710656) : Dw_ a b = some (lagS a b) := by
  have h1 := lcpN_l a b
  have h2 := lcpN_r a b
  have hl : (a.take (lcpN a b)).length = lcpN a b := by rw [List.length_take]; omega
  unfold Dw_
  rw [grd_mk ha, grd_mk hb, rlcp_eq a b ha hb, bnd_mk, hl, grd_mk ⟨h1, Nat.le_refl _⟩, grd_mk ⟨h2, Nat.le_refl _⟩]
  rfl
end Go.Proofs.YtjhbngjhdmapmaaGreatDoor
end

section
namespace Go.Proofs.YtjhbngjhdmapmaaGreatDoor
open Go Go.E
theorem rlag19_eq (p q : Int) (a b : List UInt8) (ha : a.length ≤ 281474976710656) (hb : b.length ≤ 281474976710656) : Cy_ p q a b = some ⟨p, q, (lagS a b).1, (lagS a b).2⟩ := by
  unfold Cy_
  rw [grd_mk ha, grd_mk hb, rlag_eq a b ha hb, bnd_mk]
theorem rfirsts_eq {t : Fst} (hl : ∀ x ∈ t.starts, x.out.length ≤ 1000000) (hn : t.starts.length ≤ 1024) : Dl_ t = some (firstL t) := by
  have hin : ∀ k, k < t.starts.length → ∀ acc : List TLag, acc.length ≤ 1024 * 1024 → iter (fun q : (List TLag) × Nat => Ag_ t k q.1 q.2) (acc, 0) = some (.inl (acc ++ t.starts.map (pairLag (nth t.starts k Tip.zero)), k + 1)) := fun k hk acc hacc => by
    have hx := hl _ (mem_at Tip.zero hk)
    have h := iter_fold (step := fun q : (List TLag) × Nat => Ag_ t k q.1 q.2) (r := .inl (acc ++ t.starts.map (pairLag (nth t.starts k Tip.zero)), k + 1)) t.starts Tip.zero (fun j => acc ++ (t.starts.take j).map (pairLag (nth t.starts k Tip.zero))) (fun j hj => ?_) ?_
    · simpa using h
    · have hy := hl _ (mem_at Tip.zero hj)
      show Ag_ t k _ j = _
      unfold Ag_
      rw [iteO_dt (by omega), rlag19_eq _ _ _ _ (by omega) (by omega), bnd_mk, grd_mk (by simp only [List.length_append, List.length_map, List.length_take, List.length_singleton]; omega), take_snoc _ hj Tip.zero, List.map_append, ← List.append_assoc]
      rfl
    · show Ag_ t k _ t.starts.length = _
      unfold Ag_
      rw [iteO_df (by omega), List.take_length]; rfl
  unfold Dl_
  refine iter_fold t.starts Tip.zero (fun k => (t.starts.take k).flatMap fun x => t.starts.map (pairLag x)) (fun k hk => ?_) ?_
  · show Be_ t _ k = _
    have hlen : ((t.starts.take k).flatMap fun x => t.starts.map (pairLag x)).length = k * t.starts.length := by
      rw [List.length_flatMap]
      simp only [List.length_map, List.map_const', List.sum_replicate_nat, List.length_take]
      rw [Nat.min_eq_left (by omega)]
    have := Nat.mul_le_mul (show k ≤ 1024 by omega) hn
    unfold Be_
    rw [iteO_dt (by omega), hin k hk _ (by dsimp only; rw [hlen]; exact this), take_snoc _ hk Tip.zero, List.flatMap_append, List.flatMap_singleton]
  · show Be_ t _ t.starts.length = _
    unfold Be_
    rw [iteO_df (by omega), List.take_length]; rfl
def bytesD (s : BSet) : List UInt8 := ((List.range 256).filter s.has).map fun n => toU8 ((n : Nat) : Int)
theorem rbytes_eq (s : BSet) : Ce_ s = some (bytesD s) := by
  have h := iter_fold (step := fun q : List UInt8 × Nat => Aa_ s q.1 q.2) (r := bytesD s) (List.range 256) 0 (fun k => ((List.range k).filter s.has).map fun n => toU8 ((n : Nat) : Int)) (fun k hk => ?_) ?_
  · exact h
  · rw [List.length_range] at hk
    have hl : (((List.range k).filter s.has).map fun n => toU8 ((n : Nat) : Int)).length ≤ k := by
      rw [List.length_map]; exact Nat.le_trans (List.length_filter_le ..) (by simp)
    show Aa_ s _ k = _
    unfold Aa_ B9_
    rw [iteO_dt (by omega), grd_mk hk, List.range_succ, List.filter_append, List.map_append]
    cases hb : s.has k with
    | true => rw [iteO_true, grd_mk (by rw [List.length_singleton]; dsimp only; omega)]; simp [hb, nxt]
    | false => rw [iteO_false]; simp [hb, nxt]
  · show Aa_ s _ (List.range 256).length = _
    unfold Aa_
    rw [List.length_range, iteO_df (by omega)]; rfl
theorem rby_eq (a b : BSet) : Do_ a b 0 = some (BSet.make fun i => a.has i && b.has i) := by
  unfold Do_
  rw [grd_mk rfl]
  obtain ⟨r, h, rfl⟩ := iter_up (step := fun q : (List Bool) × Nat => Ad_ a b q.1 q.2) (fun (l : List Bool) k => (l, k)) 256 (fun k l => l.length = 256 ∧ ∀ i, i < 256 → nth l i false = (decide (i < k) && (a.has i && b.has i)))
    (fun r => r = BSet.make fun i => a.has i && b.has i)
    (fun k l hk ⟨c1, c2⟩ => .inl (by
      have hset : ∀ x : Bool, x = (a.has k && b.has k) → (l.set k x).length = 256 ∧ ∀ i, i < 256 → nth (l.set k x) i false = (decide (i < k + 1) && (a.has i && b.has i)) := fun x hx => ⟨by rw [List.length_set]; exact c1, fun i hi => by
        rw [nth_set]
        by_cases c : k = i
        · subst c; rw [if_pos ⟨rfl, by omega⟩, decide_eq_true (show k < k + 1 by omega), Bool.true_and, hx]
        · rw [if_neg (fun h => c h.1), c2 i hi]
          by_cases c3 : i < k
          · rw [decide_eq_true c3, decide_eq_true (show i < k + 1 by omega)]
          · rw [decide_eq_false c3, decide_eq_false (show ¬ i < k + 1 by omega)]⟩
      cases ha : a.has k with
      | true =>
        cases hb : b.has k with
        | true => exact ⟨l.set k true, by
            show Ad_ a b l k = _
            unfold Ad_ B1_
            rw [iteO_dt (by omega), grd_mk hk, grd_mk hk, ha, iteO_true, hb, iteO_true, grd_mk (by omega)]; rfl, hset true (by rw [ha, hb]; rfl)⟩
        | false => exact ⟨l.set k false, by
            show Ad_ a b l k = _
            unfold Ad_ B1_
            rw [iteO_dt (by omega), grd_mk hk, grd_mk hk, ha, iteO_true, hb, iteO_false, grd_mk (by omega)]; rfl, hset false (by rw [ha, hb]; rfl)⟩
      | false => exact ⟨l.set k false, by
            show Ad_ a b l k = _
            unfold Ad_ B1_
            rw [iteO_dt (by omega), grd_mk hk, grd_mk hk, ha, iteO_false, grd_mk (by omega)]; rfl, hset false (by rw [ha]; rfl)⟩))
    (fun l ⟨c1, c2⟩ => ⟨BSet.make fun i => nth l i false, by
      show Ad_ a b l 256 = _
      unfold Ad_
      rw [iteO_df (by omega), grd_mk (List.length_replicate ..)]; rfl, BSet.make_congr fun i hi => by rw [c2 i hi, decide_eq_true hi, Bool.true_and]⟩)
    (s0 := List.replicate 256 false) ⟨List.length_replicate .., fun i hi => by
      unfold nth
      rw [List.getD_eq_getElem?_getD, List.getElem?_replicate, if_pos hi]; rfl⟩
  exact h
end Go.Proofs.YtjhbngjhdmapmaaGreatDoor
end

section
namespace Go.Proofs.YtjhbngjhdmapmaaGreatDoor
open Go Go.E
def mx (M : List (List Bool)) (p q : Nat) : Bool := nth (nth M p ([] : List Bool)) q false
structure MxD (n : Nat) (M : List (List Bool)) : Prop where
 len : M.length = n
 row : ∀ p, p < n → (nth M p ([] : List Bool)).length = n
def mxSet (M : List (List Bool)) (p q : Nat) : List (List Bool) := M.set p ((nth M p ([] : List Bool)).set q true)
theorem MxD.set {n : Nat} {M : List (List Bool)} (h : MxD n M) (p q : Nat) : MxD n (mxSet M p q) := by
 refine ⟨by unfold mxSet; rw [List.length_set]; exact h.len, fun i hi => ?_⟩
 unfold mxSet
 rw [nth_set]
 by_cases c : p = i ∧ i < M.length
 ·rw [if_pos c, List.length_set, c.1]; exact h.row i hi
 ·rw [if_neg c]; exact h.row i hi
theorem mx_set {n : Nat} {M : List (List Bool)} (h : MxD n M) {p q : Nat} (hp : p < n) (hq : q < n) (i j : Nat) : mx (mxSet M p q) i j = if p = i ∧ q = j then true else mx M i j := by
 have h1 := h.len
 have h2 := h.row p hp
 unfold mx mxSet
 rw [nth_set]
 by_cases c : p = i
 ·subst c
  rw [if_pos ⟨rfl, by omega⟩, nth_set]
  by_cases d : q = j
  ·subst d; rw [if_pos ⟨rfl, by omega⟩, if_pos ⟨rfl, rfl⟩]
  ·rw [if_neg (fun e => d e.1), if_neg (fun e => d e.2)]
 ·rw [if_neg (fun e => c e.1), if_neg (fun e => c e.1)]
theorem make_nz {f : Nat → Bool} : BSet.make f ≠ BSet.zero ↔ ∃ n, n < 256 ∧ f n = true := by
 constructor
 ·intro h
  apply Decidable.byContradiction
  intro hc
  refine h ?_
  rw [← BSet.make_zero]
  exact BSet.make_congr fun i hi => by
   cases e : f i with
   | false => rfl
   | true => exact absurd ⟨i, hi, e⟩ hc
 ·rintro ⟨n, hn, e⟩ h
  have h1 := BSet.make_has f hn
  rw [h, e] at h1
  have h2 := BSet.make_has (fun _ => false) hn
  rw [BSet.make_zero] at h2
  rw [h2] at h1
  cases h1
def byB (x y : Arc) : Prop := ∃ b : UInt8, x.set.has b.toNat = true ∧ y.set.has b.toNat = true
theorem make_by {x y : Arc} : (BSet.make fun i => x.set.has i && y.set.has i) ≠ BSet.zero ↔ byB x y := by
 rw [make_nz]
 constructor
 ·rintro ⟨n, hn, e⟩
  rw [Bool.and_eq_true] at e
  have := UInt8.toNat_ofNat_of_lt' (n := n) hn
  exact ⟨UInt8.ofNat n, by rw [this]; exact e.1, by rw [this]; exact e.2⟩
 ·rintro ⟨b, h1, h2⟩
  exact ⟨b.toNat, b.toNat_lt, by rw [h1, h2]; rfl⟩
def MxLe (M N : List (List Bool)) : Prop := ∀ i j, mx M i j = true → mx N i j = true
theorem MxLe.rfl' (M : List (List Bool)) : MxLe M M := fun _ _ h => h
theorem MxLe.trans {M N O : List (List Bool)} (h : MxLe M N) (k : MxLe N O) : MxLe M O := fun i j e => k i j (h i j e)
theorem MxLe.set {n : Nat} {M : List (List Bool)} (h : MxD n M) {p q : Nat} (hp : p < n) (hq : q < n) : MxLe M (mxSet M p q) := fun i j e => by
 rw [mx_set h hp hq]; split
 ·rfl
 ·exact e
structure MxI (T : Fst) (n : Nat) (M : List (List Bool)) : Prop where
 d : MxD n M
 sound : ∀ i j : Nat, mx M i j = true → Jt T ((i : Nat) : Int) ((j : Nat) : Int)
section
variable {T : Fst} (hT : FstOk T) {n : Nat} (hn : T.states = ((n : Nat) : Int)) (hn32 : n ≤ 32)
include hT hn
def Stab (T : Fst) (M : List (List Bool)) (x y : Arc) : Prop := byB x y → mx M x.to.toNat y.to.toNat = true → mx M x.frm.toNat y.frm.toNat = true
structure PassI (T : Fst) (n : Nat) (M0 M : List (List Bool)) (t : Bool) : Prop where
 i : MxI T n M
 le : MxLe M0 M
 more : t = true → ∃ z, z < n * n ∧ mx M0 (z / n) (z % n) = false ∧ mx M (z / n) (z % n) = true
 same : t = false → M = M0
theorem pass_one {M0 M : List (List Bool)} {t : Bool} (h : PassI T n M0 M t) {k j : Nat} (hk : k < T.arcs.length) (hj : j < T.arcs.length) :
  ∃ M' t', Ak_ T k M t j = some (.inl (M', t', j + 1)) ∧ PassI T n M0 M' t' ∧ (t' = false → t = false ∧ Stab T M' (nth T.arcs k Arc.zero) (nth T.arcs j Arc.zero)) := by
 have hx := hT.arcs _ (nth_mem' hk Arc.zero)
 have hy := hT.arcs _ (nth_mem' hj Arc.zero)
 have hxm := nth_mem' hk Arc.zero
 have hym := nth_mem' hj Arc.zero
 have hl := h.i.d.len
 unfold Ak_ Bv_
 generalize nth T.arcs k Arc.zero = x at hx hxm ⊢
 generalize nth T.arcs j Arc.zero = y at hy hym ⊢
 rw [hn] at hx hy
 have r1 := h.i.d.row x.to.toNat (by omega)
 have r2 := h.i.d.row x.frm.toNat (by omega)
 rw [iteO_dt (by omega), grd_mk ⟨by omega, by omega⟩, grd_mk ⟨by omega, by omega⟩, grd_mk ⟨by omega, by omega⟩]
 have e1 : nth (nth M x.to.toNat ([] : List Bool)) y.to.toNat false = mx M x.to.toNat y.to.toNat := rfl
 have e2 : nth (nth M x.frm.toNat ([] : List Bool)) y.frm.toNat false = mx M x.frm.toNat y.frm.toNat := rfl
 rw [e1, e2]
 cases h1 : mx M x.to.toNat y.to.toNat with
 | false =>
  exact ⟨M, t, rfl, h, fun ht => ⟨ht, fun _ q => by rw [h1] at q; cases q⟩⟩
 | true =>
  rw [iteO_true, grd_mk ⟨by omega, by omega⟩]
  cases h2 : mx M x.frm.toNat y.frm.toNat with
  | true => exact ⟨M, t, rfl, h, fun ht => ⟨ht, fun _ _ => h2⟩⟩
  | false =>
   rw [iteO_nf, rby_eq, bnd_mk]
   by_cases hb : (BSet.make fun i => x.set.has i && y.set.has i) = BSet.zero
   ·rw [iteO_df (by simpa using hb)]
    exact ⟨M, t, rfl, h, fun ht => ⟨ht, fun hq => absurd hb (make_by.2 hq)⟩⟩
   ·rw [iteO_dt hb, grd_mk ⟨by omega, by omega⟩]
    obtain ⟨b, b1, b2⟩ := make_by.1 hb
    have hpf : x.frm.toNat < n := by omega
    have hqf : y.frm.toNat < n := by omega
    refine ⟨mxSet M x.frm.toNat y.frm.toNat, true, rfl, ⟨⟨h.i.d.set _ _, fun i j e => ?_⟩, h.le.trans (MxLe.set h.i.d hpf hqf), fun _ => ?_, fun q => by cases q⟩, fun q => by cases q⟩
    ·rw [mx_set h.i.d hpf hqf] at e
     by_cases c : x.frm.toNat = i ∧ y.frm.toNat = j
     ·have hj := h.i.sound _ _ h1
      obtain ⟨w, m1, m2, e, he, f, hf, k1, k2⟩ := hj
      rw [Int.toNat_of_nonneg hx.2.1.1] at k1
      rw [Int.toNat_of_nonneg hy.2.1.1] at k2
      refine ⟨b :: w, em x b ++ m1, em y b ++ m2, e, he, f, hf, ?_, ?_⟩
      ·rw [← c.1, Int.toNat_of_nonneg hx.1.1]; exact .cons x b hxm b1 k1
      ·rw [← c.2, Int.toNat_of_nonneg hy.1.1]; exact .cons y b hym b2 k2
     ·rw [if_neg c] at e; exact h.i.sound i j e
    ·have hz : x.frm.toNat * n + y.frm.toNat < n * n := by
      have := Nat.mul_le_mul_right n (show x.frm.toNat + 1 ≤ n by omega)
      rw [Nat.add_mul] at this
      omega
     have d1 : (x.frm.toNat * n + y.frm.toNat) / n = x.frm.toNat := by
      rw [Nat.mul_comm, Nat.mul_add_div (by omega), Nat.div_eq_of_lt hqf, Nat.add_zero]
     have d2 : (x.frm.toNat * n + y.frm.toNat) % n = y.frm.toNat := by
      rw [Nat.mul_comm, Nat.mul_add_mod, Nat.mod_eq_of_lt hqf]
     refine ⟨_, hz, ?_, ?_⟩
     ·rw [d1, d2]
      cases e : mx M0 x.frm.toNat y.frm.toNat with
      | false => rfl
      | true => rw [h.le _ _ e] at h2; cases h2
     ·rw [d1, d2, mx_set h.i.d hpf hqf, if_pos ⟨rfl, rfl⟩]
theorem pass_row {M0 M : List (List Bool)} {t : Bool} (h : PassI T n M0 M t) {k : Nat} (hk : k < T.arcs.length) :
  ∃ M' t', iter (fun q : (List (List Bool)) × Bool × Nat => Ak_ T k q.1 q.2.1 q.2.2) (M, t, 0) = some (.inl (M', t', k + 1)) ∧ PassI T n M0 M' t' ∧ (t' = false → t = false ∧ ∀ y ∈ T.arcs, Stab T M' (nth T.arcs k Arc.zero) y) := by
 obtain ⟨r, e, M', t', rfl, h1, h2⟩ := iter_up (step := fun q : (List (List Bool)) × Bool × Nat => Ak_ T k q.1 q.2.1 q.2.2) (fun (q : (List (List Bool)) × Bool) j => (q.1, q.2, j)) T.arcs.length
  (fun j q => PassI T n M0 q.1 q.2 ∧ (q.2 = false → t = false ∧ ∀ i, i < j → Stab T q.1 (nth T.arcs k Arc.zero) (nth T.arcs i Arc.zero)))
  (fun r => ∃ M' t', r = .inl (M', t', k + 1) ∧ PassI T n M0 M' t' ∧ (t' = false → t = false ∧ ∀ y ∈ T.arcs, Stab T M' (nth T.arcs k Arc.zero) y))
  (fun j q hj hq => by
   obtain ⟨M', t', e, h1, h2⟩ := pass_one hT hn hq.1 hk hj
   refine .inl ⟨(M', t'), e, h1, fun ht => ?_⟩
   obtain ⟨h3, h4⟩ := h2 ht
   obtain ⟨h5, h6⟩ := hq.2 h3
   refine ⟨h5, fun i hi => ?_⟩
   by_cases c : i = j
   ·subst c; exact h4
   ·have a1 := h1.same ht
    have a2 := hq.1.same h3
    rw [a1, ← a2]; exact h6 i (by omega))
  (fun q hq => by
   refine ⟨_, ?_, q.1, q.2, rfl, hq.1, fun ht => ⟨(hq.2 ht).1, fun y hy => ?_⟩⟩
   ·show Ak_ T k q.1 q.2 T.arcs.length = _
    unfold Ak_
    rw [iteO_df (by omega)]; rfl
   ·obtain ⟨i, hi, e2⟩ := mem_nth (d := Arc.zero) hy
    rw [← e2]; exact (hq.2 ht).2 i hi)
  (s0 := (M, t)) ⟨h, fun ht => ⟨ht, fun i hi => absurd hi (by omega)⟩⟩
 exact ⟨M', t', e, h1, h2⟩
theorem pass_all {M0 : List (List Bool)} (h : MxI T n M0) :
  ∃ M' t', iter (fun q : (List (List Bool)) × Bool × Nat => Aj_ T q.1 q.2.1 q.2.2) (M0, false, 0) = some (.inl (M', t')) ∧ PassI T n M0 M' t' ∧ (t' = false → ∀ x ∈ T.arcs, ∀ y ∈ T.arcs, Stab T M' x y) := by
 obtain ⟨r, e, M', t', rfl, h1, h2⟩ := iter_up (step := fun q : (List (List Bool)) × Bool × Nat => Aj_ T q.1 q.2.1 q.2.2) (fun (q : (List (List Bool)) × Bool) j => (q.1, q.2, j)) T.arcs.length
  (fun j q => PassI T n M0 q.1 q.2 ∧ (q.2 = false → ∀ i, i < j → ∀ y ∈ T.arcs, Stab T q.1 (nth T.arcs i Arc.zero) y))
  (fun r => ∃ M' t', r = .inl (M', t') ∧ PassI T n M0 M' t' ∧ (t' = false → ∀ x ∈ T.arcs, ∀ y ∈ T.arcs, Stab T M' x y))
  (fun j q hj hq => by
   obtain ⟨M', t', e, h1, h2⟩ := pass_row hT hn hq.1 hj
   refine .inl ⟨(M', t'), ?_, h1, fun ht => ?_⟩
   ·show Aj_ T q.1 q.2 j = _
    unfold Aj_
    rw [iteO_dt (by omega)]; exact e
   ·obtain ⟨h3, h4⟩ := h2 ht
    have h6 := hq.2 h3
    intro i hi
    by_cases c : i = j
    ·subst c; exact h4
    ·have a1 := h1.same ht
     have a2 := hq.1.same h3
     rw [a1, ← a2]; exact h6 i (by omega))
  (fun q hq => by
   refine ⟨_, ?_, q.1, q.2, rfl, hq.1, fun ht x hx => ?_⟩
   ·show Aj_ T q.1 q.2 T.arcs.length = _
    unfold Aj_
    rw [iteO_df (by omega)]; rfl
   ·obtain ⟨i, hi, e2⟩ := mem_nth (d := Arc.zero) hx
    rw [← e2]; exact hq.2 ht i hi)
  (s0 := (M0, false)) ⟨⟨h, MxLe.rfl' _, fun q => Bool.noConfusion q, fun _ => rfl⟩, fun _ i hi => absurd hi (by omega)⟩
 exact ⟨M', t', e, h1, h2⟩
structure JointOk (T : Fst) (n : Nat) (M : List (List Bool)) : Prop where
 i : MxI T n M
 ends : ∀ e ∈ T.ends, ∀ f ∈ T.ends, mx M e.state.toNat f.state.toNat = true
 stab : ∀ x ∈ T.arcs, ∀ y ∈ T.arcs, Stab T M x y
theorem joint_rounds {M : List (List Bool)} (h : MxI T n M) (he : ∀ e ∈ T.ends, ∀ f ∈ T.ends, mx M e.state.toNat f.state.toNat = true) :
  ∃ M', iter (fun q : (List (List Bool)) × Bool => Af_ T q.1 q.2) (M, true) = some M' ∧ JointOk T n M' := by
 refine iter_up (step := fun q : (List (List Bool)) × Bool => Af_ T q.1 q.2) (fun (q : (List (List Bool)) × Bool) _ => q) (n * n + 1)
  (fun k q => MxI T n q.1 ∧ (∀ e ∈ T.ends, ∀ f ∈ T.ends, mx q.1 e.state.toNat f.state.toNat = true) ∧ (q.2 = true → ∃ D : List Nat, D.Nodup ∧ k ≤ D.length ∧ ∀ z ∈ D, z < n * n ∧ mx q.1 (z / n) (z % n) = true) ∧ (q.2 = false → ∀ x ∈ T.arcs, ∀ y ∈ T.arcs, Stab T q.1 x y))
  _ (fun k q hk hq => ?_) (fun q hq => ?_) (s0 := (M, true)) ⟨h, he, fun _ => ⟨[], List.nodup_nil, Nat.le_refl _, fun z hz => absurd hz List.not_mem_nil⟩, fun q => by cases q⟩
 ·obtain ⟨h1, h2, h3, h4⟩ := hq
  show (∃ s', Af_ T q.1 q.2 = _ ∧ _) ∨ ∃ r, Af_ T q.1 q.2 = _ ∧ _
  unfold Af_
  cases ht : q.2 with
  | false => exact .inr ⟨q.1, rfl, h1, h2, h4 ht⟩
  | true =>
   obtain ⟨M', t', e, a1, a2⟩ := pass_all hT hn h1
   rw [iteO_true, e]
   refine .inl ⟨(M', t'), rfl, a1.i, fun e he f hf => a1.le _ _ (h2 e he f hf), fun ht' => ?_, a2⟩
   obtain ⟨D, d1, d2, d3⟩ := h3 ht
   obtain ⟨z, z1, z2, z3⟩ := a1.more ht'
   refine ⟨z :: D, List.nodup_cons.2 ⟨fun hz => ?_, d1⟩, by rw [List.length_cons]; omega, fun y hy => ?_⟩
   ·rw [(d3 z hz).2] at z2; cases z2
   ·rcases List.mem_cons.1 hy with rfl | hy
    ·exact ⟨z1, z3⟩
    ·exact ⟨(d3 y hy).1, a1.le _ _ (d3 y hy).2⟩
 ·obtain ⟨h1, h2, h3, h4⟩ := hq
  show ∃ r, Af_ T q.1 q.2 = _ ∧ _
  unfold Af_
  cases ht : q.2 with
  | false => exact ⟨q.1, rfl, h1, h2, h4 ht⟩
  | true =>
   obtain ⟨D, d1, d2, d3⟩ := h3 ht
   have := len_of_sub (m := List.range (n * n)) d1 fun z hz => List.mem_range.2 (d3 z hz).1
   rw [List.length_range] at this
   omega
theorem ends_row {M : List (List Bool)} (h : MxI T n M) {k : Nat} (hk : k < T.ends.length) :
  ∃ M', iter (fun q : (List (List Bool)) × Nat => Am_ T k q.1 q.2) (M, 0) = some (.inl (M', k + 1)) ∧ MxI T n M' ∧ MxLe M M' ∧ ∀ f ∈ T.ends, mx M' (nth T.ends k Tip.zero).state.toNat f.state.toNat = true := by
 have hkm := nth_mem' hk Tip.zero
 have hx := (hT.ends _ hkm).1
 rw [hn] at hx
 obtain ⟨r, e, M', rfl, h1, h2, h3⟩ := iter_up (step := fun q : (List (List Bool)) × Nat => Am_ T k q.1 q.2) (fun (q : (List (List Bool))) j => (q, j)) T.ends.length
  (fun j q => MxI T n q ∧ MxLe M q ∧ ∀ i, i < j → mx q (nth T.ends k Tip.zero).state.toNat (nth T.ends i Tip.zero).state.toNat = true)
  (fun r => ∃ M', r = .inl (M', k + 1) ∧ MxI T n M' ∧ MxLe M M' ∧ ∀ f ∈ T.ends, mx M' (nth T.ends k Tip.zero).state.toNat f.state.toNat = true)
  (fun j q hj hq => by
   have hjm := nth_mem' hj Tip.zero
   have hy := (hT.ends _ hjm).1
   rw [hn] at hy
   have hl := hq.1.d.len
   have hr := hq.1.d.row (nth T.ends k Tip.zero).state.toNat (by omega)
   have hp : (nth T.ends k Tip.zero).state.toNat < n := by omega
   have hq' : (nth T.ends j Tip.zero).state.toNat < n := by omega
   refine .inl ⟨mxSet q (nth T.ends k Tip.zero).state.toNat (nth T.ends j Tip.zero).state.toNat, ?_, ⟨hq.1.d.set _ _, fun i i' e => ?_⟩, hq.2.1.trans (MxLe.set hq.1.d hp hq'), fun i hi => ?_⟩
   ·show Am_ T k q j = _
    unfold Am_
    rw [iteO_dt (by omega), grd_mk ⟨by omega, by omega⟩, grd_mk ⟨by omega, by omega⟩]; rfl
   ·rw [mx_set hq.1.d hp hq'] at e
    by_cases c : (nth T.ends k Tip.zero).state.toNat = i ∧ (nth T.ends j Tip.zero).state.toNat = i'
    ·refine ⟨[], [], [], _, hkm, _, hjm, ?_, ?_⟩
     ·rw [← c.1, Int.toNat_of_nonneg hx.1]; exact .nil _
     ·rw [← c.2, Int.toNat_of_nonneg hy.1]; exact .nil _
    ·rw [if_neg c] at e; exact hq.1.sound i i' e
   ·by_cases c : i = j
    ·subst c; rw [mx_set hq.1.d hp hq', if_pos ⟨rfl, rfl⟩]
    ·exact MxLe.set hq.1.d hp hq' _ _ (hq.2.2 i (by omega)))
  (fun q hq => by
   refine ⟨_, ?_, q, rfl, hq.1, hq.2.1, fun f hf => ?_⟩
   ·show Am_ T k q T.ends.length = _
    unfold Am_
    rw [iteO_df (by omega)]; rfl
   ·obtain ⟨i, hi, e2⟩ := mem_nth (d := Tip.zero) hf
    rw [← e2]; exact hq.2.2 i hi)
  (s0 := M) ⟨h, MxLe.rfl' _, fun i hi => absurd hi (by omega)⟩
 exact ⟨M', e, h1, h2, h3⟩
theorem joint_ends {M : List (List Bool)} (h : MxI T n M) :
  ∃ M', iter (fun q : (List (List Bool)) × Nat => Al_ T q.1 q.2) (M, 0) = some M' ∧ JointOk T n M' := by
 refine iter_up (step := fun q : (List (List Bool)) × Nat => Al_ T q.1 q.2) (fun (q : (List (List Bool))) j => (q, j)) T.ends.length
  (fun j q => MxI T n q ∧ ∀ i, i < j → ∀ f ∈ T.ends, mx q (nth T.ends i Tip.zero).state.toNat f.state.toNat = true) _ (fun k q hk hq => ?_) (fun q hq => ?_) (s0 := M) ⟨h, fun i hi => absurd hi (by omega)⟩
 ·obtain ⟨M', e, h1, h2, h3⟩ := ends_row hT hn hq.1 hk
  refine .inl ⟨M', ?_, h1, fun i hi f hf => ?_⟩
  ·show Al_ T q k = _
   unfold Al_
   rw [iteO_dt (by omega)]; exact e
  ·by_cases c : i = k
   ·subst c; exact h3 f hf
   ·exact h2 _ _ (hq.2 i (by omega) f hf)
 ·obtain ⟨M', e, h1⟩ := joint_rounds hT hn hq.1 fun e he f hf => by
   obtain ⟨i, hi, e2⟩ := mem_nth (d := Tip.zero) he
   rw [← e2]; exact hq.2 i hi f hf
  refine ⟨M', ?_, h1⟩
  show Al_ T q T.ends.length = _
  unfold Al_
  rw [iteO_df (by omega), e]; rfl
omit hT hn in
theorem joint_zero (n : Nat) : MxI T n (List.replicate n (List.replicate n false)) := by
 have : ∀ i j, mx (List.replicate n (List.replicate n false)) i j = false := fun i j => by
  unfold mx
  by_cases h : i < n
  ·have : nth (List.replicate n (List.replicate n false)) i ([] : List Bool) = List.replicate n false := by
    unfold nth; rw [List.getD_eq_getElem?_getD, List.getElem?_replicate, if_pos h]; rfl
   rw [this, nth_rep]
  ·have : nth (List.replicate n (List.replicate n false)) i ([] : List Bool) = [] := by
    unfold nth; rw [List.getD_eq_getElem?_getD, List.getElem?_replicate, if_neg h]; rfl
   rw [this]; rfl
 refine ⟨⟨List.length_replicate, fun p hp => ?_⟩, fun i j e => by rw [this] at e; cases e⟩
 have : nth (List.replicate n (List.replicate n false)) p ([] : List Bool) = List.replicate n false := by
  unfold nth; rw [List.getD_eq_getElem?_getD, List.getElem?_replicate, if_pos hp]; rfl
 rw [this, List.length_replicate]
include hn32
theorem joint_eq : ∃ M, Dm_ T = some M ∧ JointOk T n M := by
 unfold Dm_
 refine iter_up (step := fun q : (List (List Bool)) × Nat => Aw_ T q.1 q.2) (fun (q : (List (List Bool))) j => (q, j)) n
  (fun k q => q = List.replicate k (List.replicate n false)) _ (fun k q hk hq => ?_) (fun q hq => ?_) (s0 := []) rfl
 ·refine .inl ⟨List.replicate (k + 1) (List.replicate n false), ?_, rfl⟩
  show Aw_ T q k = _
  unfold Aw_
  rw [hn, Int.toNat_natCast, iteO_dt (by omega), grd_mk ⟨by omega, by omega⟩, grd_mk (by rw [hq, List.length_replicate, List.length_singleton]; omega), hq, ← List.replicate_succ']; rfl
 ·obtain ⟨M', e, h1⟩ := joint_ends hT hn (joint_zero (T := T) n)
  refine ⟨M', ?_, h1⟩
  show Aw_ T q n = _
  unfold Aw_
  rw [hn, iteO_df (by omega), hq, e]; rfl
omit hn32 in
theorem JointOk.iff {M : List (List Bool)} (h : JointOk T n M) {p q : Int} (hp : 0 ≤ p ∧ p < n) (hq : 0 ≤ q ∧ q < n) : mx M p.toNat q.toNat = true ↔ Jt T p q := by
 constructor
 ·intro e
  have := h.i.sound _ _ e
  rwa [Int.toNat_of_nonneg hp.1, Int.toNat_of_nonneg hq.1] at this
 ·rintro ⟨w, m1, m2, e, he, f, hf, k1, k2⟩
  induction w generalizing p q m1 m2 with
  | nil =>
   rw [← k1.nil_inv.2, ← k2.nil_inv.2]
   exact h.ends e he f hf
  | cons b w ih =>
   obtain ⟨x, hx, rfl, bx, o1, r1, _⟩ := k1.cons_inv
   obtain ⟨y, hy, rfl, by', o2, r2, _⟩ := k2.cons_inv
   have hxr := (hT.arcs x hx).2.1
   have hyr := (hT.arcs y hy).2.1
   rw [hn] at hxr hyr
   exact h.stab x hx y hy ⟨b, bx, by'⟩ (ih hxr hyr _ _ r1 r2)
end
end Go.Proofs.YtjhbngjhdmapmaaGreatDoor
end

section
namespace Go.E
open Go
theorem EqAt.arr2 {P : Program} {n : Nat} {T E : TypeId} {a0 a1 b0 b1 : Value} {p q : Bool} (hT : P.underlying T = some (.array 2 E)) (hA : aggOf P E = some false) (hz : szOf P E = some 1) (h0 : EqAt P n E a0 b0 p) (h1 : EqAt P n E a1 b1 q) : EqAt P (n + 1) T (.agg #[a0, a1]) (.agg #[b0, b1]) (p && q) := fun d w => by
  have g : ∀ (cs : Array Value) (i : Nat) (u : Value), cs[i]? = some u → (part E cs i).run P w = .ok u w := fun cs i u h => run_part_one hA h w
  rw [← Nat.add_assoc, Op.equalIn]
  simp only [Sem.run_bind, run_underlying hT, Result.andThen_ok, run_sizeOf hz, Std.Legacy.Range.forIn_eq_forIn_range', Std.Legacy.Range.size, Nat.sub_zero, Nat.add_sub_cancel, Nat.div_one, List.range'_succ, List.range'_zero, List.forIn_cons, List.forIn_nil, Nat.mul_one, Nat.zero_add]
  rw [g _ 0 a0 rfl, Result.andThen_ok, g _ 0 b0 rfl, Result.andThen_ok, h0 d w, Result.andThen_ok]
  cases p
  · simp
  · simp only [Bool.not_true, Bool.false_eq_true, if_false, Sem.run_pure, Result.andThen_ok, Sem.run_bind]
    rw [g _ 1 a1 rfl, Result.andThen_ok, g _ 1 b1 rfl, Result.andThen_ok, h1 d w, Result.andThen_ok]
    cases q <;> simp
end Go.E
end

section
namespace Go.E
open Go
structure FPr where
  p : Int
  q : Int
  deriving DecidableEq
def FPr.zero : FPr := ⟨0, 0⟩
structure SPr where
  a : List UInt8
  b : List UInt8
  deriving DecidableEq
def SPr.zero : SPr := ⟨[], []⟩
def encSPr (x : SPr) : List Value := [.string (bs x.a), .string (bs x.b)]
structure Visit where
  at' : FPr
  lag : SPr
  deriving DecidableEq
def Visit.zero : Visit := ⟨FPr.zero, SPr.zero⟩
structure FBox where
  what : Visit
  frm : Int
  by' : UInt8
  deriving DecidableEq
def FBox.zero : FBox := ⟨Visit.zero, 0, 0⟩
def encFBox (x : FBox) : List Value := [.int .i64 x.what.at'.p, .int .i64 x.what.at'.q, .string (bs x.what.lag.a), .string (bs x.what.lag.b), .int .i64 x.frm, .int .u8 ((x.by'.toNat : Nat) : Int)]
theorem encFBox_len (x : FBox) : (encFBox x).length = 6 := rfl
theorem encFBox_one : ∀ x, ∀ u ∈ encFBox x, u.oneCell' = true := fun x u hu => by
  simp [encFBox] at hu
  rcases hu with rfl | rfl | rfl | rfl | rfl | rfl <;> rfl
structure Hop where
  live : Bool
  last : Bool
  x : Int
  y : Int
  by' : UInt8
  deriving DecidableEq
def Hop.zero : Hop := ⟨false, false, 0, 0, 0⟩
def encHop (x : Hop) : List Value := [.bool x.live, .bool x.last, .int .i64 x.x, .int .i64 x.y, .int .u8 ((x.by'.toNat : Nat) : Int)]
theorem encHop_len (x : Hop) : (encHop x).length = 5 := rfl
theorem encHop_one : ∀ x, ∀ u ∈ encHop x, u.oneCell' = true := fun x u hu => by
  simp [encHop] at hu
  rcases hu with rfl | rfl | rfl | rfl | rfl <;> rfl
structure FBack where
  frm : Int
  x : Int
  y : Int
  deriving DecidableEq
def FBack.zero : FBack := ⟨0, 0, 0⟩
def encFBack (x : FBack) : List Value := [.int .i64 x.frm, .int .i64 x.x, .int .i64 x.y]
theorem encFBack_len (x : FBack) : (encFBack x).length = 3 := rfl
theorem encFBack_one : ∀ x, ∀ u ∈ encFBack x, u.oneCell' = true := fun x u hu => by
  simp [encFBack] at hu
  rcases hu with rfl | rfl | rfl <;> rfl
structure Search where
  t : Fst
  arcs : List (List Int)
  ends : List (List (List UInt8))
  hops : List Hop
  row : List FBox
  place : List Int
  text : List UInt8
  found : Bool
end Go.E
end

section
namespace Go.E
open Go
theorem run_append_roomO {P : Program} {w : World} (t ty e : TypeId) (i : TypeInfo) (ht : P.underlying t = some (.slice e)) (hi : P.info? e = some i)
    (g o sLen sCap : Nat) (cur : Array Value) (hg : w.heap[g]? = some (.cells cur e (0, 0)))
    (a : Addr) (m c : Nat) (news : List Value) (hl : news.length = m * i.size) (hnews : ∀ j u, news[j]? = some u → w.cell? (a.add j) = some u) (h1 : ∀ u ∈ news, u.oneCell' = true)
    (hroom : sLen + m ≤ sCap) (hfit : o + sLen * i.size + news.length ≤ cur.size) :
    (Builtin.append_ #[t, t] ty #[.slice (some ⟨g, o, none⟩) sLen sCap, .slice (some a) m c]).run P w =
      .ok (.slice (some ⟨g, o, none⟩) (sLen + m) sCap) (w.setRow g (cur.toList.take (o + sLen * i.size) ++ news ++ cur.toList.drop (o + sLen * i.size + news.length)).toArray) := by
  have hf := run_firstCells_some (P := P) w i.size m a m c news hl hnews
  have hst := run_storeCells_at P g (o + sLen * i.size) e news 0 cur w hg (by simpa using hfit) h1
  simp only [Nat.add_zero] at hst
  simp [Builtin.append_, run_underlying ht, sizeOf, typeInfo, hi, Builtin.lenOf, hroom, hf, Addr.add_lit, hst]
def viewV (size k : Nat) : Value → Value
  | .slice a n c => .slice (a.map fun b => b.add (k * size)) (n - k) (c - k)
  | v => v
theorem viewV_zero (size : Nat) (v : Value) : viewV size 0 v = v := by
  cases v <;> simp only [viewV]
  rename_i a n c
  cases a <;> simp [Addr.add]
theorem viewV_block (size k : Nat) (v : Value) : (viewV size k v).ownBlock = v.ownBlock := by
  cases v <;> simp only [viewV]
  rename_i a n c
  cases a with
  | none => rfl
  | some b => simp only [Value.ownBlock, Option.map_some, Addr.add]; split <;> rfl
def View (size k : Nat) (v0 v : Value) (n : Nat) : Prop := v = viewV size k v0 ∨ n = 0 ∧ v.ownBlock = v0.ownBlock ∧ ∃ a, v = .slice a 0 0
theorem View.block {size k : Nat} {v0 v : Value} {n : Nat} (h : View size k v0 v n) : v.ownBlock = v0.ownBlock := by
  rcases h with rfl | ⟨_, h, _⟩
  · exact viewV_block ..
  · exact h
def Row0 {α : Type} (E size : Nat) (enc : α → List Value) (v : Value) (L : List α) (w : World) : Prop := w.ownsRow 0 E size v L.length (L.flatMap enc) ∧ ∀ u ∈ L.flatMap enc, u.oneCell' = true
def Res.queS {α : Type} (E size : Nat) (enc : α → List Value) (v : Value) (l : List α) : Res where
  bl := v.ownBlock.toList
  holds w := ∃ (L : List α) (v0 : Value) (k : Nat), Row0 E size enc v0 L w ∧ k ≤ L.length ∧ l = L.drop k ∧ View size k v0 v l.length ∧ l.length ≤ 281474976710656
  lt w b hb h := by
    obtain ⟨L, v0, k, h, _, _, hv, _⟩ := h
    exact (h.1.lt b (by rw [← hv.block]; exact Option.mem_toList.1 hb)).2
  keep w w' hb h := by
    obtain ⟨L, v0, k, ⟨h, ho⟩, h1, h2, hv, h3⟩ := h
    refine ⟨L, v0, k, ⟨⟨h.1, ?_⟩, ho⟩, h1, h2, hv, h3⟩
    have hbl := hv.block
    rcases h.2 with hn | ⟨g, cap, cur, rfl, h0, hg, rest⟩
    · exact .inl hn
    · exact .inr ⟨g, cap, cur, rfl, h0, by rw [hb g (by rw [hbl]; exact Option.mem_toList.2 rfl)]; exact hg, rest⟩
section
variable {α : Type} {E size : Nat} {enc : α → List Value} {v : Value} {l : List α}
theorem Reach.toQue {w0 : World} {C : List Nat} {σ0 σ : Store} {w : World} {F : List Res} (h : Reach w0 C σ0 σ w (Res.rowS E size enc v l :: F)) : Reach w0 C σ0 σ w (Res.queS E size enc v l :: F) :=
  h.turn1 v.ownBlock v.ownBlock rfl rfl rfl rfl rfl (Nat.le_refl _) (Nat.le_refl _) (fun _ _ _ => rfl) ⟨l, v, 0, ⟨(h.holds _ (List.mem_cons_self ..)).1, (h.holds _ (List.mem_cons_self ..)).2.1⟩, Nat.zero_le _, rfl, .inl (viewV_zero size v).symm, (h.holds _ (List.mem_cons_self ..)).2.2⟩ (fun _ hb => .inl hb)
theorem TC.toQue {X : Ctx} {Q : QP} {c : Code} {e : Env} {σ : Store} {F : List Res} (k : TC X Q c e σ (Res.queS E size enc v l :: F)) : TC X Q c e σ (Res.rowS E size enc v l :: F) := fun w a hw ha => k w a (hw.by fun _ h => h.toQue) ha
theorem que_sl {w : World} (h : (Res.queS E size enc v l).holds w) : IsSl v l.length ∧ l.length ≤ 281474976710656 := by
  obtain ⟨L, v0, k, h, hk, rfl, hv, hb⟩ := h
  obtain ⟨a, c, rfl, h0, hc⟩ := isSl_row h.1
  rw [List.length_drop] at hv hb ⊢
  rcases hv with rfl | ⟨h1, -, a', rfl⟩
  · refine ⟨⟨_, _, rfl, fun hn => ?_, by omega⟩, by omega⟩
    cases a with
    | none => obtain ⟨h1, h2⟩ := h0 rfl; omega
    | some b => cases hn
  · rw [h1]; exact ⟨⟨a', 0, rfl, fun _ => ⟨rfl, rfl⟩, Nat.le_refl _⟩, by omega⟩
theorem isSl_que {σ : Store} {H : List Res} {q : Nat} (hq : H[q]? = some (Res.queS E size enc v l)) : ∀ w, Sees σ H w → IsSl v l.length ∧ l.length ≤ 281474976710656 := fun w hw => que_sl (hw.2 _ (List.mem_of_getElem? hq))
theorem que_cases {w : World} (h : (Res.queS E size enc v l).holds w) : (∃ (L : List α) (g k c : Nat) (cur : Array Value), k ≤ L.length ∧ l = L.drop k ∧ v = .slice (some ⟨g, k * size, none⟩) (L.length - k) (c - k) ∧ w.heap[g]? = some (.cells cur E (0, 0)) ∧ L.length ≤ c ∧ c ≤ maxLen ∧ cur.size = c * size ∧ cur.toList.take (L.length * size) = L.flatMap enc ∧ (L.flatMap enc).length = L.length * size ∧ (∀ u ∈ L.flatMap enc, u.oneCell' = true) ∧ l.length ≤ 281474976710656) ∨ l = [] ∧ ∃ a, v = .slice a 0 0 := by
  obtain ⟨L, v0, k, h, hk, rfl, hv, hbig⟩ := h
  rw [List.length_drop] at hv
  obtain ⟨⟨hl, h1⟩, hone⟩ := h
  rcases hv with rfl | ⟨h7, -, a, rfl⟩
  · rcases h1 with ⟨rfl, hn⟩ | ⟨g, c, cur, rfl, -, hg, h3, h4, h5, h6⟩
    · refine .inr ⟨List.eq_nil_of_length_eq_zero (by rw [List.length_drop]; omega), none, ?_⟩
      simp [viewV]
    · refine .inl ⟨L, g, k, c, cur, hk, rfl, ?_, hg, h3, h4, h5, h6, hl, hone, hbig⟩
      unfold viewV
      simp only [Option.map_some, loc_add, Nat.zero_add]
  · exact .inr ⟨List.eq_nil_of_length_eq_zero (by rw [List.length_drop]; exact h7), a, rfl⟩
theorem que_some {w : World} (h : (Res.queS E size enc v l).holds w) (h0 : 0 < l.length) : ∃ (L : List α) (g k c : Nat) (cur : Array Value), k < L.length ∧ l = L.drop k ∧ v = .slice (some ⟨g, k * size, none⟩) (L.length - k) (c - k) ∧ w.heap[g]? = some (.cells cur E (0, 0)) ∧ L.length ≤ c ∧ c ≤ maxLen ∧ cur.size = c * size ∧ cur.toList.take (L.length * size) = L.flatMap enc ∧ (L.flatMap enc).length = L.length * size ∧ (∀ u ∈ L.flatMap enc, u.oneCell' = true) ∧ l.length ≤ 281474976710656 := by
  rcases que_cases h with ⟨L, g, k, c, cur, hk, rfl, h⟩ | ⟨rfl, -⟩
  · rw [List.length_drop] at h0; exact ⟨L, g, k, c, cur, by omega, rfl, h⟩
  · cases h0
theorem flat_drop {size : Nat} (hl : ∀ x, (enc x).length = size) : ∀ (L : List α) (k : Nat), (L.drop k).flatMap enc = (L.flatMap enc).drop (k * size)
  | L, 0 => by simp
  | [], k + 1 => by simp
  | x :: L, k + 1 => by
    rw [List.drop_succ_cons, flat_drop hl L k, List.flatMap_cons, Nat.add_mul, Nat.one_mul, Nat.add_comm, ← hl x, List.drop_length_add_append]
theorem OpVal.loadQ1 {P : Program} {n : Nat} {e : Env} {σ : Store} {H : List Res} {o : Oper} {x : Operand} {T q i : Nat} {u : Value} (d : α) (ho : o.op = .load T x) (hA : aggOf P T = some false) (hx : ev e x = elem v (i * 1)) (hq : H[q]? = some (Res.queS E 1 enc v l)) (hl : ∀ x, (enc x).length = 1) (hi : i < l.length)
    (hu : (enc (nth l i d))[0]? = some u) : OpVal P n o e σ H u := fun w hw => by
  have hQ := hw.2 _ (List.mem_of_getElem? hq)
  obtain ⟨L, g, k, c, cur, hk, rfl, rfl, hg, h3, h4, h5, h6, h7, h8, h9⟩ := que_some hQ (by omega)
  rw [List.length_drop] at hi
  have hn : nth (L.drop k) i d = nth L (k + i) d := by unfold nth; simp [List.getD_eq_getElem?_getD, List.getElem?_drop]
  rw [hn] at hu
  have hx' : ev e x = loc g (k + i) := by
    rw [hx]; unfold elem loc; simp only [loc_add, Nat.mul_one]
  have hc : cur.toList[k + i]? = some u := by
    have h10 : (L.flatMap enc)[(k + i) * 1 + 0]? = some u := by rw [flatMap_get hl L (k + i) 0 _ (getD_some L (by omega) d) (by omega)]; exact hu
    rw [← h6, List.getElem?_take] at h10
    split at h10
    · simpa using h10
    · cases h10
  exact OpVal.loadLoc (n := n) (H := [Res.cells g cur E]) (i := 0) ho hA hx' rfl (by simpa using hc) w ⟨hw.1, fun r hr => by rw [List.mem_singleton.1 hr]; exact hg⟩
end
section
variable {X : Ctx} {e : Env} {σ : Store} {F : List Res} {o : Oper} {x y : Operand} {K : Env → Store → List Res → Prop} {α : Type} {E size d : Nat} {enc : α → List Value} {v : Value} {l : List α}
theorem OpOk.popQ {T i : Nat} {k : IntKind} (ho : o.op = .slice T x (some y) none none) (ht : X.P.underlying T = some (.slice E)) (hs : szOf X.P E = some size) (hd : o.dst = some d) (hn : Nat.blt d X.n = true) (hx : ev e x = v) (hy : ev e y = .int k (i : Nat)) (hi : i ≤ l.length) (h0 : 0 < l.length)
    (kk : ∀ a c, K (upd e d (.slice a (l.drop i).length c)) σ (Res.queS E size enc (.slice a (l.drop i).length c) (l.drop i) :: F)) : OpOk X o e σ (Res.queS E size enc v l :: F) K := by
  intro u0 C0 τ0 w a hw ha K' Q hK
  have hQ := hw.holds _ (List.mem_cons_self ..)
  obtain ⟨L, g, q, c, cur, hk, rfl, rfl, hg, h3, h4, h5, h6, h7, h8, h9⟩ := que_some hQ h0
  rw [List.length_drop] at hi
  have hlen : ((L.drop q).drop i).length = L.length - q - i := by rw [List.length_drop, List.length_drop]
  have hrow : Row0 E size enc (.slice (some ⟨g, 0, none⟩) L.length c) L w := ⟨⟨h7, .inr ⟨g, c, cur, rfl, Nat.zero_le _, hg, h3, h4, h5, h6⟩⟩, h8⟩
  obtain ⟨a', hrun, hV⟩ : ∃ a', (execOp (ev e) o).run X.P w = .ok (.value (.slice a' (L.length - q - i) (c - q - i))) w ∧ (Value.slice a' (L.length - q - i) (c - q - i)).ownBlock = (Value.slice (some ⟨g, 0, none⟩) L.length c).ownBlock ∧ View size (q + i) (.slice (some ⟨g, 0, none⟩) L.length c) (.slice a' (L.length - q - i) (c - q - i)) (L.length - q - i) := by
    by_cases hc : c - q = i
    · refine ⟨some ⟨g, q * size, none⟩, ?_, rfl, .inr ⟨by omega, rfl, ?_⟩⟩
      · have h1 : (i : Int) ≤ ((c - q : Nat) : Int) := by omega
        have h2 : (i : Int) ≤ ((L.length - q : Nat) : Int) := by omega
        simp [execOp, ho, hx, hy, Instr.sliceAt, Instr.slice, Instr.sliceBounds, Instr.sliceBound, asIntOf, run_underlying ht, run_sizeOf hs]
        rw [if_pos hi, if_pos hc]
      · rw [show L.length - q - i = 0 by omega, show c - q - i = 0 by omega]; exact ⟨_, rfl⟩
    · refine ⟨some ⟨g, (q + i) * size, none⟩, ?_, rfl, .inl ?_⟩
      · simp [execOp, ho, hx, hy, Instr.sliceAt, Instr.slice, Instr.sliceBounds, Instr.sliceBound, asIntOf, run_underlying ht, run_sizeOf hs]
        rw [if_pos hi, if_neg hc, loc_add, ← Nat.add_mul]
      · unfold viewV
        simp only [Option.map_some, loc_add, Nat.zero_add, Nat.sub_sub]
  have hR : Reach u0 C0 τ0 σ w (Res.queS E size enc (.slice a' (L.length - q - i) (c - q - i)) ((L.drop q).drop i) :: F) :=
    hw.turn1 (some g) (some g) rfl (by show (Value.slice a' (L.length - q - i) (c - q - i)).ownBlock.toList = _; rw [hV.1]; rfl) rfl rfl rfl (Nat.le_refl _) (Nat.le_refl _) (fun _ _ _ => rfl) ⟨L, _, q + i, hrow, by omega, by rw [List.drop_drop], by rw [hlen]; exact hV.2, by rw [List.length_drop] at h9; omega⟩ (fun _ hb => .inl hb)
  have hk2 := kk a' (c - q - i)
  rw [hlen] at hk2
  refine Oper.wp_of_run (w' := w) (v := .slice a' (L.length - q - i) (c - q - i)) ?_ (hK _ _ _ _ _ hk2 hR (put_dst ha hd hn _))
  rw [ha.eval']; exact hrun
theorem OpOk.appendQ {T by_ : Nat} {z u : Value} {l2 : List α} {ty : TypeId} (ho : o.op = .call { callee := .builtin .append, args := #[x, y], argTypes := #[T, ty] }) (hty : ty = T) (ht : X.P.underlying T = some (.slice E)) (hs : szOf X.P E = some size) (hby : byOf X.P E = some by_) (hz : zeroOf X.P E = some z)
    (hd : o.dst = some d) (hn : Nat.blt d X.n = true) (hsz : 0 < size) (hzs : z.cells.size = size) (hl : ∀ x, (enc x).length = size) (hx : ev e x = v) (hy : ev e y = u) (hsrc : SourceS σ F size enc u l2) (hb0 : (l.length + l2.length) * by_ ≤ 140737488355328) (hby0 : 0 < by_) (h2 : 0 < l2.length)
    (k : ∀ a c, K (upd e d (.slice a (l ++ l2).length c)) σ (Res.queS E size enc (.slice a (l ++ l2).length c) (l ++ l2) :: F)) : OpOk X o e σ (Res.queS E size enc v l :: F) K := by
  subst hty
  obtain ⟨i, hi, hsi⟩ := szOf_info hs
  have hiz : i.zero = some z := by simpa [zeroOf, hi] using hz
  have hib : i.bytes = by_ := by simpa [byOf, hi] using hby
  have hm0 : l.length + l2.length ≤ 140737488355328 := Nat.le_trans (Nat.le_mul_of_pos_right _ hby0) hb0
  have hm : l.length + l2.length ≤ maxLen := by unfold maxLen; omega
  intro u0 C0 τ0 w a hw ha K' Q hK
  have hQ := hw.holds _ (List.mem_cons_self ..)
  have hF : Sees σ F w := ⟨hw.fit, fun r hr => hw.holds r (List.mem_cons_of_mem _ hr)⟩
  have hsrc' : Source σ F size u l2.length (l2.flatMap enc) := by
    rcases hsrc with h | ⟨E', q, h⟩
    · exact .inl h.rv
    · exact .inr ⟨E', q, h⟩
  have hyl : (l2.flatMap enc).length = l2.length * size := flatMap_len hl l2
  rcases hsrc'.spec hF with ⟨_, h0, _⟩ | ⟨ad, c2, rfl, hl2, hc2, h1⟩
  · omega
  have hone2 : ∀ q ∈ (l ++ l2).flatMap enc, (∀ u ∈ l.flatMap enc, u.oneCell' = true) → q.oneCell' = true := fun q hq h0 => by
    rw [List.flatMap_append] at hq
    rcases List.mem_append.1 hq with hq | hq
    · exact h0 q hq
    · exact h1 q hq
  have hfl : (l.flatMap enc).length = l.length * size := flatMap_len hl l
  -- the end: a new row with all of it
  have fin : ∀ (vb : Value) (cap : Nat), v = vb → (∀ u ∈ l.flatMap enc, u.oneCell' = true) → cap < l.length + l2.length →
      (Builtin.append_ #[ty, ty] o.type #[vb, .slice (some ad) l2.length c2]).run X.P w =
        .ok (.slice (some ⟨w.heap.size, 0, none⟩) (l.length + l2.length) (grownCap w (l.length + l2.length) cap E)) (w.drew.alloc (.cells ((l.flatMap enc).toArray ++ (l2.flatMap enc).toArray ++ Builtin.zeroCells z.cells (grownCap w (l.length + l2.length) cap E - (l.length + l2.length))) E)) →
      o.wpIn (fence X.rnd) 0 X.P a w K' Q := fun vb cap hvb hone hcap hrun => by
    subst hvb
    have hge := grownCap_ge w (l.length + l2.length) cap E
    have hcm : grownCap w (l.length + l2.length) cap E ≤ maxLen := grownCap_le_maxLen w (l.length + l2.length) cap E hm
    have hrow : Row0 E size enc (.slice (some ⟨w.heap.size, 0, none⟩) (l.length + l2.length) (grownCap w (l.length + l2.length) cap E)) (l ++ l2) (w.drew.alloc (.cells ((l.flatMap enc).toArray ++ (l2.flatMap enc).toArray ++ Builtin.zeroCells z.cells (grownCap w (l.length + l2.length) cap E - (l.length + l2.length))) E)) := by
      refine ⟨⟨by rw [flatMap_len hl], .inr ⟨w.heap.size, _, _, by rw [List.length_append], Nat.zero_le _, heap_alloc_new w.drew _, by rw [List.length_append]; exact hge, hcm, ?_, ?_⟩⟩, fun q hq => hone2 q hq hone⟩
      · simp only [Array.size_append, List.size_toArray, size_zeroCells, hzs, hfl, hyl, ← Nat.add_mul]
        congr 1
        omega
      · simp only [Array.toList_append, List.append_assoc, List.flatMap_append]
        rw [← List.append_assoc, List.length_append, Nat.add_mul, ← hfl, ← hyl, ← List.length_append]
        exact List.take_left
    have hR : Reach u0 C0 τ0 σ (w.drew.alloc (.cells ((l.flatMap enc).toArray ++ (l2.flatMap enc).toArray ++ Builtin.zeroCells z.cells (grownCap w (l.length + l2.length) cap E - (l.length + l2.length))) E)) (Res.queS E size enc (.slice (some ⟨w.heap.size, 0, none⟩) (l.length + l2.length) (grownCap w (l.length + l2.length) cap E)) (l ++ l2) :: F) :=
      hw.turn1 (Value.ownBlock v) (some w.heap.size) rfl rfl rfl rfl rfl (by simp) (Nat.le_succ _) (fun k hk _ => alloc_old w.drew _ k hk) ⟨l ++ l2, _, 0, hrow, Nat.zero_le _, rfl, .inl (viewV_zero size _).symm, by rw [List.length_append]; omega⟩ (fun b hb => .inr (by cases hb; exact Nat.le_refl _))
    have hk2 := k (some ⟨w.heap.size, 0, none⟩) (grownCap w (l.length + l2.length) cap E)
    rw [List.length_append] at hk2
    refine Oper.wp_of_run (w' := _) (v := .slice (some ⟨w.heap.size, 0, none⟩) (l.length + l2.length) (grownCap w (l.length + l2.length) cap E)) ?_ (hK _ _ _ _ _ hk2 hR (put_dst ha hd hn _))
    rw [ha.eval']
    simp [execOp, ho, resolve, invoke, builtin, hx, hy, hrun]
  subst hsi hib
  rcases que_cases hQ with ⟨L, g, q, c, cur, hk, rfl, rfl, hg, h3, h4, h5, h6, h7, h8, h9⟩ | ⟨rfl, b, rfl⟩
  · rw [List.length_drop] at *
    have holds : ∀ j u, ((L.drop q).flatMap enc)[j]? = some u → w.cell? ((⟨g, q * i.size, none⟩ : Addr).add j) = some u := fun j u hj => by
      rw [flat_drop hl, List.getElem?_drop, ← h6, List.getElem?_take] at hj
      split at hj
      · rw [loc_add]
        simp only [World.cell?, hg, Option.isSome_none, Bool.false_eq_true, if_false]
        rw [← Array.getElem?_toList]; exact hj
      · cases hj
    have hone : ∀ u ∈ (L.drop q).flatMap enc, u.oneCell' = true := fun u hu => h8 u (by rw [flat_drop hl] at hu; exact List.mem_of_mem_drop hu)
    by_cases hroom : L.length - q + l2.length ≤ c - q
    · have e1 : q * i.size + (L.length - q) * i.size = L.length * i.size := by rw [← Nat.add_mul]; congr 1; omega
      have hfit : q * i.size + (L.length - q) * i.size + (l2.flatMap enc).length ≤ cur.size := by
        rw [e1, hyl, h5, ← Nat.add_mul]; exact Nat.mul_le_mul_right _ (by omega)
      have hr := run_append_roomO (P := X.P) ty o.type E i ht hi g (q * i.size) (L.length - q) (c - q) cur hg ad l2.length c2 (l2.flatMap enc) hl2 hc2 h1 hroom hfit
      rw [e1] at hr
      have hrow : Row0 E i.size enc (.slice (some ⟨g, 0, none⟩) (L.length + l2.length) c) (L ++ l2) (w.setRow g (cur.toList.take (L.length * i.size) ++ l2.flatMap enc ++ cur.toList.drop (L.length * i.size + (l2.flatMap enc).length)).toArray) := by
        refine ⟨⟨by rw [flatMap_len hl], .inr ⟨g, c, _, by rw [List.length_append], Nat.zero_le _, setRow_heap w g cur _ E _ hg, by rw [List.length_append]; omega, h4, ?_, ?_⟩⟩, fun u hu => ?_⟩
        · simp only [List.size_toArray, List.length_append, List.length_take, List.length_drop, Array.length_toList]
          omega
        · rw [h6, List.flatMap_append, List.length_append, Nat.add_mul, ← h7, ← hyl, ← List.length_append]
          exact List.take_left
        · rw [List.flatMap_append] at hu
          rcases List.mem_append.1 hu with hu | hu
          · exact h8 u hu
          · exact h1 u hu
      have hR : Reach u0 C0 τ0 σ (w.setRow g (cur.toList.take (L.length * i.size) ++ l2.flatMap enc ++ cur.toList.drop (L.length * i.size + (l2.flatMap enc).length)).toArray) (Res.queS E i.size enc (.slice (some ⟨g, q * i.size, none⟩) (L.length - q + l2.length) (c - q)) (L.drop q ++ l2) :: F) :=
        hw.turn1 (some g) (some g) rfl rfl rfl rfl rfl (by simp) (Nat.le_refl _) (fun k hk hn => setRow_other w g k _ (fun e => hn (by rw [e]))) ⟨L ++ l2, _, q, hrow, by rw [List.length_append]; omega, by rw [List.drop_append_of_le_length (by omega)], .inl (by
          unfold viewV
          simp only [Option.map_some, loc_add, Nat.zero_add]
          congr 1; omega), by rw [List.length_append, List.length_drop]; omega⟩ (fun b hb => .inl hb)
      have hk2 := k (some ⟨g, q * i.size, none⟩) (c - q)
      rw [List.length_append, List.length_drop] at hk2
      refine Oper.wp_of_run (w' := _) (v := .slice (some ⟨g, q * i.size, none⟩) (L.length - q + l2.length) (c - q)) ?_ (hK _ _ _ _ _ hk2 hR (put_dst ha hd hn _))
      rw [ha.eval']
      simp [execOp, ho, resolve, invoke, builtin, hx, hy, hr]
    · have hr := run_append_grow (P := X.P) (w := w) ty o.type E i z ht hi hiz ⟨g, q * i.size, none⟩ (L.length - q) (c - q) ((L.drop q).flatMap enc) hfl holds ad l2.length c2 (l2.flatMap enc) hl2 hc2 (by omega) (by omega) (growslice_fits (by omega) hb0)
      exact fin _ (c - q) rfl hone (by omega) hr
  · simp only [List.length_nil, Nat.zero_add, List.flatMap_nil] at *
    cases b with
    | some b =>
      have hr := run_append_grow (P := X.P) (w := w) ty o.type E i z ht hi hiz b 0 0 [] (by simp) (by simp) ad l2.length c2 (l2.flatMap enc) hl2 hc2 (by omega) (by omega) (growslice_fits (by omega) (by simpa using hb0))
      simp only [Nat.zero_add] at hr
      exact fin _ 0 rfl (by simp) h2 hr
    | none =>
      have hr := run_append_nil (P := X.P) w ty o.type E i z ht hi hiz ad l2.length c2 (l2.flatMap enc) hl2 hc2 (by omega) (by omega) (by omega)
      exact fin _ 0 rfl (by simp) h2 (by simpa using hr)
end
end Go.E
end

section
namespace Go.E
open Go
section
variable {P : Program} {n : Nat} {e : Env} {σ : Store} {H : List Res} {o : Oper} {x y : Operand}
end
theorem strCells_bs (l : List UInt8) : Lib.strCells (bs l) = l.flatMap encU8 := by
  have h : ∀ l : List UInt8, l.map (fun b => Value.int IntKind.u8 ((b.toNat : Nat) : Int)) = l.flatMap encU8 := fun l => by
    induction l with
    | nil => rfl
    | cons x l ih => rw [List.map_cons, List.flatMap_cons, ih]; rfl
  simp [Lib.strCells, bs]
  exact h l
theorem appendS_blk {P : Program} {w w' : World} (base : Nat) (t u ty e : TypeId) (i : TypeInfo) (ht : P.underlying t = some (.slice e)) (hu : P.underlying u = some .string) (hi : P.info? e = some i) (hz : i.zero = some (.int .u8 0))
    (hsize : i.size = 1) (hby : i.bytes = 1) {v v' : Value} {n : Nat} {xs : List Value} (hown : w.ownsRow base e 1 v n xs) (s : ByteArray)
    (h63 : n + s.size ≤ maxLen) (hbytes : n + s.size ≤ 140737488355328) (hrun : (Builtin.append_ #[t, u] ty #[v, .string s]).run P w = .ok v' w') :
    (v'.ownBlock = v.ownBlock ∨ v'.ownBlock = some w.heap.size) ∧ w.drawn ≤ w'.drawn := by
  have hsmall : n + s.size ≤ 9223372036854775807 := by simp only [maxLen] at h63; omega
  have hxl : xs.length = n := by simpa using hown.1
  rcases hown.2 with ⟨rfl, rfl⟩ | ⟨g, cap, cur, rfl, hbg, hg, hnc, hcm, hcs, htake⟩
  · by_cases hm : s.size = 0
    · have hf := Lib.run_firstCells_string (P := P) (w := w) 1 s
      rw [hm] at hf
      have hr : (Builtin.append_ #[t, u] ty #[.slice none 0 0, .string s]).run P w = .ok (.slice none 0 0) w := by
        simp [Builtin.append_, run_underlying ht, run_underlying hu, sizeOf, typeInfo, hi, hsize, Builtin.lenOf, hm, hf]
      rw [hrun] at hr; cases hr; exact ⟨.inl rfl, Nat.le_refl _⟩
    · have hr := run_append_nil_string (P := P) w t u ty e i (.int .u8 0) ht hu hi hz s (by omega) (by omega) (by rw [hby]; omega)
      rw [hrun] at hr; cases hr; exact ⟨.inr rfl, Nat.le_succ _⟩
  · by_cases hroom : n + s.size ≤ cap
    · have hcs' : cur.size = cap := by simpa using hcs
      have hr := Lib.run_append_room_string (P := P) (w := w) t u ty e i ht hu hi hsize g n cap cur hg s hroom (by omega)
      rw [hrun] at hr; cases hr; exact ⟨.inl rfl, Nat.le_refl _⟩
    · have holds : ∀ j u, xs[j]? = some u → w.cell? ((⟨g, 0, none⟩ : Addr).add j) = some u := hown.cells (g := g) rfl
      have hr := Lib.run_append_grow_string (P := P) (w := w) t u ty e i (.int .u8 0) ht hu hi hz ⟨g, 0, none⟩ n cap xs (by rw [hsize]; simpa using hxl) holds s (by omega) (by omega) (by rw [hby]; exact growslice_fits (by omega) (by omega))
      rw [hrun] at hr; cases hr; exact ⟨.inr rfl, Nat.le_succ _⟩
theorem OpOk.appendStr {X : Ctx} {e : Env} {σ : Store} {F : List Res} {o : Oper} {x y : Operand} {K : Env → Store → List Res → Prop} {T ty E d : Nat} {v : Value} {l m : List UInt8}
    (ho : o.op = .call { callee := .builtin .append, args := #[x, y], argTypes := #[T, ty] }) (ht : X.P.underlying T = some (.slice E)) (hu : X.P.underlying ty = some .string) (hs : szOf X.P E = some 1) (hby : byOf X.P E = some 1) (hz : zeroOf X.P E = some (.int .u8 0))
    (hd : o.dst = some d) (hn : Nat.blt d X.n = true) (hx : ev e x = v) (hy : ev e y = .string (bs m)) (hb : l.length + m.length ≤ 140737488355328)
    (k : ∀ a c, K (upd e d (.slice a (l ++ m).length c)) σ (Res.rowS E 1 encU8 (.slice a (l ++ m).length c) (l ++ m) :: F)) : OpOk X o e σ (Res.rowS E 1 encU8 v l :: F) K := by
  obtain ⟨i, hi, hsi⟩ := szOf_info hs
  have hiz : i.zero = some (.int .u8 0) := by simpa [zeroOf, hi] using hz
  have hib : i.bytes = 1 := by simpa [byOf, hi] using hby
  intro u0 C0 τ0 w a hw ha K' Q hK
  obtain ⟨hown, hone, hbg⟩ := hw.holds _ (List.mem_cons_self ..)
  have hsz : (bs m).size = m.length := by show (bs m).data.size = _; simp [bs]
  have h1 : l.length + (bs m).size ≤ maxLen := by rw [hsz]; unfold maxLen; omega
  have h2 : l.length + (bs m).size ≤ 140737488355328 := by rw [hsz]; exact hb
  obtain ⟨v', w', hr, hown', hg, _⟩ := Lib.run_append_own_string (P := X.P) (w := w) 0 T ty o.type E i ht hu hi hiz hsi hib v l.length _ hown (bs m) h1 h2 (Nat.zero_le _)
  obtain ⟨hblk, hdr⟩ := appendS_blk 0 T ty o.type E i ht hu hi hiz hsi hib hown (bs m) h1 h2 hr
  rw [hsz, strCells_bs, ← List.flatMap_append, ← List.length_append] at hown'
  have hbk : ∀ b, v'.ownBlock = some b → v.ownBlock = some b ∨ w.heap.size ≤ b := fun b hb => by
    rcases hblk with h | h
    · exact .inl (h ▸ hb)
    · rw [h] at hb; cases hb; exact .inr (Nat.le_refl _)
  have hR : Reach u0 C0 τ0 σ w' (Res.rowS E 1 encU8 v' (l ++ m) :: F) :=
    hw.turn1 (Value.ownBlock v) (Value.ownBlock v') rfl rfl hg.os hg.tape hg.output hg.size hdr (fun q hq hne => hg.block q hq (fun hx => hne hx.symm)) ⟨hown', fun q hq => by
      obtain ⟨z, _, hz⟩ := List.mem_flatMap.1 hq
      exact encU8_one z q hz, by rw [List.length_append]; omega⟩ hbk
  obtain ⟨av, cv, rfl, _, _⟩ := isSl_row hown'
  refine Oper.wp_of_run (w' := w') (v := .slice av (l ++ m).length cv) ?_ (hK _ _ _ _ _ (k av cv) hR (put_dst ha hd hn _))
  rw [ha.eval']
  simp [execOp, ho, resolve, invoke, builtin, hx, hy, hr]
def Res.any (o : Option Nat) : Res where
  bl := o.toList
  holds w := ∀ b, o = some b → b < w.heap.size
  lt w b hb h := h b (by simpa using hb)
  keep w w' hb h := fun b e => by
    have h1 := h b e
    have h2 := hb b (by rw [e]; simp)
    rw [Array.getElem?_eq_getElem h1] at h2
    exact (Array.getElem?_eq_some_iff.1 h2).1
end Go.E
end
