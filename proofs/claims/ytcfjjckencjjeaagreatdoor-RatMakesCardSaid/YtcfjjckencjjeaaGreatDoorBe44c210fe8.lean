/- Parts of a proof, one behind the other: what a machine reaches, functions decompiled, plain lemmas. Conditions stand with each lemma. -/
import Derived.Test.YtcfjjckencjjeaaGreatDoorBd46949d010
import Derived.Test.YtcfjjckencjjeaaGreatDoorBfcee5c748a
import Derived.Test.YtcfjjckencjjeaaGreatDoorBefafb98522

/- F3 -/
section
/- Decompiled: things in order, each once; what goes in; what comes out. -/
set_option linter.unusedVariables false
set_option linter.unusedSimpArgs false
namespace Go.Proofs.YtcfjjckencjjeaaGreatDoor
open Go Go.E Go.E.OpVal Go.E.OpOk Go.Proofs.Tryz
set_option maxRecDepth 100000
private theorem ag28 : Go.E.aggOf Tryz.prog 28 = some false := by kernel_rfl
private theorem ag29 : Go.E.aggOf Tryz.prog 29 = some false := by kernel_rfl
private theorem ag31 : Go.E.aggOf Tryz.prog 31 = some true := by kernel_rfl
private theorem ag41 : Go.E.aggOf Tryz.prog 41 = some false := by kernel_rfl
private theorem ag60 : Go.E.aggOf Tryz.prog 60 = some true := by kernel_rfl
private theorem ag62 : Go.E.aggOf Tryz.prog 62 = some true := by kernel_rfl
private theorem ag9 : Go.E.aggOf Tryz.prog 9 = some false := by kernel_rfl
private theorem by29 : Go.E.byOf Tryz.prog 29 = some 24 := by kernel_rfl
private theorem by41 : Go.E.byOf Tryz.prog 41 = some 24 := by kernel_rfl
private theorem by60 : Go.E.byOf Tryz.prog 60 = some 72 := by kernel_rfl
private theorem by9 : Go.E.byOf Tryz.prog 9 = some 16 := by kernel_rfl
private theorem fo31_0 : Go.E.foOf Tryz.prog 31 0 = some 0 := by kernel_rfl
private theorem fo31_1 : Go.E.foOf Tryz.prog 31 1 = some 1 := by kernel_rfl
private theorem fo31_2 : Go.E.foOf Tryz.prog 31 2 = some 2 := by kernel_rfl
private theorem fo31_3 : Go.E.foOf Tryz.prog 31 3 = some 3 := by kernel_rfl
private theorem fo60_0 : Go.E.foOf Tryz.prog 60 0 = some 0 := by kernel_rfl
private theorem fo62_0 : Go.E.foOf Tryz.prog 62 0 = some 0 := by kernel_rfl
private theorem fo62_1 : Go.E.foOf Tryz.prog 62 1 = some 1 := by kernel_rfl
private theorem fo99_0 : Go.E.foOf Tryz.prog 99 0 = some 0 := by kernel_rfl
private theorem fo99_1 : Go.E.foOf Tryz.prog 99 1 = some 1 := by kernel_rfl
private theorem es99 (x y : FPair) : Go.E.EqAt Tryz.prog 2 99 (.agg (Go.E.encFPair x).toArray) (.agg (Go.E.encFPair y).toArray) (decide (x = y)) :=
 (EqAt.struct (ts := [(false, 3, 0), (false, 9, 1)]) (by kernel_rfl) (by kernel_rfl) (by kernel_rfl) (EqC.one (by kernel_rfl) rfl rfl (EqAt.int underlying3 x.state y.state) (EqC.one (by kernel_rfl) rfl rfl (EqAt.str underlying9 x.out y.out) EqC.nil))).of (by rw [Bool.eq_iff_iff]; cases x; cases y; simp)
private theorem kl99 : Go.E.KeyL Tryz.prog 99 (fun x => Value.agg (Go.E.encFPair x).toArray) :=
 KeyL.struct underlying99 es99 rfl (fun x => CkAt.struct (n := 1) (ts := [(false, 3, 0), (false, 9, 1)]) (by kernel_rfl) (by kernel_rfl) (CkC.one (by kernel_rfl) rfl (CkAt.int underlying3 _) (CkC.one (by kernel_rfl) rfl (CkAt.str underlying9 _) CkC.nil))) rfl encFPair_bits
private theorem pf28 : Go.E.plainF Tryz.prog 28 = true := by kernel_rfl
private theorem pf49 : Go.E.plainF Tryz.prog 49 = true := by kernel_rfl
private theorem pf50 : Go.E.plainF Tryz.prog 50 = true := by kernel_rfl
private theorem pf71 : Go.E.plainF Tryz.prog 71 = true := by kernel_rfl
private theorem pf72 : Go.E.plainF Tryz.prog 72 = true := by kernel_rfl
private theorem pf73 : Go.E.plainF Tryz.prog 73 = true := by kernel_rfl
private theorem pl97 : Go.E.plOf Tryz.prog 97 = some #[] := by kernel_rfl
private theorem pl99 : Go.E.plOf Tryz.prog 99 = some #[(0, 1), (1, 1)] := by kernel_rfl
private theorem sz29 : Go.E.szOf Tryz.prog 29 = some 1 := by kernel_rfl
private theorem sz31 : Go.E.szOf Tryz.prog 31 = some 4 := by kernel_rfl
private theorem sz41 : Go.E.szOf Tryz.prog 41 = some 1 := by kernel_rfl
private theorem sz60 : Go.E.szOf Tryz.prog 60 = some 8 := by kernel_rfl
private theorem sz62 : Go.E.szOf Tryz.prog 62 = some 2 := by kernel_rfl
private theorem sz9 : Go.E.szOf Tryz.prog 9 = some 1 := by kernel_rfl
private theorem sz99 : Go.E.szOf Tryz.prog 99 = some 2 := by kernel_rfl
private theorem ze29 : Go.E.zeroOf Tryz.prog 29 = some (.slice none 0 0) := by kernel_rfl
private theorem ze41 : Go.E.zeroOf Tryz.prog 41 = some (.slice none 0 0) := by kernel_rfl
private theorem ze60 : Go.E.zeroOf Tryz.prog 60 = some (.agg #[.int .i64 0, .int .i64 0, .int .u64 0, .int .u64 0, .int .u64 0, .int .u64 0, .string ByteArray.empty, .bool false]) := by kernel_rfl
private theorem ze62 : Go.E.zeroOf Tryz.prog 62 = some (.agg #[.int .i64 0, .string ByteArray.empty]) := by kernel_rfl
private theorem ze9 : Go.E.zeroOf Tryz.prog 9 = some (.string ByteArray.empty) := by kernel_rfl
private theorem ze97 : Go.E.zeroOf Tryz.prog 97 = some (.agg #[]) := by kernel_rfl
private theorem ze99 : Go.E.zeroOf Tryz.prog 99 = some (.agg #[.int .i64 0, .string ByteArray.empty]) := by kernel_rfl

theorem cloneS_con {σ : Store} {a : Option Addr} {c : Nat} {l : List (List UInt8)} (hl : RS σ 1 Go.E.encS (.slice a l.length c) l) (hsz : l.length * 16 ≤ 140737488355328) :
  Con Tryz.prog 71 #[.slice a l.length c] σ [] (RowP 9 1 Go.E.encS l σ) := by
 have hb := hl.rv.big
 refine Con.mk (n := 8) Tryz.func71 z z z (fun w0 => ?_)
 refine TC.a (TL.s z z (TL.nilS 9 1 Go.E.encS (TL.en (TC.seq (TC.a (TL.s z z (TL.w z (eqlNilSl z underlying41 z z) (TL.en (TC.cond z (fun h2 => ?_) (fun h2 => ?_))))))))))
 ·refine TC.a (TL.s z z (TL.nilS 9 1 Go.E.encS (TL.en (TC.ret (S.r ?_)))))
  cases a with
  | some _ => simp at h2
  | none =>
   obtain rfl := hl.none_nil
   exact ret1R z z
 ·refine TC.skip (S.n (TC.a (TL.op z (lit0 (enc := Go.E.encS) z z underlying41 sz9 z z (fun a4 c5 => ?_)))))
  refine TL.s z z (TL.op z (appendS z z underlying41 sz9 by9 ze9 z z (by decide) z z z (.inl hl) (by simpa using hsz) (by decide) (fun a7 c8 => ?_)))
  exact TL.s z z (TL.en (TC.ret (ret1R z z)))

noncomputable def compactS_j1 (k125 : Nat) (l128 : List (List UInt8)) (k130 : Nat) : Option (((List (List UInt8)) × Nat × Nat) ⊕ ((Nat) ⊕ ((List (List UInt8))))) :=
 nxt (l128, k130, (k125 + 1))
noncomputable def compactS_b2 (x0 : List (List UInt8)) (k105 : Nat) (l122 : List (List UInt8)) (k124 : Nat) (k125 : Nat) : Option (((List (List UInt8)) × Nat × Nat) ⊕ ((Nat) ⊕ ((List (List UInt8))))) :=
 iteO (decide (((k125 : Nat) : Int) < (((x0.length - k105) : Nat) : Int))) (grd (k125 < (x0.length - k105)) (grd (0 ≤ (IntKind.i64.wrap (((k125 : Nat) : Int) - 1)) ∧ (IntKind.i64.wrap (((k125 : Nat) : Int) - 1)) < ((x0.length - k105) : Nat)) (iteO (decide ((nth l122 (k105 + k125) ([] : List UInt8)) ≠ (nth l122 (k105 + (IntKind.i64.wrap (((k125 : Nat) : Int) - 1)).toNat) ([] : List UInt8)))) (grd (k125 < (x0.length - k105)) (grd (k124 < l122.length) (compactS_j1 k125 (l122.set k124 (nth l122 (k105 + k125) ([] : List UInt8))) (k124 + 1)))) (compactS_j1 k125 l122 k124)))) (fin (grd (k124 ≤ x0.length) (grd (k124 ≤ (l122.take k124 ++ List.replicate (l122.length - k124) ([] : List UInt8)).length) (fin (some ((l122.take k124 ++ List.replicate (l122.length - k124) ([] : List UInt8)).take k124))))))
noncomputable def compactS_b1 (x0 : List (List UInt8)) (k105 : Nat) : Option ((Nat) ⊕ ((List (List UInt8)))) :=
 iteO (decide (((k105 : Nat) : Int) < ((x0.length : Nat) : Int))) (grd (0 ≤ (IntKind.i64.wrap (((k105 : Nat) : Int) - 1)) ∧ (IntKind.i64.wrap (((k105 : Nat) : Int) - 1)) < (x0.length : Int)) (iteO (decide ((nth x0 k105 ([] : List UInt8)) = (nth x0 ((IntKind.i64.wrap (((k105 : Nat) : Int) - 1)).toNat) ([] : List UInt8)))) (grd (k105 ≤ x0.length) (iter (fun q : (List (List UInt8)) × Nat × Nat => compactS_b2 x0 k105 q.1 q.2.1 q.2.2) (x0, k105, 1))) (nxt (k105 + 1)))) (fin (some x0))
noncomputable def compactS (x0 : List (List UInt8)) : Option ((List (List UInt8))) :=
 iteO (decide (((x0.length : Nat) : Int) < 2)) (some x0) (iter (fun q : Nat => compactS_b1 x0 q) 1)
theorem compactS_con {σ : Store} {x0 : List (List UInt8)} {a0_1 : Option Addr} {c0_2 : Nat}  {r : (List (List UInt8))} (hh : compactS x0 = some r) :
  Con Tryz.prog 73 #[.slice a0_1 x0.length c0_2] σ [Res.rowS 9 1 Go.E.encS (.slice a0_1 x0.length c0_2) x0] (fun v σ' H' => ∃ (a1 : Option Addr), ∃ (c1 : Nat), v = .slice a1 r.length c1 ∧ σ = σ' ∧ H' = [Res.rowS 9 1 Go.E.encS (.slice a1 r.length c1) r]) := by
 dsimp only [compactS] at hh
 refine Con.mk (n := 61) Tryz.func73 z z z (fun w0 => ?_)
 refine TC.a (TL.s z z (TL.en (TC.seq (TC.a (TL.s z z (TL.w z (lenC z underlying41 z) (TL.w z (OpVal.lss z z z) (TL.en (TC.cD z hh (fun h102 hh => ?_) (fun h102 hh => ?_))))))))))
 ·refine TC.a (TL.s z z (TL.s z z (TL.en (TC.ret (S.r ?_)))))
  obtain rfl := so hh
  exact ro [Res.rowS 9 1 Go.E.encS (.slice a0_1 x0.length c0_2) x0] z (RVs.tmp z RVs.nil) ⟨a0_1, c0_2, z, z, z⟩
 ·refine TC.skip (S.n (TC.seq (TC.a (TL.i z z (TL.en (TC.block (TC.loopG (α := (Nat) × (Unit)) (rgs [(2, 4), (10, 50)]) (fun g => [(3, .int .i64 ((g.1 : Nat) : Int))]) (fun g => [Res.rowS 9 1 Go.E.encS (.slice a0_1 x0.length c0_2) x0]) (fun g => σ) (fun g => iter (fun q : Nat => compactS_b1 x0 q) g.1 = some r) (fun g => rounds (fun q : Nat => compactS_b1 x0 q) g.1) (1, ()) (Sub.pre 1 z) z (by repeat (first | exact trivial | refine ⟨z, ?_⟩)) hh (fun g1 j1 hg1 => ?_))))))))
  obtain ⟨k105, _⟩ := g1
  have hh := hg1; clear hg1
  try dsimp only
  obtain ⟨z1, hh, hR1⟩ := iter_e hh
  dsimp only [compactS_b1] at hh
  refine TC.isSl (i := 0) z (fun _ hb106 _ => ?_)
  refine TC.seq (TC.a (TL.i z z (TL.s z z (TL.w z (lenC z underlying41 z) (TL.w z (OpVal.lss z z z) (TL.en (TC.cD z hh (fun h107 hh => ?_) (fun h107 hh => ?_))))))))
  ·refine TC.skip (S.n (TC.seq (TC.block (TC.seq ?_))))
   have u19 := grd_c hh
   replace hh := grd_t hh
   refine TC.draw [] (by kernel_rfl) (TA.a 0 z (moveSl (.inl z) z) z (TA.a 1 z (moveI (.inl z) z) z (TA.isSl (i := 0) z (fun hs110 _ _ => ?_))))
   refine TA.b 2 z (indexN z underlying41 sz9 z z hs110 (by omega)) z (TA.b 3 z (loadO1 ([] : List UInt8) z ag9 z (q := 0) z Go.E.encS_len (by omega) z) z (TA.a 4 z (moveSl (.inl z) z) z (TA.a 5 z (moveI (.inl z) z) z (TA.a 6 z (subW z z z) z (TA.isSl (i := 0) z (fun hs111 _ _ => ?_))))))
   refine TA.b 7 z (OpVal.index z underlying41 sz9 z z hs111 u19.1 u19.2) z (TA.b 8 z (loadO1 ([] : List UInt8) z ag9 z (q := 0) z Go.E.encS_len (by omega) z) z (TA.a 9 z (eqlBs z z z) z (TA.dn (S.n (TC.cD z hh (fun h112 hh => ?_) (fun h112 hh => ?_))))))
   ·refine TC.a (TL.s z z (TL.i z z ?_))
    have u24 := grd_c hh
    replace hh := grd_t hh
    refine TL.isSl (i := 0) z (fun hs113 _ _ => ?_)
    obtain ⟨a113, c113, hv113, ho113⟩ := vw_of (k := k105) (size := 1) hs113 (by omega)
    refine TL.w z (ho113 z underlying41 sz9 z z) (TL.s z z (TL.en (TC.seq (TC.a (TL.i z z (TL.en (TC.block (TC.loopG (α := ((List (List UInt8)) × Nat × Nat) × (Unit)) (rgs [(3, 1), (5, 1), (29, 25)]) (fun g => [(3, .int .i64 ((g.1.2.1 : Nat) : Int)), (5, .int .i64 ((g.1.2.2 : Nat) : Int))]) (fun g => [Res.rowS 9 1 Go.E.encS (.slice a0_1 x0.length c0_2) g.1.1]) (fun g => σ) (fun g => iter (fun q : (List (List UInt8)) × Nat × Nat => compactS_b2 x0 k105 q.1 q.2.1 q.2.2) g.1 = some z1 ∧ g.1.1.length = x0.length) (fun g => rounds (fun q : (List (List UInt8)) × Nat × Nat => compactS_b2 x0 k105 q.1 q.2.1 q.2.2) g.1) ((x0, k105, 1), ()) (Sub.pre 1 z) z (by repeat (first | exact trivial | refine ⟨z, ?_⟩)) ⟨hh, z⟩ (fun g2 j2 hg2 => ?_)))))))))
    obtain ⟨⟨l122, k124, k125⟩, _⟩ := g2
    obtain ⟨hh, hn123⟩ := hg2
    try dsimp only at hn123 ⊢
    obtain ⟨z2, hh, hR2⟩ := iter_e hh
    dsimp only [compactS_b2] at hh
    have hn123b := hn123
    refine TC.isSl (i := 0) z (fun _ hb126 _ => ?_)
    refine TC.seq (TC.a (TL.i z z (TL.s z z (TL.w z (lenC z underlying41 z) (TL.w z (OpVal.lss z z z) (TL.en (TC.cD z hh (fun h127 hh => ?_) (fun h127 hh => ?_))))))))
    ·refine TC.skip (S.n (TC.cutG (α := ((List (List UInt8)) × Nat) × (Unit)) (rgs [(3, 1), (35, 19)]) (fun g => [(3, .int .i64 ((g.1.2 : Nat) : Int))]) (fun g => [Res.rowS 9 1 Go.E.encS (.slice a0_1 x0.length c0_2) g.1.1]) (fun g => σ) (fun g => compactS_j1 k125 g.1.1 g.1.2 = some z2 ∧ g.1.1.length = x0.length) ?_ (fun g j hg => ?_)))
     ·skip
      refine TC.block (TC.seq ?_)
      have u33 := grd_c hh
      replace hh := grd_t hh
      have u38 := grd_c hh
      replace hh := grd_t hh
      refine TC.draw [] (by kernel_rfl) (TA.a 0 z (moveSl (.inl z) z) z (TA.a 1 z (moveI (.inl z) z) z (TA.b 2 z (elVw hv113 (by omega) (indexN z underlying41 sz9 z z hv113.sl (by omega))) z (TA.b 3 z (loadO1 ([] : List UInt8) z ag9 z (q := 0) z Go.E.encS_len (by omega) z) z (TA.a 4 z (moveSl (.inl z) z) z (TA.a 5 z (moveI (.inl z) z) z (TA.a 6 z (subW z z z) z (TA.b 7 z (elVw hv113 (by omega) (OpVal.index z underlying41 sz9 z z hv113.sl u38.1 u38.2)) z (TA.b 8 z (loadO1 ([] : List UInt8) z ag9 z (q := 0) z Go.E.encS_len (by omega) z) z (TA.a 9 z (neqBs z z z) z (TA.dn (S.n (TC.cD z hh (fun h131 hh => ?_) (fun h131 hh => ?_))))))))))))))
      ·refine TC.a (TL.s z z (TL.i z z (TL.s z z (TL.i z z ?_))))
       have u45 := grd_c hh
       replace hh := grd_t hh
       refine TL.w z (elVw hv113 (by omega) (indexN z underlying41 sz9 z z hv113.sl (by omega))) (TL.w z (loadO1 ([] : List UInt8) z ag9 z (q := 0) z Go.E.encS_len (by omega) z) ?_)
       have u47 := grd_c hh
       replace hh := grd_t hh
       refine TL.isSl (i := 0) z (fun hs132 _ _ => ?_)
       refine TL.w z (indexN z underlying41 sz9 z z hs132 (by omega)) ?_
       have hn133 : (l122.set k124 (nth l122 (k105 + k125) ([] : List UInt8))).length = x0.length := by rw [List.length_set]; exact hn123
       refine TL.op z (storeS (nth l122 (k105 + k125) ([] : List UInt8)) z sz9 z z z z Go.E.encS_len Go.E.encS_one (by omega) (by omega) ?_)
       exact TL.en (TC.region (TL.i z z (TL.w z (OpVal.succ z z z (by omega)) (TL.i z z (TL.nil (B.n (S.n (cf (((l122.set k124 (nth l122 (k105 + k125) ([] : List UInt8))), (k124 + 1)), ()) ⟨hh, hn133⟩ (Sub.pre 1 z)))))))))
      ·exact TC.skip (B.n (S.n (cf ((l122, k124), ()) ⟨hh, hn123⟩ (Sub.pre 1 z))))
     ·skip
      obtain ⟨⟨l128, k130⟩, _⟩ := g
      obtain ⟨hh, hn129⟩ := hg
      try dsimp only at hn129 ⊢
      dsimp only [compactS_j1] at hh
      have hn129b := hn129
      refine TC.isSl (i := 0) z (fun _ hb134 _ => ?_)
      refine TC.region (TL.i z z (TL.w z (OpVal.succ z z z (by omega)) (TL.i z z (TL.en ?_))))
      obtain ⟨hh, hlt135⟩ := nxt_x hR2 hh
      exact lf ((l128, k130, (k125 + 1)), ()) hlt135 ⟨hh, hn129⟩ (Sub.pre 1 z)
    ·refine TC.exit (S.x (S.x ?_))
     replace hh := fin_x hR2 hh
     refine TC.exitHere (S.n (TC.a (TL.s z z (TL.i z z ?_))))
     have u57 := grd_c hh
     replace hh := grd_t hh
     refine TL.isSl (i := 0) z (fun hs136 _ _ => ?_)
     rw [hn123] at hs136
     obtain ⟨a136, c136, hv136, ho136⟩ := vw_of (k := k124) (size := 1) hs136 (by omega)
     refine TL.w z (ho136 z underlying41 sz9 z z) ?_
     have hn137 : (l122.take k124 ++ List.replicate (l122.length - k124) ([] : List UInt8)).length = x0.length := by simp only [List.length_append, List.length_take, List.length_replicate]; try simp only [List.length_replicate] at *; omega
     refine TL.op z (clearV (k := k124) ([] : List UInt8) z underlying41 ze9 z z hv136 (by omega) (by omega) Go.E.encS_len (by decide) z Go.E.encS_one ?_)
     refine TL.en (TC.a (TL.s z z (TL.i z z ?_)))
     rw [← hn137]
     have u61 := grd_c hh
     replace hh := grd_t hh
     refine TL.op z (cutS z underlying41 sz9 z z z z z (by omega) Go.E.encS_len ?_)
     refine TL.s z z (TL.en (TC.ret (B.r (S.r (S.r ?_)))))
     replace hh := fin_x hR1 hh
     refine B.r (S.r ?_)
     obtain rfl := so hh
     exact ro [Res.rowS 9 1 Go.E.encS (.slice a0_1 ((l122.take k124 ++ List.replicate (l122.length - k124) ([] : List UInt8)).take k124).length c0_2) ((l122.take k124 ++ List.replicate (l122.length - k124) ([] : List UInt8)).take k124)] z (RVs.tmp z RVs.nil) ⟨a0_1, c0_2, z, z, z⟩
   ·refine TC.skip (B.n (S.n (TC.region (TL.i z z (TL.w z (OpVal.succ z z z (by omega)) (TL.i z z (TL.en ?_)))))))
    obtain ⟨hh, hlt138⟩ := nxt_x hR1 hh
    exact lf ((k105 + 1), ()) hlt138 hh (Sub.pre 1 z)
  ·refine TC.exit (S.x (S.x ?_))
   replace hh := fin_x hR1 hh
   refine TC.exitHere (S.n (TC.a (TL.s z z (TL.s z z (TL.en (TC.ret ?_))))))
   obtain rfl := so hh
   exact ro [Res.rowS 9 1 Go.E.encS (.slice a0_1 x0.length c0_2) x0] z (RVs.tmp z RVs.nil) ⟨a0_1, c0_2, z, z, z⟩

noncomputable def onceS (x0 : List (List UInt8)) : Option ((List (List UInt8))) :=
 grd (x0.length * 16 ≤ 140737488355328) (bnd (compactS (sortL Lib.compareBytes x0)) (fun v9 => some v9))
def onceS_P (σ : Store) (r : (List (List UInt8))) : Value → Store → List Res → Prop := fun v σ' H' =>
 ∃ (a1 : Option Addr), ∃ (c1 : Nat),  v = .slice a1 r.length c1 ∧ σ = σ' ∧ H' = [Res.rowS 9 1 Go.E.encS (.slice a1 r.length c1) r]
theorem onceS_con {σ : Store} {x0 : List (List UInt8)} {a0_0 : Option Addr} {c0_0 : Nat} (f0_0 : RS σ 1 Go.E.encS (.slice a0_0 x0.length c0_0) x0) {r : (List (List UInt8))} (hh : onceS x0 = some r) :
  Con Tryz.prog 50 #[.slice a0_0 x0.length c0_0, .func (.func 51) #[] #[]] σ [] (onceS_P σ r) := by
 dsimp only [onceS] at hh
 have f0_0b := f0_0.rv.big
 refine Con.mk (n := 13) Tryz.func50 z z z (fun w0 => ?_)
 refine TC.a (TL.s z z (TL.en (TC.a (TL.s z z ?_))))
 have u3 := grd_c hh
 replace hh := grd_t hh
 refine TL.op z (OpOk.call (cloneS_con f0_0 u3) z z pf71 z z z z ?_)
 rintro _ _ _ _ ⟨⟨a101, c102, rfl⟩, rfl, rfl⟩
 refine TL.s z z (TL.en (TC.a (TL.s z z (TL.w z (moveFn (.inl z) z) ?_))))
 have hn104 : (sortL Lib.compareBytes x0).length = x0.length := List.length_mergeSort _
 refine TL.op z (OpOk.call (sortS_con (l := x0)) z z pf72 z z z z ?_)
 rintro _ _ _ _ ⟨rfl, rfl, rfl⟩
 refine TL.en (TC.a (TL.s z z ?_))
 rw [← hn104]
 obtain ⟨v9, u9, hh⟩ := bnd_e hh
 refine TL.op z (OpOk.call (compactS_con u9) z z pf73 z z z z ?_)
 rintro _ _ _ hle105 ⟨a105_1, c105_2, rfl, rfl, rfl⟩
 refine TL.s z z (TL.en (TC.ret ?_))
 obtain rfl := so hh
 exact ro [Res.rowS 9 1 Go.E.encS (.slice a105_1 v9.length c105_2) v9] z (RVs.tmp z RVs.nil) ⟨a105_1, c105_2, z, z, z⟩

noncomputable def fst_Outs_j1 (l120 : List (List Arc)) (x0 : Fst) (k124 : Nat) : Option (((List (List Arc)) × Nat) ⊕ ((List (List UInt8)) × Int)) :=
 nxt ((l120.set (((nth x0.arcs k124 Arc.zero).frm).toNat) ((nth l120 (((nth x0.arcs k124 Arc.zero).frm).toNat) ([] : List Arc)) ++ [(nth x0.arcs k124 Arc.zero)])), (k124 + 1))
noncomputable def fst_Outs_j2 (l229 : List (List (List UInt8))) (x0 : Fst) (k233 : Nat) : Option (((List (List (List UInt8))) × Nat) ⊕ ((List (List UInt8)) × Int)) :=
 nxt ((l229.set (((nth x0.ends k233 Tip.zero).state).toNat) ((nth l229 (((nth x0.ends k233 Tip.zero).state).toNat) ([] : List (List UInt8))) ++ [(nth x0.ends k233 Tip.zero).out])), (k233 + 1))
noncomputable def fst_Outs_b6 (l229 : List (List (List UInt8))) (v120c : FPair × Unit) (l338 : List (List UInt8)) (k341 : Nat) : Option (((List (List UInt8)) × Nat) ⊕ (((List (List UInt8))) ⊕ ((List (List UInt8)) × Int))) :=
 iteO (decide (((k341 : Nat) : Int) < (((nth l229 v120c.1.state.toNat ([] : List (List UInt8))).length : Nat) : Int))) (grd (v120c.1.out.length + (nth (nth l229 v120c.1.state.toNat ([] : List (List UInt8))) k341 ([] : List UInt8)).length ≤ 9223372036854775807) (grd ((l338.length + [(v120c.1.out ++ (nth (nth l229 v120c.1.state.toNat ([] : List (List UInt8))) k341 ([] : List UInt8)))].length) * 16 ≤ 140737488355328) (nxt ((l338 ++ [(v120c.1.out ++ (nth (nth l229 v120c.1.state.toNat ([] : List (List UInt8))) k341 ([] : List UInt8)))]), (k341 + 1))))) (fin (nxt l338))
noncomputable def fst_Outs_b5 (l229 : List (List (List UInt8))) (l299 : List (List UInt8)) (oE : Option (FPair × Unit)) : Option (((List (List UInt8))) ⊕ ((List (List UInt8)) × Int)) :=
 optE oE (fin (bnd (onceS l299) (fun v148 => some (v148, 0)))) (fun v120c => grd (0 ≤ v120c.1.state ∧ v120c.1.state < (l229.length : Int)) (iter (fun q : (List (List UInt8)) × Nat => fst_Outs_b6 l229 v120c q.1 q.2) (l299, 0)))
noncomputable def fst_Outs_b4 (x0 : Fst) (m201 : FM FPair Unit) (l229 : List (List (List UInt8))) (k233 : Nat) : Option (((List (List (List UInt8))) × Nat) ⊕ ((List (List UInt8)) × Int)) :=
 iteO (decide (((k233 : Nat) : Int) < ((x0.ends.length : Nat) : Int))) (grd (0 ≤ ((nth x0.ends k233 Tip.zero).state) ∧ ((nth x0.ends k233 Tip.zero).state) < (l229.length : Int)) (grd (((nth l229 (((nth x0.ends k233 Tip.zero).state).toNat) ([] : List (List UInt8))).length + [(nth x0.ends k233 Tip.zero).out].length) * 16 ≤ 140737488355328) (grd (0 ≤ ((nth x0.ends k233 Tip.zero).state) ∧ ((nth x0.ends k233 Tip.zero).state) < (l229.length : Int)) (fst_Outs_j2 l229 x0 k233)))) (fin (allP (fun q => Rep q m201) (fun q => runL (fun (q : (List (List UInt8))) (oE : Option (FPair × Unit)) => fst_Outs_b5 l229 q oE) q ([] : List (List UInt8)))))
noncomputable def fst_Outs_b3 (x1 : List UInt8) (l120 : List (List Arc)) (x0 : Fst) (m201 : FM FPair Unit) (k203 : Nat) : Option (((FM FPair Unit) × Nat) ⊕ ((List (List UInt8)) × Int)) :=
 iteO (decide (((k203 : Nat) : Int) < ((x1.length : Nat) : Int))) (bnd (fst_step l120 m201 (nth x1 k203 (0 : UInt8))) (fun v74 => iteO (!v74.2) (fin (some (([] : List (List UInt8)), 2))) (nxt (v74.1, (k203 + 1))))) (fin (grd (0 ≤ x0.states ∧ 24 * x0.states.toNat ≤ 281474976710656) (iter (fun q : (List (List (List UInt8))) × Nat => fst_Outs_b4 x0 m201 q.1 q.2) ((List.replicate x0.states.toNat ([] : List (List UInt8))), 0))))
noncomputable def fst_Outs_b2 (x0 : Fst) (x1 : List UInt8) (l120 : List (List Arc)) (m180 : FM FPair Unit) (k181 : Nat) : Option (((FM FPair Unit) × Nat) ⊕ ((List (List UInt8)) × Int)) :=
 iteO (decide (((k181 : Nat) : Int) < ((x0.starts.length : Nat) : Int))) (nxt ((m180.put (⟨(nth x0.starts k181 Tip.zero).state, (nth x0.starts k181 Tip.zero).out⟩ : FPair) ()), (k181 + 1))) (fin (iter (fun q : (FM FPair Unit) × Nat => fst_Outs_b3 x1 l120 x0 q.1 q.2) (m180, 0)))
noncomputable def fst_Outs_b1 (x0 : Fst) (x1 : List UInt8) (l120 : List (List Arc)) (k124 : Nat) : Option (((List (List Arc)) × Nat) ⊕ ((List (List UInt8)) × Int)) :=
 iteO (decide (((k124 : Nat) : Int) < ((x0.arcs.length : Nat) : Int))) (grd (0 ≤ ((nth x0.arcs k124 Arc.zero).frm) ∧ ((nth x0.arcs k124 Arc.zero).frm) < (l120.length : Int)) (grd (((nth l120 (((nth x0.arcs k124 Arc.zero).frm).toNat) ([] : List Arc)).length + [(nth x0.arcs k124 Arc.zero)].length) * 72 ≤ 140737488355328) (grd (0 ≤ ((nth x0.arcs k124 Arc.zero).frm) ∧ ((nth x0.arcs k124 Arc.zero).frm) < (l120.length : Int)) (fst_Outs_j1 l120 x0 k124)))) (fin (iter (fun q : (FM FPair Unit) × Nat => fst_Outs_b2 x0 x1 l120 q.1 q.2) ((FM.emp : FM FPair Unit), 0)))
noncomputable def fst_Outs (x0 : Fst) (x1 : List UInt8) : Option ((List (List UInt8)) × Int) :=
 grd (x1.length ≤ 281474976710656) (bnd (fst_Check x0) (fun v5 => iteO (decide (v5 ≠ 0)) (some (([] : List (List UInt8)), 1)) (iteO (decide (256 < ((x1.length : Nat) : Int))) (some (([] : List (List UInt8)), 2)) (grd (0 ≤ x0.states ∧ 24 * x0.states.toNat ≤ 281474976710656) (iter (fun q : (List (List Arc)) × Nat => fst_Outs_b1 x0 x1 q.1 q.2) ((List.replicate x0.states.toNat ([] : List Arc)), 0))))))
def fst_Outs_P (σ : Store) (r : (List (List UInt8)) × Int) : Value → Store → List Res → Prop := fun v σ' H' =>
 ∃ (a1 : Option Addr), ∃ (c1 : Nat),  v = .tuple #[.slice a1 r.1.length c1, .int .i64 r.2] ∧ RS σ' 1 Go.E.encS (.slice a1 r.1.length c1) r.1 ∧ H' = []
theorem fst_Outs_con {σ : Store} {x0 : Fst} {a0_0 : Option Addr} {c0_0 : Nat} {a0_1 : Option Addr} {c0_1 : Nat} {a0_2 : Option Addr} {c0_2 : Nat} {x1 : List UInt8} (f0_0 : RS σ 2 encTip (.slice a0_0 x0.starts.length c0_0) x0.starts) (f0_1 : RS σ 2 encTip (.slice a0_1 x0.ends.length c0_1) x0.ends) (f0_2 : RS σ 8 encArc (.slice a0_2 x0.arcs.length c0_2) x0.arcs) {r : (List (List UInt8)) × Int} (hh : fst_Outs x0 x1 = some r) :
  Con Tryz.prog 26 #[.agg #[.int .i64 x0.states, .slice a0_0 x0.starts.length c0_0, .slice a0_1 x0.ends.length c0_1, .slice a0_2 x0.arcs.length c0_2], .string (bs x1)] σ [] (fst_Outs_P σ r) := by
 dsimp only [fst_Outs] at hh
 have f0_0b := f0_0.rv.big
 have f0_1b := f0_1.rv.big
 have f0_2b := f0_2.rv.big
 refine Con.mk (n := 135) Tryz.func26 z z z (fun w0 => ?_)
 have x1b := grd_c hh
 replace hh := grd_t hh
 refine TC.a (TL.op z (boxA z z z z (fun b101 => ?_)))
 refine TL.s z z (TL.i z z (TL.en (TC.seq (TC.a (TL.w z (loadAll z ag31 sz31 z (i := 0) z z) ?_)))))
 obtain ⟨v5, u5, hh⟩ := bnd_e hh
 refine TL.op z (callP (fst_Check_con (x0 := x0) f0_0 f0_1 f0_2 u5) z z pf28 z z z ?_)
 refine TL.w z (OpVal.neq z z z) (TL.en (TC.cD z hh (fun h103 hh => ?_) (fun h103 hh => ?_)))
 ·refine TC.a (TL.s z z (TL.i z z (TL.en (TC.rt 0 (S.r ?_)))))
  obtain rfl := so hh
  exact rq [4, 5] ⟨none, 0, z, (RS.nilF _ Go.E.encS Go.E.encS_len), z⟩
 ·refine TC.skip (S.n (TC.seq (TC.a (TL.w z (moveStr (.inl z) z) (TL.w z (lenBs z underlying9 z) (TL.w z (OpVal.gtr z z z) (TL.en (TC.cD z hh (fun h104 hh => ?_) (fun h104 hh => ?_)))))))))
  ·refine TC.a (TL.s z z (TL.i z z (TL.en (TC.rt 0 (S.r ?_)))))
   obtain rfl := so hh
   exact rq [4, 5] ⟨none, 0, z, (RS.nilF _ Go.E.encS Go.E.encS_len), z⟩
  ·refine TC.skip (S.n (TC.a (TL.w z (fieldLoc z fo31_0 z) (TL.w z (loadLoc z ag3 z (i := 0) z z) ?_))))
   have u16 := grd_c hh
   replace hh := grd_t hh
   refine TL.op rfl (makeN (q := x0.states.toNat) (E := 60) (size := 8) (enc := encArc) rfl underlying73 sz29 by29 ze29 rfl rfl (by show Value.int _ _ = _; rw [Int.toNat_of_nonneg u16.1]) (by show Value.int _ _ = _; rw [Int.toNat_of_nonneg u16.1]) (by omega) (by decide) rfl (fun a105 c106 zf107 => ?_))
   refine TL.s z z (TL.en (TC.seq (TC.a (TL.w z (fieldLoc z fo31_3 z) (TL.w z (loadLoc z ag29 z (i := 1) z z) (TL.w z (lenC z underlying29 z) (TL.i z z (TL.en (TC.block (TC.loopG (α := ((List (List Arc)) × Nat) × ((List (NP Arc)))) (rgs [(8, 1), (34, 17)]) (fun g => [(34, .int .i64 ((g.1.2 : Nat) : Int))]) (fun g => [Res.cells b101 #[.int .i64 x0.states, .slice a0_0 x0.starts.length c0_0, .slice a0_1 x0.ends.length c0_1, .slice a0_2 x0.arcs.length c0_2] 31, Res.nest 29 60 8 encArc (.slice a105 (List.replicate x0.states.toNat ([] : List Arc)).length c106) g.2]) (fun g => σ) (fun g => iter (fun q : (List (List Arc)) × Nat => fst_Outs_b1 x0 x1 q.1 q.2) g.1 = some r ∧ g.1.1.length = (List.replicate x0.states.toNat ([] : List Arc)).length ∧ Zn g.2 g.1.1) (fun g => rounds (fun q : (List (List Arc)) × Nat => fst_Outs_b1 x0 x1 q.1 q.2) g.1) (((List.replicate x0.states.toNat ([] : List Arc)), 0), (List.replicate x0.states.toNat (nilN : NP Arc))) (Sub.f [1] 2) z (by repeat (first | exact trivial | refine ⟨z, ?_⟩)) ⟨hh, z, zf107⟩ (fun g1 j1 hg1 => ?_)))))))))))
   obtain ⟨⟨l120, k124⟩, z122⟩ := g1
   obtain ⟨hh, hn121, zf123⟩ := hg1
   try dsimp only at hn121 zf123 ⊢
   obtain ⟨z1, hh, hR1⟩ := iter_e hh
   dsimp only [fst_Outs_b1] at hh
   have hn121b := hn121
   have zf123b := zf123.len
   refine TC.know (isSl_nest (q := 1) z zf123) (fun ⟨_, hb125⟩ => ?_)
   refine TC.a (TL.w z (OpVal.lss z z z) (TL.en (TC.seq (TC.cD z hh (fun h126 hh => ?_) (fun h126 hh => ?_)))))
   ·refine TC.skip (S.n (TC.cutG (α := (Unit) × ((List (NP Arc)))) (rgs [(8, 1), (36, 14)]) (fun g => []) (fun g => [Res.cells b101 #[.int .i64 x0.states, .slice a0_0 x0.starts.length c0_0, .slice a0_1 x0.ends.length c0_1, .slice a0_2 x0.arcs.length c0_2] 31, Res.nest 29 60 8 encArc (.slice a105 (List.replicate x0.states.toNat ([] : List Arc)).length c106) g.2]) (fun g => σ) (fun g => fst_Outs_j1 l120 x0 k124 = some z1 ∧ (l120.set (((nth x0.arcs k124 Arc.zero).frm).toNat) ((nth l120 (((nth x0.arcs k124 Arc.zero).frm).toNat) ([] : List Arc)) ++ [(nth x0.arcs k124 Arc.zero)])).length = (List.replicate x0.states.toNat ([] : List Arc)).length ∧ Zn g.2 (l120.set (((nth x0.arcs k124 Arc.zero).frm).toNat) ((nth l120 (((nth x0.arcs k124 Arc.zero).frm).toNat) ([] : List Arc)) ++ [(nth x0.arcs k124 Arc.zero)]))) ?_ (fun g j hg => ?_)))
    ·skip
     refine TC.block (TC.a (TL.w z (indexN z underlying29 sz60 z z f0_2.rv.sl (by omega)) (TL.w z (loadSA Arc.zero z ag60 sz60 z f0_2 (by omega) (by omega)) (TL.op z (OpOk.alloc z ze60 z z (fun b130 => ?_))))))
     refine TL.op z (storeAll z sz60 z z z z z z ?_)
     refine TL.en ?_
     have u33 := grd_c hh
     replace hh := grd_t hh
     have u37 := grd_c hh
     replace hh := grd_t hh
     have u38 := grd_c hh
     replace hh := grd_t hh
     refine TC.drawR (Hr := [Res.cells b130 #[.int .i64 ((nth x0.arcs k124 Arc.zero).frm), .int .i64 ((nth x0.arcs k124 Arc.zero).to), .int .u64 ((((nth x0.arcs k124 Arc.zero).set).a : Nat) : Int), .int .u64 ((((nth x0.arcs k124 Arc.zero).set).b : Nat) : Int), .int .u64 ((((nth x0.arcs k124 Arc.zero).set).c : Nat) : Int), .int .u64 ((((nth x0.arcs k124 Arc.zero).set).d : Nat) : Int), .string (bs ((nth x0.arcs k124 Arc.zero).out)), .bool ((nth x0.arcs k124 Arc.zero).copy)] 60, Res.cells b101 #[.int .i64 x0.states, .slice a0_0 x0.starts.length c0_0, .slice a0_1 x0.ends.length c0_1, .slice a0_2 x0.arcs.length c0_2] 31]) (fun r hr => mem_pick [0, 1] z hr) [] (by kernel_rfl) (TA.a 0 z (moveSl (.inl z) z) z (TA.a 1 z (fieldLoc z fo60_0 z) z (TA.b 2 z (loadLoc z ag3 z (i := 0) z z) z (TA.a 3 z (moveSl (.inl z) z) z (TA.a 4 z (fieldLoc z fo60_0 z) z (TA.b 5 z (loadLoc z ag3 z (i := 0) z z) z (TA.know (isSl_nest (q := 2) z zf123) (fun ⟨hs143, hs143b⟩ => ?_))))))))
     refine TA.b 6 z (OpVal.index z underlying73 sz29 z z hs143 u33.1 u33.2) z (TA.b 8 z (loadAll z ag60 sz60 z (i := 0) z z) z ?_)
     obtain ⟨p144, hz144, hm144⟩ := Zn.at zf123 (i := ((nth x0.arcs k124 Arc.zero).frm).toNat) (by omega)
     refine TA.actN [7, 9] (by kernel_rfl) (an z z (OpVal.ok (loadN z ag29 z (q := 2) z hz144 hm144) z z ⟨(fun w h => sees_of (Store.le.refl _) (fun r hr => mem_pick [0, 1] z hr) w h), ?_⟩) (an z z (OpOk.lit (enc := encArc) [(nth x0.arcs k124 Arc.zero)] z underlying29 sz60 ze60 z z z encArc_len (by decide) (by decide) Arc.zero z (by decide) z (by decide) encArc_one (fun a145 c146 => ⟨(fun w h => sees_of (Store.le.refl _) (fun r hr => mem_pick [1, 2] z hr) w h), ?_⟩)) (True.intro)))
     ·skip
      refine TA.ac 9 z (OpOk.lit (enc := encArc) [(nth x0.arcs k124 Arc.zero)] z underlying29 sz60 ze60 z z z encArc_len (by decide) (by decide) Arc.zero z (by decide) z (by decide) encArc_one (fun a148 c149 => ⟨(fun w h => sees_of (Store.le.refl _) (fun r hr => mem_pick [1, 2] z hr) w h), ?_⟩))
      refine TA.front 3 z z (TA.by (fun w h => Reach.takeN hz144 hm144 h) (TA.ac 10 z (appendS z z underlying29 sz60 by60 ze60 z z (by decide) z z z (.inr ⟨_, 1, z⟩) (by simpa using u37) (by decide) (fun a152 c153 => (k3 ?_)))))
      refine TA.know (isSl_nestX (q := 1) z zf123) (fun ⟨hs154, hs154b⟩ => ?_)
      refine TA.b 11 z (OpVal.index z underlying73 sz29 z z hs154 u38.1 u38.2) z (TA.front 1 z z (TA.front 1 z z ?_))
      have hn156 : (l120.set (((nth x0.arcs k124 Arc.zero).frm).toNat) ((nth l120 (((nth x0.arcs k124 Arc.zero).frm).toNat) ([] : List Arc)) ++ [(nth x0.arcs k124 Arc.zero)])).length = (List.replicate x0.states.toNat ([] : List Arc)).length := (List.length_set ..).trans hn121
      refine TA.ac 12 rfl (storeX (l' := ((nth l120 (((nth x0.arcs k124 Arc.zero).frm).toNat) ([] : List Arc)) ++ [(nth x0.arcs k124 Arc.zero)])) rfl sz29 rfl rfl rfl rfl rfl (by rw [zf123.len]; omega) zf123 (fun zf155 => (k2 ?_)))
      exact TA.dn (B.n (S.n (cf ((), (z122.set (((nth x0.arcs k124 Arc.zero).frm).toNat) (((nth l120 (((nth x0.arcs k124 Arc.zero).frm).toNat) ([] : List Arc)) ++ [(nth x0.arcs k124 Arc.zero)]), (a152, c153)))) ⟨hh, hn156, zf155⟩ (Sub.f [3] 2))))
     ·skip
      obtain ⟨p157, hz157, hm157⟩ := Zn.at zf123 (i := ((nth x0.arcs k124 Arc.zero).frm).toNat) (by omega)
      refine TA.ac 7 z (OpVal.ok (loadN z ag29 z (q := 3) z hz157 hm157) z z ⟨(fun w h => sees_of (Store.le.refl _) (fun r hr => mem_pick [1, 2] z hr) w h), ?_⟩)
      refine TA.front 3 z z (TA.by (fun w h => Reach.takeN hz157 hm157 h) (TA.ac 10 z (appendS z z underlying29 sz60 by60 ze60 z z (by decide) z z z (.inr ⟨_, 1, z⟩) (by simpa using u37) (by decide) (fun a159 c160 => (k3 ?_)))))
      refine TA.know (isSl_nestX (q := 1) z zf123) (fun ⟨hs161, hs161b⟩ => ?_)
      refine TA.b 11 z (OpVal.index z underlying73 sz29 z z hs161 u38.1 u38.2) z (TA.front 1 z z (TA.front 1 z z ?_))
      have hn163 : (l120.set (((nth x0.arcs k124 Arc.zero).frm).toNat) ((nth l120 (((nth x0.arcs k124 Arc.zero).frm).toNat) ([] : List Arc)) ++ [(nth x0.arcs k124 Arc.zero)])).length = (List.replicate x0.states.toNat ([] : List Arc)).length := (List.length_set ..).trans hn121
      refine TA.ac 12 rfl (storeX (l' := ((nth l120 (((nth x0.arcs k124 Arc.zero).frm).toNat) ([] : List Arc)) ++ [(nth x0.arcs k124 Arc.zero)])) rfl sz29 rfl rfl rfl rfl rfl (by rw [zf123.len]; omega) zf123 (fun zf162 => (k2 ?_)))
      exact TA.dn (B.n (S.n (cf ((), (z122.set (((nth x0.arcs k124 Arc.zero).frm).toNat) (((nth l120 (((nth x0.arcs k124 Arc.zero).frm).toNat) ([] : List Arc)) ++ [(nth x0.arcs k124 Arc.zero)]), (a159, c160)))) ⟨hh, hn163, zf162⟩ (Sub.f [3] 2))))
    ·skip
     obtain ⟨_, z128⟩ := g
     obtain ⟨hh, hn127, zf129⟩ := hg
     try dsimp only at hn127 zf129 ⊢
     dsimp only [fst_Outs_j1] at hh
     have hn127b := hn127
     have zf129b := zf129.len
     refine TC.know (isSl_nest (q := 1) z zf129) (fun ⟨_, hb164⟩ => ?_)
     refine TC.region (TL.w z (OpVal.succ z z z (by omega)) (TL.i z z (TL.en ?_)))
     obtain ⟨hh, hlt165⟩ := nxt_x hR1 hh
     exact lf (((l120.set (((nth x0.arcs k124 Arc.zero).frm).toNat) ((nth l120 (((nth x0.arcs k124 Arc.zero).frm).toNat) ([] : List Arc)) ++ [(nth x0.arcs k124 Arc.zero)])), (k124 + 1)), z128) hlt165 ⟨hh, hn127, zf129⟩ (Sub.f [1, 1] 2)
   ·refine TC.exit (S.x (S.x ?_))
    replace hh := fin_x hR1 hh
    refine TC.exitHere (S.n (TC.a (TL.op z (makeMapB (enc := (fun x => Value.agg (encFPair x).toArray)) (encV := unitV) z z z (fun b166 => ?_)))))
    refine TL.w z (moveMap (.inr z) z) (TL.en (TC.seq (TC.a (TL.w z (fieldLoc z fo31_1 z) (TL.w z (loadLoc z ag28 z (i := 1) z z) (TL.w z (lenC z underlying28 z) (TL.i z z (TL.en (TC.block (TC.loopG (α := ((FM FPair Unit) × Nat) × (Unit)) (rgs [(11, 1), (55, 12)]) (fun g => [(55, .int .i64 ((g.1.2 : Nat) : Int))]) (fun g => [Res.cells b101 #[.int .i64 x0.states, .slice a0_0 x0.starts.length c0_0, .slice a0_1 x0.ends.length c0_1, .slice a0_2 x0.arcs.length c0_2] 31, Res.nest 29 60 8 encArc (.slice a105 (List.replicate x0.states.toNat ([] : List Arc)).length c106) z122, Res.mapB (fun x => Value.agg (encFPair x).toArray) unitV (some b166) g.1.1]) (fun g => σ) (fun g => iter (fun q : (FM FPair Unit) × Nat => fst_Outs_b2 x0 x1 l120 q.1 q.2) g.1 = some r ∧ l120.length = (List.replicate x0.states.toNat ([] : List Arc)).length ∧ Zn z122 l120) (fun g => rounds (fun q : (FM FPair Unit) × Nat => fst_Outs_b2 x0 x1 l120 q.1 q.2) g.1) (((FM.emp : FM FPair Unit), 0), ()) (Sub.f [2, 2] 3) z (by repeat (first | exact trivial | refine ⟨z, ?_⟩)) ⟨hh, hn121, zf123⟩ (fun g2 j2 hg2 => ?_)))))))))))
    obtain ⟨⟨m180, k181⟩, _⟩ := g2
    obtain ⟨hh, hn178, zf179⟩ := hg2
    try dsimp only at hn178 zf179 ⊢
    obtain ⟨z1, hh, hR1⟩ := iter_e hh
    dsimp only [fst_Outs_b2] at hh
    have hn178b := hn178
    have zf179b := zf179.len
    refine TC.know (isSl_nest (q := 1) z zf179) (fun ⟨_, hb182⟩ => ?_)
    refine TC.a (TL.w z (OpVal.lss z z z) (TL.en (TC.seq (TC.cD z hh (fun h183 hh => ?_) (fun h183 hh => ?_)))))
    ·refine TC.skip (S.n (TC.seq (TC.block (TC.a (TL.w z (indexN z underlying28 sz62 z z f0_0.rv.sl (by omega)) (TL.w z (loadSA Tip.zero z ag62 sz62 z f0_0 (by omega) (by omega)) (TL.op z (OpOk.alloc z ze62 z z (fun b184 => ?_)))))))))
     refine TL.op z (storeAll z sz62 z z z z z z ?_)
     refine TL.en (TC.region (TL.w z (moveMap (.inl z) z) (TL.w z (fieldLoc z fo62_0 z) (TL.w z (loadLoc z ag3 z (i := 0) z z) (TL.w z (fieldLoc z fo62_1 z) (TL.w z (loadLoc z ag9 z (i := 0) z z) (TL.w z (buildL z pl99 ze99 z) (TL.w z (buildL z pl97 ze97 z) (TL.front 3 z z (TL.op z (updB (⟨(nth x0.starts k181 Tip.zero).state, (nth x0.starts k181 Tip.zero).out⟩ : FPair) () z underlying96 z z z z kl99 ?_)))))))))))
     refine TL.nil (B.n (S.n (TC.region (TL.w z (OpVal.succ z z z (by omega)) (TL.i z z (TL.en ?_))))))
     obtain ⟨hh, hlt186⟩ := nxt_x hR1 hh
     exact lf (((m180.put (⟨(nth x0.starts k181 Tip.zero).state, (nth x0.starts k181 Tip.zero).out⟩ : FPair) ()), (k181 + 1)), ()) hlt186 ⟨hh, hn178, zf179⟩ (Sub.f [3, 3] 3)
    ·refine TC.exit (S.x (S.x ?_))
     replace hh := fin_x hR1 hh
     refine TC.exitHere (S.n (TC.seq (TC.a (TL.w z (moveStr (.inl z) z) (TL.w z (lenBs z underlying9 z) (TL.i z z (TL.en (TC.block ?_))))))))
     rw [← hn178]
     refine TC.front 1 z z (TC.seals (fun w h => Reach.sealNest encArc_len zf179 h) (fun τ206 hle205 hr204 => ?_))
     replace f0_1 := f0_1.mono hle205
     have hr204b := hr204.big
     refine TC.loopG (α := ((FM FPair Unit) × Nat) × ((Option Nat) × Store)) (rgs [(4, 2), (9, 1), (12, 3), (69, 16)]) (fun g => [(9, .map g.2.1), (69, .int .i64 ((g.1.2 : Nat) : Int))]) (fun g => [Res.cells b101 #[.int .i64 x0.states, .slice a0_0 x0.starts.length c0_0, .slice a0_1 x0.ends.length c0_1, .slice a0_2 x0.arcs.length c0_2] 31, Res.mapB (fun x => Value.agg (encFPair x).toArray) unitV g.2.1 g.1.1]) (fun g => g.2.2) (fun g => iter (fun q : (FM FPair Unit) × Nat => fst_Outs_b3 x1 l120 x0 q.1 q.2) g.1 = some r ∧ RZ g.2.2 (pkSl 8 encArc encArc_len) (.slice a105 l120.length c106) l120 ∧ Store.le τ206 g.2.2) (fun g => rounds (fun q : (FM FPair Unit) × Nat => fst_Outs_b3 x1 l120 x0 q.1 q.2) g.1) ((m180, 0), ((some b166), τ206)) (Sub.f [1, 1] 2) z (by repeat (first | exact trivial | refine ⟨z, ?_⟩)) ⟨hh, hr204, (Store.le.refl _)⟩ (fun g3 j3 hg3 => ?_)
     obtain ⟨⟨m201, k203⟩, ⟨b202, τ207⟩⟩ := g3
     obtain ⟨hh, hr199, hle208⟩ := hg3
     try dsimp only at hr199
     dsimp only at hle208
     replace f0_1 := f0_1.mono hle208
     try dsimp only
     obtain ⟨z1, hh, hR1⟩ := iter_e hh
     dsimp only [fst_Outs_b3] at hh
     have hr199b := hr199.big
     refine TC.a (TL.w z (OpVal.lss z z z) (TL.en (TC.seq (TC.cD z hh (fun h209 hh => ?_) (fun h209 hh => ?_)))))
     ·refine TC.skip (S.n (TC.seq (TC.block (TC.a (TL.i z z (TL.i z z (TL.en (TC.a (TL.s z z (TL.w z (moveMap (.inl z) z) (TL.w z (moveStr (.inl z) z) (TL.i z z (TL.w z (indexBs z underlying9 z z (by omega)) (TL.front 1 z z ?_))))))))))))))
      obtain ⟨v74, u74, hh⟩ := bnd_e hh
      refine TL.op z (OpOk.call (fst_step_con hr199 u74) z z pf49 z z z z ?_)
      rintro _ _ _ hle210 ⟨b210_1, rfl, rfl, rfl⟩
      refine TL.w z (moveT (.inl z) z) (TL.w z (OpVal.extract z z z) (TL.w z (OpVal.extract z z z) (TL.w z (moveMap (.inr z) z) (TL.j z z (TL.en (TC.seq (TC.a (TL.j z z (TL.w z (OpVal.not z z) (TL.en (TC.cB z hh (fun h212 hh => ?_) (fun h212 hh => ?_))))))))))))
      ·refine TC.a (TL.s z z (TL.i z z (TL.en (TC.rt 0 (S.r (B.r (S.r (S.r ?_))))))))
       replace hh := fin_x hR1 hh
       refine B.r (S.r ?_)
       obtain rfl := so hh
       exact rq [4, 5] ⟨none, 0, z, (RS.nilF _ Go.E.encS Go.E.encS_len), z⟩
      ·refine TC.skip (S.n (TC.region (TL.w z (moveMap (.inl z) z) (TL.w z (moveMap (.inr z) z) (TL.nil (B.n (S.n (TC.region (TL.w z (OpVal.succ z z z (by omega)) (TL.i z z (TL.en ?_)))))))))))
       obtain ⟨hh, hlt213⟩ := nxt_x hR1 hh
       exact lf ((v74.1, (k203 + 1)), (b210_1, τ207)) hlt213 ⟨hh, hr199, hle208⟩ (Sub.f [1] 2)
     ·refine TC.exit (S.x (S.x ?_))
      replace hh := fin_x hR1 hh
      refine TC.exitHere (S.n (TC.a (TL.w z (fieldLoc z fo31_0 z) (TL.w z (loadLoc z ag3 z (i := 0) z z) ?_))))
      have u90 := grd_c hh
      replace hh := grd_t hh
      refine TL.op rfl (makeN (q := x0.states.toNat) (E := 9) (size := 1) (enc := Go.E.encS) rfl underlying102 sz41 by41 ze41 rfl rfl (by show Value.int _ _ = _; rw [Int.toNat_of_nonneg u90.1]) (by show Value.int _ _ = _; rw [Int.toNat_of_nonneg u90.1]) (by omega) (by decide) rfl (fun a214 c215 zf216 => ?_))
      refine TL.s z z (TL.en (TC.seq (TC.a (TL.w z (fieldLoc z fo31_2 z) (TL.w z (loadLoc z ag28 z (i := 1) z z) (TL.w z (lenC z underlying28 z) (TL.i z z (TL.en (TC.block (TC.loopG (α := ((List (List (List UInt8))) × Nat) × ((List (NP (List UInt8))))) (rgs [(17, 1), (91, 18)]) (fun g => [(91, .int .i64 ((g.1.2 : Nat) : Int))]) (fun g => [Res.mapB (fun x => Value.agg (encFPair x).toArray) unitV b202 m201, Res.nest 41 9 1 Go.E.encS (.slice a214 (List.replicate x0.states.toNat ([] : List (List UInt8))).length c215) g.2]) (fun g => τ207) (fun g => iter (fun q : (List (List (List UInt8))) × Nat => fst_Outs_b4 x0 m201 q.1 q.2) g.1 = some r ∧ g.1.1.length = (List.replicate x0.states.toNat ([] : List (List UInt8))).length ∧ Zn g.2 g.1.1) (fun g => rounds (fun q : (List (List (List UInt8))) × Nat => fst_Outs_b4 x0 m201 q.1 q.2) g.1) (((List.replicate x0.states.toNat ([] : List (List UInt8))), 0), (List.replicate x0.states.toNat (nilN : NP (List UInt8)))) (Sub.f [2] 2) z (by repeat (first | exact trivial | refine ⟨z, ?_⟩)) ⟨hh, z, zf216⟩ (fun g4 j4 hg4 => ?_)))))))))))
      obtain ⟨⟨l229, k233⟩, z231⟩ := g4
      obtain ⟨hh, hn230, zf232⟩ := hg4
      try dsimp only at hn230 zf232 ⊢
      obtain ⟨z1, hh, hR1⟩ := iter_e hh
      dsimp only [fst_Outs_b4] at hh
      have hn230b := hn230
      have zf232b := zf232.len
      refine TC.know (isSl_nest (q := 1) z zf232) (fun ⟨_, hb234⟩ => ?_)
      refine TC.a (TL.w z (OpVal.lss z z z) (TL.en (TC.seq (TC.cD z hh (fun h235 hh => ?_) (fun h235 hh => ?_)))))
      ·refine TC.skip (S.n (TC.cutG (α := (Unit) × ((List (NP (List UInt8))))) (rgs [(17, 1), (93, 15)]) (fun g => []) (fun g => [Res.mapB (fun x => Value.agg (encFPair x).toArray) unitV b202 m201, Res.nest 41 9 1 Go.E.encS (.slice a214 (List.replicate x0.states.toNat ([] : List (List UInt8))).length c215) g.2]) (fun g => τ207) (fun g => fst_Outs_j2 l229 x0 k233 = some z1 ∧ (l229.set (((nth x0.ends k233 Tip.zero).state).toNat) ((nth l229 (((nth x0.ends k233 Tip.zero).state).toNat) ([] : List (List UInt8))) ++ [(nth x0.ends k233 Tip.zero).out])).length = (List.replicate x0.states.toNat ([] : List (List UInt8))).length ∧ Zn g.2 (l229.set (((nth x0.ends k233 Tip.zero).state).toNat) ((nth l229 (((nth x0.ends k233 Tip.zero).state).toNat) ([] : List (List UInt8))) ++ [(nth x0.ends k233 Tip.zero).out]))) ?_ (fun g j hg => ?_)))
       ·skip
        refine TC.block (TC.a (TL.w z (indexN z underlying28 sz62 z z f0_1.rv.sl (by omega)) (TL.w z (loadSA Tip.zero z ag62 sz62 z f0_1 (by omega) (by omega)) (TL.op z (OpOk.alloc z ze62 z z (fun b239 => ?_))))))
        refine TL.op z (storeAll z sz62 z z z z z z ?_)
        refine TL.en ?_
        have u107 := grd_c hh
        replace hh := grd_t hh
        have u112 := grd_c hh
        replace hh := grd_t hh
        have u113 := grd_c hh
        replace hh := grd_t hh
        refine TC.drawR (Hr := [Res.cells b239 #[.int .i64 ((nth x0.ends k233 Tip.zero).state), .string (bs ((nth x0.ends k233 Tip.zero).out))] 62, Res.mapB (fun x => Value.agg (encFPair x).toArray) unitV b202 m201]) (fun r hr => mem_pick [0, 1] z hr) [] (by kernel_rfl) (TA.a 0 z (moveSl (.inl z) z) z (TA.a 1 z (fieldLoc z fo62_0 z) z (TA.b 2 z (loadLoc z ag3 z (i := 0) z z) z (TA.a 3 z (moveSl (.inl z) z) z (TA.a 4 z (fieldLoc z fo62_0 z) z (TA.b 5 z (loadLoc z ag3 z (i := 0) z z) z (TA.know (isSl_nest (q := 2) z zf232) (fun ⟨hs252, hs252b⟩ => ?_))))))))
        refine TA.b 6 z (OpVal.index z underlying102 sz41 z z hs252 u107.1 u107.2) z (TA.a 8 z (fieldLoc z fo62_1 z) z (TA.b 9 z (loadLoc z ag9 z (i := 0) z z) z ?_))
        obtain ⟨p253, hz253, hm253⟩ := Zn.at zf232 (i := ((nth x0.ends k233 Tip.zero).state).toNat) (by omega)
        refine TA.actN [7, 10] (by kernel_rfl) (an z z (OpVal.ok (loadN z ag41 z (q := 2) z hz253 hm253) z z ⟨(fun w h => sees_of (Store.le.refl _) (fun r hr => mem_pick [0, 1] z hr) w h), ?_⟩) (an z z (OpOk.lit (enc := Go.E.encS) [(nth x0.ends k233 Tip.zero).out] z underlying41 sz9 ze9 z z z Go.E.encS_len (by decide) (by decide) ([] : List UInt8) z (by decide) z (by decide) Go.E.encS_one (fun a254 c255 => ⟨(fun w h => sees_of (Store.le.refl _) (fun r hr => mem_pick [1, 2] z hr) w h), ?_⟩)) (True.intro)))
        ·skip
         refine TA.ac 10 z (OpOk.lit (enc := Go.E.encS) [(nth x0.ends k233 Tip.zero).out] z underlying41 sz9 ze9 z z z Go.E.encS_len (by decide) (by decide) ([] : List UInt8) z (by decide) z (by decide) Go.E.encS_one (fun a257 c258 => ⟨(fun w h => sees_of (Store.le.refl _) (fun r hr => mem_pick [1, 2] z hr) w h), ?_⟩))
         refine TA.front 3 z z (TA.by (fun w h => Reach.takeN hz253 hm253 h) (TA.ac 11 z (appendS z z underlying41 sz9 by9 ze9 z z (by decide) z z z (.inr ⟨_, 1, z⟩) (by simpa using u112) (by decide) (fun a261 c262 => (k3 ?_)))))
         refine TA.know (isSl_nestX (q := 1) z zf232) (fun ⟨hs263, hs263b⟩ => ?_)
         refine TA.b 12 z (OpVal.index z underlying102 sz41 z z hs263 u113.1 u113.2) z (TA.front 1 z z (TA.front 1 z z ?_))
         have hn265 : (l229.set (((nth x0.ends k233 Tip.zero).state).toNat) ((nth l229 (((nth x0.ends k233 Tip.zero).state).toNat) ([] : List (List UInt8))) ++ [(nth x0.ends k233 Tip.zero).out])).length = (List.replicate x0.states.toNat ([] : List (List UInt8))).length := (List.length_set ..).trans hn230
         refine TA.ac 13 rfl (storeX (l' := ((nth l229 (((nth x0.ends k233 Tip.zero).state).toNat) ([] : List (List UInt8))) ++ [(nth x0.ends k233 Tip.zero).out])) rfl sz41 rfl rfl rfl rfl rfl (by rw [zf232.len]; omega) zf232 (fun zf264 => (k2 ?_)))
         exact TA.dn (B.n (S.n (cf ((), (z231.set (((nth x0.ends k233 Tip.zero).state).toNat) (((nth l229 (((nth x0.ends k233 Tip.zero).state).toNat) ([] : List (List UInt8))) ++ [(nth x0.ends k233 Tip.zero).out]), (a261, c262)))) ⟨hh, hn265, zf264⟩ (Sub.f [3] 2))))
        ·skip
         obtain ⟨p266, hz266, hm266⟩ := Zn.at zf232 (i := ((nth x0.ends k233 Tip.zero).state).toNat) (by omega)
         refine TA.ac 7 z (OpVal.ok (loadN z ag41 z (q := 3) z hz266 hm266) z z ⟨(fun w h => sees_of (Store.le.refl _) (fun r hr => mem_pick [1, 2] z hr) w h), ?_⟩)
         refine TA.front 3 z z (TA.by (fun w h => Reach.takeN hz266 hm266 h) (TA.ac 11 z (appendS z z underlying41 sz9 by9 ze9 z z (by decide) z z z (.inr ⟨_, 1, z⟩) (by simpa using u112) (by decide) (fun a268 c269 => (k3 ?_)))))
         refine TA.know (isSl_nestX (q := 1) z zf232) (fun ⟨hs270, hs270b⟩ => ?_)
         refine TA.b 12 z (OpVal.index z underlying102 sz41 z z hs270 u113.1 u113.2) z (TA.front 1 z z (TA.front 1 z z ?_))
         have hn272 : (l229.set (((nth x0.ends k233 Tip.zero).state).toNat) ((nth l229 (((nth x0.ends k233 Tip.zero).state).toNat) ([] : List (List UInt8))) ++ [(nth x0.ends k233 Tip.zero).out])).length = (List.replicate x0.states.toNat ([] : List (List UInt8))).length := (List.length_set ..).trans hn230
         refine TA.ac 13 rfl (storeX (l' := ((nth l229 (((nth x0.ends k233 Tip.zero).state).toNat) ([] : List (List UInt8))) ++ [(nth x0.ends k233 Tip.zero).out])) rfl sz41 rfl rfl rfl rfl rfl (by rw [zf232.len]; omega) zf232 (fun zf271 => (k2 ?_)))
         exact TA.dn (B.n (S.n (cf ((), (z231.set (((nth x0.ends k233 Tip.zero).state).toNat) (((nth l229 (((nth x0.ends k233 Tip.zero).state).toNat) ([] : List (List UInt8))) ++ [(nth x0.ends k233 Tip.zero).out]), (a268, c269)))) ⟨hh, hn272, zf271⟩ (Sub.f [3] 2))))
       ·skip
        obtain ⟨_, z237⟩ := g
        obtain ⟨hh, hn236, zf238⟩ := hg
        try dsimp only at hn236 zf238 ⊢
        dsimp only [fst_Outs_j2] at hh
        have hn236b := hn236
        have zf238b := zf238.len
        refine TC.know (isSl_nest (q := 1) z zf238) (fun ⟨_, hb273⟩ => ?_)
        refine TC.region (TL.w z (OpVal.succ z z z (by omega)) (TL.i z z (TL.en ?_)))
        obtain ⟨hh, hlt274⟩ := nxt_x hR1 hh
        exact lf (((l229.set (((nth x0.ends k233 Tip.zero).state).toNat) ((nth l229 (((nth x0.ends k233 Tip.zero).state).toNat) ([] : List (List UInt8))) ++ [(nth x0.ends k233 Tip.zero).out])), (k233 + 1)), z237) hlt274 ⟨hh, hn236, zf238⟩ (Sub.f [1, 1] 2)
      ·refine TC.exit (S.x (S.x ?_))
       replace hh := fin_x hR1 hh
       refine TC.exitHere (S.n (TC.a (TL.s z z (TL.en (TC.seq (TC.a (TL.w z (moveMap (.inl z) z) (TL.op z (rangeB z underlying96 z z z (fun it275 l276 hl277 => ?_))))))))))
       refine TL.en (TC.block (TC.nilS 9 1 Go.E.encS (TC.loopG (α := ((List (List UInt8))) × ((Option Addr) × Nat × (List (FPair × Unit)) × (Option (FPair × Unit)))) (rgs [(18, 2), (21, 1), (111, 22)]) (fun g => [(18, .slice g.2.1 g.1.length g.2.2.1)]) (fun g => [Res.nest 41 9 1 Go.E.encS (.slice a214 (List.replicate x0.states.toNat ([] : List (List UInt8))).length c215) z231, Res.rowS 9 1 Go.E.encS (.slice g.2.1 g.1.length g.2.2.1) g.1, Res.rng (fun x => Value.agg (encFPair x).toArray) unitV b202 it275 m201 g.2.2.2.1 g.2.2.2.2]) (fun g => τ207) (fun g => runA (fun (q : (List (List UInt8))) (oE : Option (FPair × Unit)) => fst_Outs_b5 l229 q oE) g.2.2.2.1 g.1 = some r ∧ l229.length = (List.replicate x0.states.toNat ([] : List (List UInt8))).length ∧ Zn z231 l229) (fun g => List.length g.2.2.2.1) (([] : List (List UInt8)), (none, 0, l276, none)) (Sub.f [1, 1, 2] 3) z (by repeat (first | exact trivial | refine ⟨z, ?_⟩)) ⟨(runA_of hh hl277), hn230, zf232⟩ (fun g5 j5 hg5 => ?_))))
       obtain ⟨l299, ⟨a300, c301, l302, o303⟩⟩ := g5
       obtain ⟨hh, hn296, zf297⟩ := hg5
       try dsimp only at hn296 zf297 ⊢
       have hn296b := hn296
       have zf297b := zf297.len
       refine TC.know (isSl_nest (q := 0) z zf297) (fun ⟨_, hb305⟩ => ?_)
       refine TC.isSl (i := 1) z (fun _ hb306 _ => ?_)
       refine TC.a (TL.front 2 z z (TL.op z (nextB (T := 0) z z z z z (fun hl307 => ?_) (fun l308 v120c l309 hl307 => ?_))))
       ·subst hl307
        obtain ⟨z1, hh, hR1⟩ := runA_end hh
        dsimp only [fst_Outs_b5, optE_none] at hh
        refine TL.by (fun w h => Reach.unrng h) (TL.w z (OpVal.extract z z z) (TL.en (TC.seq (TC.f z (TC.exit (S.x (S.x ?_)))))))
        replace hh := finE_x hR1 hh
        refine TC.exitHere (S.n (TC.a (TL.s z z (TL.front 2 z z (TL.sealS Go.E.encS_len (fun τ312 hle311 hr310 => ?_))))))
        have hr310b := hr310.rv.big
        obtain ⟨v148, u148, hh⟩ := bnd_e hh
        refine TL.op z (OpOk.call (onceS_con hr310 u148) z z pf50 z z z z ?_)
        rintro _ _ _ hle313 ⟨a313_1, c313_1, rfl, rfl, rfl⟩
        refine TL.s z z (TL.i z z (TL.en (TC.sealS Go.E.encS_len (fun τ317 hle316 hr315 => ?_))))
        have hr315b := hr315.rv.big
        refine TC.rt 0 ?_
        obtain rfl := so hh
        exact rq [4, 5] ⟨a313_1, c313_1, z, hr315, z⟩
       ·subst hl307
        obtain ⟨z1, hh, hR1⟩ := runA_step hh
        dsimp only [fst_Outs_b5, optE_some] at hh
        refine TL.w z (OpVal.extract z z z) (TL.en (TC.seq (TC.t z (TC.skip (S.n (TC.block (TC.a (TL.w z (OpVal.of (entryB z z (i := 0) z) (v' := .tuple #[.agg #[.int .i64 v120c.1.state, .string (bs v120c.1.out)], .agg #[]]) z) (TL.w z (OpVal.extract z z z) (TL.op z (OpOk.alloc z ze99 z z (fun b318 => ?_))))))))))))
        refine TL.op z (storeAll z sz99 z z z z z z ?_)
        refine TL.en (TC.a (TL.s z z (TL.w z (fieldLoc z fo99_0 z) (TL.w z (loadLoc z ag3 z (i := 0) z z) ?_))))
        have u129 := grd_c hh
        replace hh := grd_t hh
        refine TL.know (isSl_nest (q := 2) z zf297) (fun ⟨hs320, hs320b⟩ => ?_)
        refine TL.w z (OpVal.index z underlying102 sz41 z z hs320 u129.1 u129.2) ?_
        obtain ⟨p321, hz321, hm321⟩ := Zn.at zf297 (i := v120c.1.state.toNat) (by omega)
        refine TL.w z (loadN z ag41 z (q := 2) z hz321 hm321) (TL.w z (lenC z underlying41 z) (TL.i z z (TL.en (TC.block (TC.loopG (α := ((List (List UInt8)) × Nat) × ((Option Addr) × Nat)) (rgs [(18, 1), (21, 1), (121, 12)]) (fun g => [(18, .slice g.2.1 g.1.1.length g.2.2), (121, .int .i64 ((g.1.2 : Nat) : Int))]) (fun g => [Res.nest 41 9 1 Go.E.encS (.slice a214 (List.replicate x0.states.toNat ([] : List (List UInt8))).length c215) z231, Res.rowS 9 1 Go.E.encS (.slice g.2.1 g.1.1.length g.2.2) g.1.1, Res.cells b318 #[.int .i64 v120c.1.state, .string (bs v120c.1.out)] 99, Res.rng (fun x => Value.agg (encFPair x).toArray) unitV b202 it275 m201 (l308 ++ l309) (some v120c)]) (fun g => τ207) (fun g => iter (fun q : (List (List UInt8)) × Nat => fst_Outs_b6 l229 v120c q.1 q.2) g.1 = some z1 ∧ l229.length = (List.replicate x0.states.toNat ([] : List (List UInt8))).length ∧ Zn z231 l229) (fun g => rounds (fun q : (List (List UInt8)) × Nat => fst_Outs_b6 l229 v120c q.1 q.2) g.1) ((l299, 0), (a300, c301)) (Sub.f [1, 1, 3, 3] 4) z (by repeat (first | exact trivial | refine ⟨z, ?_⟩)) ⟨hh, hn296, zf297⟩ (fun g6 j6 hg6 => ?_))))))
        obtain ⟨⟨l338, k341⟩, ⟨a339, c340⟩⟩ := g6
        obtain ⟨hh, hn336, zf337⟩ := hg6
        try dsimp only at hn336 zf337 ⊢
        obtain ⟨z2, hh, hR2⟩ := iter_e hh
        dsimp only [fst_Outs_b6] at hh
        have hn336b := hn336
        have zf337b := zf337.len
        refine TC.know (isSl_nest (q := 0) z zf337) (fun ⟨_, hb342⟩ => ?_)
        refine TC.isSl (i := 1) z (fun _ hb343 _ => ?_)
        refine TC.a (TL.w z (OpVal.lss z z z) (TL.en (TC.seq (TC.cD z hh (fun h344 hh => ?_) (fun h344 hh => ?_)))))
        ·refine TC.skip (S.n (TC.seq (TC.block (TC.a (TL.know (isSl_inner (q := 0) z hz321 hm321) (fun ⟨hs345, hs345b⟩ => ?_))))))
         refine TL.w z (indexN z underlying41 sz9 z z hs345 (by omega)) (TL.w z (OpVal.seen (sees_inner (q := 0) z hz321 hm321) (loadO1 ([] : List UInt8) z ag9 z (q := 0) z Go.E.encS_len (by omega) z)) (TL.w z (moveStr (.inr z) z) (TL.en (TC.region (TL.s z z (TL.w z (fieldLoc z fo99_1 z) (TL.w z (loadLoc z ag9 z (i := 2) z z) (TL.w z (moveStr (.inl z) z) ?_))))))))
         have u141 := grd_c hh
         replace hh := grd_t hh
         refine TL.w z (catBs z z z u141) (TL.op z (OpOk.lit (enc := Go.E.encS) [(v120c.1.out ++ (nth (nth l229 v120c.1.state.toNat ([] : List (List UInt8))) k341 ([] : List UInt8)))] z underlying41 sz9 ze9 z z z Go.E.encS_len (by decide) (by decide) ([] : List UInt8) z (by decide) z (by decide) Go.E.encS_one (fun a346 c347 => ?_)))
         refine TL.front 2 z z ?_
         have u143 := grd_c hh
         replace hh := grd_t hh
         refine TL.op z (appendS z z underlying41 sz9 by9 ze9 z z (by decide) z z z (.inr ⟨_, 0, z⟩) (by simpa using u143) (by decide) (fun a349 c350 => ?_))
         refine TL.s z z (TL.nil (B.n (S.n (TC.region (TL.w z (OpVal.succ z z z (by omega)) (TL.i z z (TL.en ?_)))))))
         obtain ⟨hh, hlt351⟩ := nxt_x hR2 hh
         exact lf (((l338 ++ [(v120c.1.out ++ (nth (nth l229 v120c.1.state.toNat ([] : List (List UInt8))) k341 ([] : List UInt8)))]), (k341 + 1)), (a349, c350)) hlt351 ⟨hh, hn336, zf337⟩ (Sub.f [4, 4, 2, 4] 4)
        ·refine TC.exit (S.x (S.x ?_))
         replace hh := fin_x hR2 hh
         refine TC.exitHere (B.n (S.n ?_))
         replace hh := nxtA_x hR1 hh
         exact lf (l338, (a339, c340, (l308 ++ l309), (some v120c))) (by simp) ⟨hh, hn336, zf337⟩ (Sub.f [3, 2, 2] 3)

end Go.Proofs.YtcfjjckencjjeaaGreatDoor
end

/- F4 -/
section
/- Decompiled: Has; the law's own looks. -/
set_option linter.unusedVariables false
set_option linter.unusedSimpArgs false
namespace Go.Proofs.YtcfjjckencjjeaaGreatDoor
open Go Go.E Go.E.OpVal Go.E.OpOk Go.Proofs.Tryz
set_option maxRecDepth 100000
private theorem eg60 : Tryz.prog.eqGuardType Tryz.prog.depth 60 = false := by kernel_rfl
private theorem eg62 : Tryz.prog.eqGuardType Tryz.prog.depth 62 = false := by kernel_rfl
private theorem es60 (x y : Arc) : Go.E.EqAt Tryz.prog 3 60 (.agg (Go.E.encArc x).toArray) (.agg (Go.E.encArc y).toArray) (decide (x = y)) :=
 (EqAt.struct (ts := [(false, 3, 0), (false, 3, 1), (false, 58, 2), (false, 9, 6), (false, 4, 7)]) (by kernel_rfl) (by kernel_rfl) (by kernel_rfl) (EqC.one (by kernel_rfl) rfl rfl (EqAt.int underlying3 x.frm y.frm |>.up (by decide)) (EqC.one (by kernel_rfl) rfl rfl (EqAt.int underlying3 x.to y.to |>.up (by decide)) (EqC.agg (s := 4) (us := Go.E.setA x.set) (vs := Go.E.setA y.set) (by kernel_rfl) (by kernel_rfl) rfl rfl (EqAt.set underlying58 underlying56 (by kernel_rfl) (by kernel_rfl) x.set y.set) (EqC.one (by kernel_rfl) rfl rfl (EqAt.str underlying9 x.out y.out |>.up (by decide)) (EqC.one (by kernel_rfl) rfl rfl (EqAt.bool underlying4 x.copy y.copy |>.up (by decide)) EqC.nil)))))).of (by rw [Bool.eq_iff_iff]; cases x; cases y; simp)
private theorem es62 (x y : Tip) : Go.E.EqAt Tryz.prog 2 62 (.agg (Go.E.encTip x).toArray) (.agg (Go.E.encTip y).toArray) (decide (x = y)) :=
 (EqAt.struct (ts := [(false, 3, 0), (false, 9, 1)]) (by kernel_rfl) (by kernel_rfl) (by kernel_rfl) (EqC.one (by kernel_rfl) rfl rfl (EqAt.int underlying3 x.state y.state) (EqC.one (by kernel_rfl) rfl rfl (EqAt.str underlying9 x.out y.out) EqC.nil))).of (by rw [Bool.eq_iff_iff]; cases x; cases y; simp)
private theorem pf27 : Go.E.plainF Tryz.prog 27 = true := by kernel_rfl

noncomputable def whittleref03_Texts_b1 (x0 : List (List UInt8)) (x1 : List (List UInt8)) (k104 : Nat) : Option ((Nat) ⊕ (Bool)) :=
 iteO (decide (((k104 : Nat) : Int) < ((x0.length : Nat) : Int))) (grd (k104 < x1.length) (iteO (decide ((nth x0 k104 ([] : List UInt8)) ≠ (nth x1 k104 ([] : List UInt8)))) (fin (some false)) (nxt (k104 + 1)))) (fin (some true))
noncomputable def whittleref03_Texts (x0 : List (List UInt8)) (x1 : List (List UInt8)) : Option (Bool) :=
 iteO (decide (((x0.length : Nat) : Int) ≠ ((x1.length : Nat) : Int))) (some false) (iter (fun q : Nat => whittleref03_Texts_b1 x0 x1 q) 0)
theorem whittleref03_Texts_con {σ : Store} {x0 : List (List UInt8)} {a0_0 : Option Addr} {c0_0 : Nat} {x1 : List (List UInt8)} {a1_0 : Option Addr} {c1_0 : Nat} (f0_0 : RS σ 1 Go.E.encS (.slice a0_0 x0.length c0_0) x0) (f1_0 : RS σ 1 Go.E.encS (.slice a1_0 x1.length c1_0) x1) {r : Bool} (hh : whittleref03_Texts x0 x1 = some r) :
  Con Tryz.prog 16 #[.slice a0_0 x0.length c0_0, .slice a1_0 x1.length c1_0] σ [] (PureP (.bool r) σ) := by
 dsimp only [whittleref03_Texts] at hh
 have f0_0b := f0_0.rv.big
 have f1_0b := f1_0.rv.big
 refine Con.mk (n := 26) Tryz.func16 z z z (fun w0 => ?_)
 refine TC.a (TL.j z z (TL.en (TC.seq (TC.a (TL.s z z (TL.w z (lenC z underlying41 z) (TL.s z z (TL.w z (lenC z underlying41 z) (TL.w z (OpVal.neq z z z) (TL.en (TC.cD z hh (fun h101 hh => ?_) (fun h101 hh => ?_))))))))))))
 ·refine TC.a (TL.j z z (TL.en (TC.ret (S.r ?_))))
  obtain rfl := so hh
  exact rq [4] ⟨z, z, z⟩
 ·refine TC.skip (S.n (TC.seq (TC.a (TL.i z z (TL.en (TC.block (TC.loopG (α := (Nat) × (Unit)) (rgs [(4, 2), (11, 15)]) (fun g => [(5, .int .i64 ((g.1 : Nat) : Int))]) (fun g => []) (fun g => σ) (fun g => iter (fun q : Nat => whittleref03_Texts_b1 x0 x1 q) g.1 = some r) (fun g => rounds (fun q : Nat => whittleref03_Texts_b1 x0 x1 q) g.1) (0, ()) (Sub.pre 0 z) z (by repeat (first | exact trivial | refine ⟨z, ?_⟩)) hh (fun g1 j1 hg1 => ?_))))))))
  obtain ⟨k104, _⟩ := g1
  have hh := hg1; clear hg1
  try dsimp only
  obtain ⟨z1, hh, hR1⟩ := iter_e hh
  dsimp only [whittleref03_Texts_b1] at hh
  refine TC.seq (TC.a (TL.i z z (TL.s z z (TL.w z (lenC z underlying41 z) (TL.w z (OpVal.lss z z z) (TL.en (TC.cD z hh (fun h105 hh => ?_) (fun h105 hh => ?_))))))))
  ·refine TC.skip (S.n (TC.seq (TC.block (TC.seq ?_))))
   have u19 := grd_c hh
   replace hh := grd_t hh
   refine TC.draw [] (by kernel_rfl) (TA.a 0 z (moveSl (.inl z) z) z (TA.a 1 z (moveI (.inl z) z) z (TA.b 2 z (indexN z underlying41 sz9 z z f0_0.rv.sl (by omega)) z (TA.b 3 z (loadS1 ([] : List UInt8) z ag9 z f0_0 (by omega) z) z (TA.a 4 z (moveSl (.inl z) z) z (TA.a 5 z (moveI (.inl z) z) z (TA.b 6 z (indexN z underlying41 sz9 z z f1_0.rv.sl (by omega)) z (TA.b 7 z (loadS1 ([] : List UInt8) z ag9 z f1_0 (by omega) z) z (TA.a 8 z (neqBs z z z) z (TA.dn (S.n (TC.cD z hh (fun h106 hh => ?_) (fun h106 hh => ?_)))))))))))))
   ·refine TC.a (TL.j z z (TL.en (TC.ret (B.r (S.r (S.r ?_))))))
    replace hh := fin_x hR1 hh
    refine B.r (S.r ?_)
    obtain rfl := so hh
    exact rq [4] ⟨z, z, z⟩
   ·refine TC.skip (B.n (S.n (TC.region (TL.i z z (TL.w z (OpVal.succ z z z (by omega)) (TL.i z z (TL.en ?_)))))))
    obtain ⟨hh, hlt107⟩ := nxt_x hR1 hh
    exact lf ((k104 + 1), ()) hlt107 hh (Sub.pre 0 z)
  ·refine TC.exit (S.x (S.x ?_))
   replace hh := fin_x hR1 hh
   refine TC.exitHere (S.n (TC.a (TL.j z z (TL.en (TC.ret ?_)))))
   obtain rfl := so hh
   exact rq [4] ⟨z, z, z⟩

noncomputable def whittleref15_SameTips_b1 (x0 : List Tip) (x1 : List Tip) (k104 : Nat) : Option ((Nat) ⊕ (Bool)) :=
 iteO (decide (((k104 : Nat) : Int) < ((x0.length : Nat) : Int))) (grd (k104 < x1.length) (iteO (decide (¬ ((nth x0 k104 Tip.zero) = (nth x1 k104 Tip.zero)))) (fin (some false)) (nxt (k104 + 1)))) (fin (some true))
noncomputable def whittleref15_SameTips (x0 : List Tip) (x1 : List Tip) : Option (Bool) :=
 iteO (decide (((x0.length : Nat) : Int) ≠ ((x1.length : Nat) : Int))) (some false) (iter (fun q : Nat => whittleref15_SameTips_b1 x0 x1 q) 0)
theorem whittleref15_SameTips_con {σ : Store} {x0 : List Tip} {a0_0 : Option Addr} {c0_0 : Nat} {x1 : List Tip} {a1_0 : Option Addr} {c1_0 : Nat} (f0_0 : RS σ 2 encTip (.slice a0_0 x0.length c0_0) x0) (f1_0 : RS σ 2 encTip (.slice a1_0 x1.length c1_0) x1) {r : Bool} (hh : whittleref15_SameTips x0 x1 = some r) :
  Con Tryz.prog 27 #[.slice a0_0 x0.length c0_0, .slice a1_0 x1.length c1_0] σ [] (PureP (.bool r) σ) := by
 dsimp only [whittleref15_SameTips] at hh
 have f0_0b := f0_0.rv.big
 have f1_0b := f1_0.rv.big
 refine Con.mk (n := 26) Tryz.func27 z z z (fun w0 => ?_)
 refine TC.a (TL.j z z (TL.en (TC.seq (TC.a (TL.s z z (TL.w z (lenC z underlying28 z) (TL.s z z (TL.w z (lenC z underlying28 z) (TL.w z (OpVal.neq z z z) (TL.en (TC.cD z hh (fun h101 hh => ?_) (fun h101 hh => ?_))))))))))))
 ·refine TC.a (TL.j z z (TL.en (TC.ret (S.r ?_))))
  obtain rfl := so hh
  exact rq [4] ⟨z, z, z⟩
 ·refine TC.skip (S.n (TC.seq (TC.a (TL.i z z (TL.en (TC.block (TC.loopG (α := (Nat) × (Unit)) (rgs [(4, 2), (11, 15)]) (fun g => [(5, .int .i64 ((g.1 : Nat) : Int))]) (fun g => []) (fun g => σ) (fun g => iter (fun q : Nat => whittleref15_SameTips_b1 x0 x1 q) g.1 = some r) (fun g => rounds (fun q : Nat => whittleref15_SameTips_b1 x0 x1 q) g.1) (0, ()) (Sub.pre 0 z) z (by repeat (first | exact trivial | refine ⟨z, ?_⟩)) hh (fun g1 j1 hg1 => ?_))))))))
  obtain ⟨k104, _⟩ := g1
  have hh := hg1; clear hg1
  try dsimp only
  obtain ⟨z1, hh, hR1⟩ := iter_e hh
  dsimp only [whittleref15_SameTips_b1] at hh
  refine TC.seq (TC.a (TL.i z z (TL.s z z (TL.w z (lenC z underlying28 z) (TL.w z (OpVal.lss z z z) (TL.en (TC.cD z hh (fun h105 hh => ?_) (fun h105 hh => ?_))))))))
  ·refine TC.skip (S.n (TC.seq (TC.block (TC.seq ?_))))
   have u19 := grd_c hh
   replace hh := grd_t hh
   refine TC.draw [] (by kernel_rfl) (TA.a 0 z (moveSl (.inl z) z) z (TA.a 1 z (moveI (.inl z) z) z (TA.b 2 z (indexN z underlying28 sz62 z z f0_0.rv.sl (by omega)) z (TA.b 3 z (loadSA Tip.zero z ag62 sz62 z f0_0 (by omega) (by omega)) z (TA.a 4 z (moveSl (.inl z) z) z (TA.a 5 z (moveI (.inl z) z) z (TA.b 6 z (indexN z underlying28 sz62 z z f1_0.rv.sl (by omega)) z (TA.b 7 z (loadSA Tip.zero z ag62 sz62 z f1_0 (by omega) (by omega)) z (TA.a 8 z (neqSt (p := (nth x0 k104 Tip.zero) = (nth x1 k104 Tip.zero)) z z z eg62 (es62 (nth x0 k104 Tip.zero) (nth x1 k104 Tip.zero)) z) z (TA.dn (S.n (TC.cD z hh (fun h106 hh => ?_) (fun h106 hh => ?_)))))))))))))
   ·refine TC.a (TL.j z z (TL.en (TC.ret (B.r (S.r (S.r ?_))))))
    replace hh := fin_x hR1 hh
    refine B.r (S.r ?_)
    obtain rfl := so hh
    exact rq [4] ⟨z, z, z⟩
   ·refine TC.skip (B.n (S.n (TC.region (TL.i z z (TL.w z (OpVal.succ z z z (by omega)) (TL.i z z (TL.en ?_)))))))
    obtain ⟨hh, hlt107⟩ := nxt_x hR1 hh
    exact lf ((k104 + 1), ()) hlt107 hh (Sub.pre 0 z)
  ·refine TC.exit (S.x (S.x ?_))
   replace hh := fin_x hR1 hh
   refine TC.exitHere (S.n (TC.a (TL.j z z (TL.en (TC.ret ?_)))))
   obtain rfl := so hh
   exact rq [4] ⟨z, z, z⟩

noncomputable def whittleref15_Same_b1 (x0 : Fst) (x1 : Fst) (k111 : Nat) : Option ((Nat) ⊕ (Bool)) :=
 iteO (decide (((k111 : Nat) : Int) < ((x0.arcs.length : Nat) : Int))) (grd (k111 < x1.arcs.length) (iteO (decide (¬ ((nth x0.arcs k111 Arc.zero) = (nth x1.arcs k111 Arc.zero)))) (fin (some false)) (nxt (k111 + 1)))) (fin (some true))
noncomputable def whittleref15_Same (x0 : Fst) (x1 : Fst) : Option (Bool) :=
 iteO (decide (x0.states ≠ x1.states)) (some false) (bnd (whittleref15_SameTips x0.starts x1.starts) (fun v14 => iteO (!v14) (some false) (bnd (whittleref15_SameTips x0.ends x1.ends) (fun v22 => iteO (!v22) (some false) (iteO (decide (((x0.arcs.length : Nat) : Int) ≠ ((x1.arcs.length : Nat) : Int))) (some false) (iter (fun q : Nat => whittleref15_Same_b1 x0 x1 q) 0))))))
theorem whittleref15_Same_con {σ : Store} {x0 : Fst} {a0_0 : Option Addr} {c0_0 : Nat} {a0_1 : Option Addr} {c0_1 : Nat} {a0_2 : Option Addr} {c0_2 : Nat} {x1 : Fst} {a1_0 : Option Addr} {c1_0 : Nat} {a1_1 : Option Addr} {c1_1 : Nat} {a1_2 : Option Addr} {c1_2 : Nat} (f0_0 : RS σ 2 encTip (.slice a0_0 x0.starts.length c0_0) x0.starts) (f0_1 : RS σ 2 encTip (.slice a0_1 x0.ends.length c0_1) x0.ends) (f0_2 : RS σ 8 encArc (.slice a0_2 x0.arcs.length c0_2) x0.arcs) (f1_0 : RS σ 2 encTip (.slice a1_0 x1.starts.length c1_0) x1.starts) (f1_1 : RS σ 2 encTip (.slice a1_1 x1.ends.length c1_1) x1.ends) (f1_2 : RS σ 8 encArc (.slice a1_2 x1.arcs.length c1_2) x1.arcs) {r : Bool} (hh : whittleref15_Same x0 x1 = some r) :
  Con Tryz.prog 12 #[.agg #[.int .i64 x0.states, .slice a0_0 x0.starts.length c0_0, .slice a0_1 x0.ends.length c0_1, .slice a0_2 x0.arcs.length c0_2], .agg #[.int .i64 x1.states, .slice a1_0 x1.starts.length c1_0, .slice a1_1 x1.ends.length c1_1, .slice a1_2 x1.arcs.length c1_2]] σ [] (PureP (.bool r) σ) := by
 dsimp only [whittleref15_Same] at hh
 have f0_0b := f0_0.rv.big
 have f0_1b := f0_1.rv.big
 have f0_2b := f0_2.rv.big
 have f1_0b := f1_0.rv.big
 have f1_1b := f1_1.rv.big
 have f1_2b := f1_2.rv.big
 refine Con.mk (n := 54) Tryz.func12 z z z (fun w0 => ?_)
 refine TC.a (TL.op z (boxA z z z z (fun b101 => ?_)))
 refine TL.op z (boxA z z z z (fun b103 => ?_))
 refine TL.j z z (TL.en (TC.seq (TC.a (TL.w z (fieldLoc z fo31_0 z) (TL.w z (loadLoc z ag3 z (i := 1) z z) (TL.w z (fieldLoc z fo31_0 z) (TL.w z (loadLoc z ag3 z (i := 0) z z) (TL.w z (OpVal.neq z z z) (TL.j z z (TL.split 11 z (fun h105 => ?_) (fun h105 => ?_)))))))))))
 ·replace hh := iteO_t h105 hh
  replace h105 := of_decide_eq_true h105
  refine TL.f z (TL.f z (TL.f z (TL.f z (TL.f z (TL.f z (TL.w z (pickTB z z z) (TL.j z z (TL.f z (TL.f z (TL.f z (TL.f z (TL.f z (TL.f z (TL.w z (pickTB z z z) (TL.j z z ?_)))))))))))))))
  refine TL.f z (TL.f z (TL.f z (TL.f z (TL.f z (TL.f z (TL.f z (TL.w z (pickTB z z z) (TL.en (TC.t z (TC.a (TL.j z z (TL.en (TC.rt 0 (S.r ?_))))))))))))))
  obtain rfl := so hh
  exact rq [4] ⟨z, z, z⟩
 ·replace hh := iteO_f h105 hh
  replace h105 := of_decide_eq_false h105
  refine TL.g z (fieldLoc z fo31_1 z) (TL.g z (loadLoc z ag28 z (i := 1) z z) (TL.g z (fieldLoc z fo31_1 z) (TL.g z (loadLoc z ag28 z (i := 0) z z) ?_)))
  obtain ⟨v14, u14, hh⟩ := bnd_e hh
  refine TL.gon z z z z z (callP (whittleref15_SameTips_con f0_0 f1_0 u14) z z pf27 z z z ?_)
  refine TL.g z (OpVal.not z z) (TL.w z (pickFB z z z) (TL.j z z (TL.split 19 z (fun h106 => ?_) (fun h106 => ?_))))
  ·replace hh := iteO_t h106 hh
   refine TL.f z (TL.f z (TL.f z (TL.f z (TL.f z (TL.f z (TL.w z (pickTB z z z) (TL.j z z (TL.f z (TL.f z (TL.f z (TL.f z (TL.f z (TL.f z (TL.f z (TL.w z (pickTB z z z) ?_)))))))))))))))
   refine TL.en (TC.t z (TC.a (TL.j z z (TL.en (TC.rt 0 (S.r ?_))))))
   obtain rfl := so hh
   exact rq [4] ⟨z, z, z⟩
  ·replace hh := iteO_f h106 hh
   refine TL.g z (fieldLoc z fo31_2 z) (TL.g z (loadLoc z ag28 z (i := 1) z z) (TL.g z (fieldLoc z fo31_2 z) (TL.g z (loadLoc z ag28 z (i := 0) z z) ?_)))
   obtain ⟨v22, u22, hh⟩ := bnd_e hh
   refine TL.gon z z z z z (callP (whittleref15_SameTips_con f0_1 f1_1 u22) z z pf27 z z z ?_)
   refine TL.g z (OpVal.not z z) (TL.w z (pickFB z z z) (TL.j z z (TL.split 27 z (fun h107 => ?_) (fun h107 => ?_))))
   ·replace hh := iteO_t h107 hh
    refine TL.f z (TL.f z (TL.f z (TL.f z (TL.f z (TL.f z (TL.f z (TL.w z (pickTB z z z) (TL.en (TC.t z (TC.a (TL.j z z (TL.en (TC.rt 0 (S.r ?_))))))))))))))
    obtain rfl := so hh
    exact rq [4] ⟨z, z, z⟩
   ·replace hh := iteO_f h107 hh
    refine TL.g z (fieldLoc z fo31_3 z) (TL.g z (loadLoc z ag29 z (i := 1) z z) (TL.g z (lenC z underlying29 z) (TL.g z (fieldLoc z fo31_3 z) (TL.g z (loadLoc z ag29 z (i := 0) z z) (TL.g z (lenC z underlying29 z) (TL.g z (OpVal.neq z z z) (TL.w z (pickFB z z z) (TL.en (TC.cD z hh (fun h108 hh => ?_) (fun h108 hh => ?_))))))))))
    ·refine TC.a (TL.j z z (TL.en (TC.rt 0 (S.r ?_))))
     obtain rfl := so hh
     exact rq [4] ⟨z, z, z⟩
    ·refine TC.skip (S.n (TC.seq (TC.a (TL.i z z (TL.en (TC.block (TC.loopG (α := (Nat) × (Unit)) (rgs [(4, 2), (36, 18)]) (fun g => [(5, .int .i64 ((g.1 : Nat) : Int))]) (fun g => [Res.cells b101 #[.int .i64 x0.states, .slice a0_0 x0.starts.length c0_0, .slice a0_1 x0.ends.length c0_1, .slice a0_2 x0.arcs.length c0_2] 31, Res.cells b103 #[.int .i64 x1.states, .slice a1_0 x1.starts.length c1_0, .slice a1_1 x1.ends.length c1_1, .slice a1_2 x1.arcs.length c1_2] 31]) (fun g => σ) (fun g => iter (fun q : Nat => whittleref15_Same_b1 x0 x1 q) g.1 = some r) (fun g => rounds (fun q : Nat => whittleref15_Same_b1 x0 x1 q) g.1) (0, ()) (Sub.f [1] 2) z (by repeat (first | exact trivial | refine ⟨z, ?_⟩)) hh (fun g1 j1 hg1 => ?_))))))))
     obtain ⟨k111, _⟩ := g1
     have hh := hg1; clear hg1
     try dsimp only
     obtain ⟨z1, hh, hR1⟩ := iter_e hh
     dsimp only [whittleref15_Same_b1] at hh
     refine TC.seq (TC.a (TL.i z z (TL.w z (fieldLoc z fo31_3 z) (TL.w z (loadLoc z ag29 z (i := 0) z z) (TL.w z (lenC z underlying29 z) (TL.w z (OpVal.lss z z z) (TL.en (TC.cD z hh (fun h112 hh => ?_) (fun h112 hh => ?_)))))))))
     ·refine TC.skip (S.n (TC.seq (TC.block (TC.seq ?_))))
      have u49 := grd_c hh
      replace hh := grd_t hh
      refine TC.draw [] (by kernel_rfl) (TA.a 0 z (fieldLoc z fo31_3 z) z (TA.b 1 z (loadLoc z ag29 z (i := 0) z z) z (TA.a 2 z (moveI (.inl z) z) z (TA.b 3 z (indexN z underlying29 sz60 z z f0_2.rv.sl (by omega)) z (TA.b 4 z (loadSA Arc.zero z ag60 sz60 z f0_2 (by omega) (by omega)) z (TA.a 5 z (fieldLoc z fo31_3 z) z (TA.b 6 z (loadLoc z ag29 z (i := 1) z z) z (TA.a 7 z (moveI (.inl z) z) z (TA.b 8 z (indexN z underlying29 sz60 z z f1_2.rv.sl (by omega)) z (TA.b 9 z (loadSA Arc.zero z ag60 sz60 z f1_2 (by omega) (by omega)) z (TA.a 10 z (neqSt (p := (nth x0.arcs k111 Arc.zero) = (nth x1.arcs k111 Arc.zero)) z z z eg60 (es60 (nth x0.arcs k111 Arc.zero) (nth x1.arcs k111 Arc.zero)) z) z (TA.dn (S.n (TC.cD z hh (fun h113 hh => ?_) (fun h113 hh => ?_)))))))))))))))
      ·refine TC.a (TL.j z z (TL.en (TC.rt 0 (B.r (S.r (S.r ?_))))))
       replace hh := fin_x hR1 hh
       refine B.r (S.r ?_)
       obtain rfl := so hh
       exact rq [4] ⟨z, z, z⟩
      ·refine TC.skip (B.n (S.n (TC.region (TL.i z z (TL.w z (OpVal.succ z z z (by omega)) (TL.i z z (TL.en ?_)))))))
       obtain ⟨hh, hlt114⟩ := nxt_x hR1 hh
       exact lf ((k111 + 1), ()) hlt114 hh (Sub.f [1, 1] 2)
     ·refine TC.exit (S.x (S.x ?_))
      replace hh := fin_x hR1 hh
      refine TC.exitHere (S.n (TC.a (TL.j z z (TL.en (TC.rt 0 ?_)))))
      obtain rfl := so hh
      exact rq [4] ⟨z, z, z⟩

end Go.Proofs.YtcfjjckencjjeaaGreatDoor
end

/- OnceG -/
section
/- Things in order, each once: plain lemmas, no condition. -/
set_option linter.unusedVariables false
set_option linter.unusedSimpArgs false
namespace Go.Proofs.YtcfjjckencjjeaaGreatDoor
open Go Go.E
set_option maxRecDepth 100000
set_option linter.unusedSectionVars false

section
variable {α : Type} [DecidableEq α] (d : α)
/-- Without what stands twice in a row: among the first n. -/
def ddN (l : List α) : Nat → List α
  | 0 => []
  | n + 1 => ddN l n ++ (if n = 0 ∨ nth l n d ≠ nth l (n - 1) d then [nth l n d] else [])
theorem mem_ddN (l : List α) : ∀ n, n ≤ l.length → ∀ x, x ∈ ddN d l n ↔ x ∈ l.take n
  | 0, _, x => by simp [ddN]
  | n + 1, h, x => by
    rw [ddN, take_snoc l (by omega) d, List.mem_append, List.mem_append, mem_ddN l n (by omega)]
    by_cases hc : n = 0 ∨ nth l n d ≠ nth l (n - 1) d
    · rw [if_pos hc]
    · rw [if_neg hc]
      simp only [not_or, ne_eq, Decidable.not_not] at hc
      have : nth l n d ∈ l.take n := by
        rw [hc.2]
        have h1 : (l.take n)[n - 1]? = some (nth l (n - 1) d) := by rw [List.getElem?_take, if_pos (by omega)]; exact getD_some l (by omega) d
        exact List.mem_of_getElem? h1
      constructor
      · rintro (h | h)
        · exact .inl h
        · cases h
      · rintro (h | h)
        · exact .inl h
        · rw [List.mem_singleton.1 h]; exact .inl this
theorem nth_set_ne {l : List α} {k i : Nat} {v : α} (h : i ≠ k) : nth (l.set k v) i d = nth l i d := by
  simp [nth, List.getD, List.getElem?_set, Ne.symm h]
include d in
theorem take_set_succ {l : List α} {k : Nat} {v : α} (h : k < l.length) : (l.set k v).take (k + 1) = l.take k ++ [v] := by
  rw [take_snoc (l.set k v) (by simpa using h) d]
  congr 1
  · rw [List.take_set_of_le (Nat.le_refl _)]
  · simp [nth, List.getD, h]

noncomputable def gC_j (k125 : Nat) (l128 : List α) (k130 : Nat) : Option ((List α × Nat × Nat) ⊕ (Nat ⊕ List α)) :=
  nxt (l128, k130, (k125 + 1))
noncomputable def gC_b2 (x0 : List α) (k105 : Nat) (l122 : List α) (k124 : Nat) (k125 : Nat) : Option ((List α × Nat × Nat) ⊕ (Nat ⊕ List α)) :=
  iteO (decide (((k125 : Nat) : Int) < (((x0.length - k105) : Nat) : Int))) (grd (k125 < (x0.length - k105)) (grd (0 ≤ (IntKind.i64.wrap (((k125 : Nat) : Int) - 1)) ∧ (IntKind.i64.wrap (((k125 : Nat) : Int) - 1)) < ((x0.length - k105) : Nat)) (iteO (decide (¬ ((nth l122 (k105 + k125) d) = (nth l122 (k105 + (IntKind.i64.wrap (((k125 : Nat) : Int) - 1)).toNat) d)))) (grd (k125 < (x0.length - k105)) (grd (k124 < l122.length) (gC_j k125 (l122.set k124 (nth l122 (k105 + k125) d)) (k124 + 1)))) (gC_j k125 l122 k124)))) (fin (grd (k124 ≤ x0.length) (grd (k124 ≤ (l122.take k124 ++ List.replicate (l122.length - k124) d).length) (fin (some ((l122.take k124 ++ List.replicate (l122.length - k124) d).take k124))))))
noncomputable def gC_b1 (x0 : List α) (k105 : Nat) : Option ((Nat) ⊕ (List α)) :=
  iteO (decide (((k105 : Nat) : Int) < ((x0.length : Nat) : Int))) (grd (0 ≤ (IntKind.i64.wrap (((k105 : Nat) : Int) - 1)) ∧ (IntKind.i64.wrap (((k105 : Nat) : Int) - 1)) < (x0.length : Int)) (iteO (decide ((nth x0 k105 d) = (nth x0 ((IntKind.i64.wrap (((k105 : Nat) : Int) - 1)).toNat) d))) (grd (k105 ≤ x0.length) (iter (fun q : (List α) × Nat × Nat => gC_b2 d x0 k105 q.1 q.2.1 q.2.2) (x0, k105, 1))) (nxt (k105 + 1)))) (fin (some x0))
noncomputable def gC (x0 : List α) : Option (List α) :=
  iteO (decide (((x0.length : Nat) : Int) < 2)) (some x0) (iter (fun q : Nat => gC_b1 d x0 q) 1)

theorem wrap_pred {k : Nat} (h1 : 1 ≤ k) (h2 : k ≤ 281474976710656) : IntKind.i64.wrap ((k : Int) - 1) = ((k - 1 : Nat) : Int) := by
  rw [wrap64_of (by omega) (by omega)]; omega
theorem gC_in {l : List α} (hl : l.length ≤ 281474976710656) {k0 : Nat} (h0 : 1 ≤ k0) (hk : k0 < l.length) (he : nth l k0 d = nth l (k0 - 1) d) (hd : ddN d l k0 = l.take k0) :
    iter (fun q : (List α) × Nat × Nat => gC_b2 d l k0 q.1 q.2.1 q.2.2) (l, k0, 1) = some (.inr (ddN d l l.length)) := by
  refine Exists.elim (iter_run (step := fun q : (List α) × Nat × Nat => gC_b2 d l k0 q.1 q.2.1 q.2.2)
    (fun q => 1 ≤ q.2.2 ∧ k0 + q.2.2 ≤ l.length ∧ q.1.length = l.length ∧ q.2.1 ≤ k0 + q.2.2 - 1 ∧ (∀ i, k0 + q.2.2 - 1 ≤ i → nth q.1 i d = nth l i d) ∧ q.1.take q.2.1 = ddN d l (k0 + q.2.2))
    (fun r => r = .inr (ddN d l l.length)) (fun q => l.length - q.2.2) ?_ (l, k0, 1) ⟨Nat.le_refl _, hk, rfl, by simp only; omega, fun _ _ => rfl, ?_⟩) (fun r hr => by rw [hr.1, hr.2])
  · rintro ⟨l2, k, j⟩ ⟨hj, hjl, hlen, hkj, hI, ht⟩
    simp only at hj hjl hlen hkj hI ht
    have hw : IntKind.i64.wrap ((j : Int) - 1) = ((j - 1 : Nat) : Int) := wrap_pred hj (by omega)
    by_cases hlt : k0 + j < l.length
    · left
      have e1 := hI (k0 + j) (by omega)
      have e2 := hI (k0 + (j - 1)) (by omega)
      simp only [gC_b2, hw, Int.toNat_natCast, decide_eq_true (show ((j : Nat) : Int) < ((l.length - k0 : Nat) : Int) by omega), iteO_true,
        grd_mk (show j < l.length - k0 by omega), grd_mk (show (0 : Int) ≤ ((j - 1 : Nat) : Int) ∧ ((j - 1 : Nat) : Int) < ((l.length - k0 : Nat) : Int) by omega), e1, e2]
      have e3 : k0 + (j - 1) = k0 + j - 1 := by omega
      by_cases hc : nth l (k0 + j) d = nth l (k0 + (j - 1)) d
      · simp only [hc, not_true_eq_false, decide_false, iteO_false, gC_j]
        refine ⟨_, rfl, ⟨by simp only; omega, by simp only; omega, hlen, by simp only; omega, fun i hi => hI i (by simp only at hi; omega), ?_⟩, by simp only; omega⟩
        simp only
        rw [ht, ← Nat.add_assoc, ddN, if_neg, List.append_nil]
        rw [hc, e3]; simp; omega
      · simp only [hc, not_false_eq_true, decide_true, iteO_true, grd_mk (show k < l2.length by omega), gC_j]
        refine ⟨_, rfl, ⟨by simp only; omega, by simp only; omega, by simp only [List.length_set]; exact hlen, by simp only; omega, fun i hi => ?_, ?_⟩, by simp only; omega⟩
        · simp only at hi ⊢
          rw [nth_set_ne d (by omega)]; exact hI i (by omega)
        · simp only
          rw [take_set_succ d (by omega), ht, ← Nat.add_assoc, ddN, if_pos]
          rw [e3] at hc; exact .inr hc
    · right
      have hjl' : k0 + j = l.length := by omega
      have hkl : (l2.take k).length = k := by rw [List.length_take]; omega
      refine ⟨.inr (ddN d l l.length), ?_, rfl⟩
      simp only [gC_b2, decide_eq_false (show ¬ ((j : Nat) : Int) < ((l.length - k0 : Nat) : Int) by omega), iteO_false, grd_mk (show k ≤ l.length by omega)]
      rw [grd_mk (by rw [List.length_append, hkl]; omega), List.take_append_of_le_length (by omega), List.take_of_length_le (by omega), ht, hjl']
      rfl
  · simp only
    rw [ddN, if_neg (by rw [he]; simp; omega), List.append_nil, hd]
theorem gC_eq {l : List α} (hl : l.length ≤ 281474976710656) : gC d l = some (ddN d l l.length) := by
  unfold gC
  by_cases h2 : l.length < 2
  · rw [decide_eq_true (by omega), iteO_true]
    match l, h2 with
    | [], _ => rfl
    | [x], _ => rfl
  · rw [decide_eq_false (by omega), iteO_false]
    refine Exists.elim (iter_run (step := fun q : Nat => gC_b1 d l q) (fun k => 1 ≤ k ∧ k ≤ l.length ∧ ddN d l k = l.take k) (fun r => r = ddN d l l.length) (fun k => l.length - k) ?_ 1 ⟨Nat.le_refl _, by omega, ?_⟩) (fun r hr => by rw [hr.1, hr.2])
    · rintro k ⟨h1, hk, hd⟩
      by_cases hlt : k < l.length
      · simp only [gC_b1, wrap_pred h1 (show k ≤ 281474976710656 by omega), Int.toNat_natCast, decide_eq_true (show ((k : Nat) : Int) < ((l.length : Nat) : Int) by omega), iteO_true,
          grd_mk (show (0 : Int) ≤ ((k - 1 : Nat) : Int) ∧ ((k - 1 : Nat) : Int) < (l.length : Int) by omega)]
        by_cases hc : nth l k d = nth l (k - 1) d
        · right
          simp only [hc, decide_true, iteO_true, grd_mk hk]
          exact ⟨_, gC_in d hl h1 hlt hc hd, rfl⟩
        · left
          simp only [hc, decide_false, iteO_false]
          refine ⟨k + 1, rfl, ⟨by omega, by omega, ?_⟩, by omega⟩
          rw [ddN, if_pos (.inr hc), hd, take_snoc l hlt d]
      · right
        have : k = l.length := by omega
        refine ⟨l, ?_, ?_⟩
        · simp only [gC_b1, decide_eq_false (show ¬ ((k : Nat) : Int) < ((l.length : Nat) : Int) by omega), iteO_false]; rfl
        · rw [← this, hd, List.take_of_length_le (by omega)]
    · rw [ddN, if_pos (.inl rfl), take_snoc l (by omega) d]; simp [ddN]
end

/-- In order, each once. -/
def onceL {α : Type} [DecidableEq α] (d : α) (cf : α → α → Int) (l : List α) : List α := ddN d (sortL cf l) l.length
section
variable {α : Type} [DecidableEq α] {d : α} {cf : α → α → Int}
theorem sortL_len (l : List α) : (sortL cf l).length = l.length := List.length_mergeSort _
theorem mem_onceL {l : List α} {x : α} : x ∈ onceL d cf l ↔ x ∈ l := by
  have h := sortL_len (cf := cf) l
  rw [onceL, mem_ddN d _ _ (by omega), List.take_of_length_le (by omega), sortL, List.mem_mergeSort]
theorem GoodCmp.le_trans (hc : GoodCmp cf) {x y z : α} (h1 : ¬ cf y x < 0) (h2 : ¬ cf z y < 0) : ¬ cf z x < 0 := fun h3 => by
  by_cases e : x = y
  · subst e; exact h2 h3
  · by_cases e' : y = z
    · subst e'; exact h1 h3
    · have a := hc.anti y x; have b := hc.anti z y; have a' := hc.eq y x; have b' := hc.eq z y
      have h4 : cf y z < 0 := by
        rw [hc.anti]
        have : cf z y ≠ 0 := fun h => e' ((b'.1 h).symm)
        omega
      exact h1 (hc.trans _ _ _ h4 h3)
theorem sortL_sorted (hc : GoodCmp cf) (l : List α) : (sortL cf l).Pairwise fun x y => ¬ cf y x < 0 := by
  have := List.pairwise_mergeSort (le := fun x y => !decide (cf y x < 0)) (fun a b c h1 h2 => by
    simp only [Bool.not_eq_true', decide_eq_false_iff_not] at *
    exact hc.le_trans h1 h2) (fun a b => by
    have := hc.anti a b
    simp only [Bool.or_eq_true, Bool.not_eq_true', decide_eq_false_iff_not]; omega) l
  exact this.imp fun h => by simpa using h
theorem sorted_onceL (hc : GoodCmp cf) (l : List α) : (onceL d cf l).Pairwise fun x y => cf x y < 0 := by
  have hs := sortL_sorted hc l
  have hlen := sortL_len (cf := cf) l
  unfold onceL
  generalize sortL cf l = s at hs hlen
  have key : ∀ n, n ≤ s.length → (ddN d s n).Pairwise fun x y => cf x y < 0 := by
    intro n
    induction n with
    | zero => intro _; exact List.Pairwise.nil
    | succ n ih =>
      intro h
      rw [ddN]
      split
      · rename_i hn
        rw [List.pairwise_append]
        refine ⟨ih (by omega), List.pairwise_singleton .., fun x hx y hy => ?_⟩
        rw [List.mem_singleton.1 hy]
        rw [mem_ddN d s n (by omega)] at hx
        have hn0 : n ≠ 0 := fun e => by subst e; simp at hx
        have hne : nth s n d ≠ nth s (n - 1) d := by rcases hn with h | h; exact absurd h hn0; exact h
        obtain ⟨i, hi, hxi⟩ := List.mem_iff_getElem.1 hx
        have hi' : i < n := by simp at hi; omega
        have hxi : s[i]'(by omega) = x := by rw [← hxi, List.getElem_take]
        have hp := List.pairwise_iff_getElem.1 hs
        have eN : ∀ {k : Nat} (hk : k < s.length), nth s k d = s[k] := fun hk => by simp [nth, List.getD, hk]
        rw [eN (by omega), eN (by omega)] at hne
        rw [eN (by omega)]
        have h1 : cf (s[n - 1]'(by omega)) (s[n]'(by omega)) < 0 := by
          have := hp (n - 1) n (by omega) (by omega) (by omega)
          have a := hc.anti (s[n - 1]'(by omega)) (s[n]'(by omega))
          have b := hc.eq (s[n]'(by omega)) (s[n - 1]'(by omega))
          have : cf (s[n]'(by omega)) (s[n - 1]'(by omega)) ≠ 0 := fun h => hne (b.1 h)
          omega
        by_cases hin : i = n - 1
        · subst hin; rw [← hxi]; exact h1
        · have h2 := hp i (n - 1) (by omega) (by omega) (by omega)
          rw [hxi] at h2
          by_cases e : x = s[n - 1]'(by omega)
          · rw [e]; exact h1
          · refine hc.trans _ _ _ ?_ h1
            have a := hc.anti x (s[n - 1]'(by omega))
            have b := hc.eq (s[n - 1]'(by omega)) x
            have : cf (s[n - 1]'(by omega)) x ≠ 0 := fun h => e (b.1 h).symm
            omega
      · rw [List.append_nil]; exact ih (by omega)
  exact key _ (by omega)
/-- Rows that rise, of the same things, are the same. -/
theorem rising_ext {R : α → α → Prop} (hi : ∀ x, ¬ R x x) (ht : ∀ x y z, R x y → R y z → R x z) : ∀ {l m : List α}, l.Pairwise R → m.Pairwise R → (∀ x, x ∈ l ↔ x ∈ m) → l = m
  | [], [], _, _, _ => rfl
  | [], y :: m, _, _, h => by have := (h y).2 (List.mem_cons_self ..); cases this
  | x :: l, [], _, _, h => by have := (h x).1 (List.mem_cons_self ..); cases this
  | x :: l, y :: m, hl, hm, h => by
    rw [List.pairwise_cons] at hl hm
    have e : x = y := by
      have h1 := (h x).1 (List.mem_cons_self ..)
      have h2 := (h y).2 (List.mem_cons_self ..)
      rw [List.mem_cons] at h1 h2
      rcases h1 with h1 | h1
      · exact h1
      · rcases h2 with h2 | h2
        · exact h2.symm
        · exact absurd (ht _ _ _ (hm.1 x h1) (hl.1 y h2)) (hi y)
    subst e
    rw [rising_ext hi ht hl.2 hm.2 fun z => ?_]
    have := h z
    simp only [List.mem_cons] at this
    constructor
    · intro hz
      rcases this.1 (.inr hz) with e | h'
      · subst e; exact absurd (hl.1 z hz) (hi z)
      · exact h'
    · intro hz
      rcases this.2 (.inr hz) with e | h'
      · subst e; exact absurd (hm.1 z hz) (hi z)
      · exact h'
theorem GoodCmp.irr (hc : GoodCmp cf) (x : α) : ¬ cf x x < 0 := by have := (hc.eq x x).2 rfl; omega
theorem rising_eq (hc : GoodCmp cf) {l m : List α} (hl : l.Pairwise fun x y => cf x y < 0) (hm : m.Pairwise fun x y => cf x y < 0) (h : ∀ x, x ∈ l ↔ x ∈ m) : l = m :=
  rising_ext (R := fun x y => cf x y < 0) hc.irr hc.trans hl hm h
theorem onceL_congr (hc : GoodCmp cf) {l m : List α} (h : ∀ x, x ∈ l ↔ x ∈ m) : onceL d cf l = onceL d cf m :=
  rising_eq hc (sorted_onceL hc l) (sorted_onceL hc m) fun x => by rw [mem_onceL, mem_onceL, h]
theorem onceL_of (hc : GoodCmp cf) {l : List α} (h : l.Pairwise fun x y => cf x y < 0) : onceL d cf l = l := rising_eq hc (sorted_onceL hc l) h fun x => mem_onceL
end

end Go.Proofs.YtcfjjckencjjeaaGreatDoor
end

/- Once -/
section
/- Things in order, each once: what the program's once computes. Plain lemmas, no condition. -/
set_option linter.unusedVariables false
set_option linter.unusedSimpArgs false
namespace Go.Proofs.YtcfjjckencjjeaaGreatDoor
open Go Go.E
set_option maxRecDepth 100000

theorem compactS_g : compactS = gC ([] : List UInt8) := rfl
theorem onceS_eq {l : List (List UInt8)} (h : l.length * 16 ≤ 140737488355328) : onceS l = some (onceL [] Lib.compareBytes l) := by
  rw [onceS, grd_mk h, compactS_g, gC_eq [] (by rw [sortL_len]; omega), sortL_len]; rfl
end Go.Proofs.YtcfjjckencjjeaaGreatDoor
end

/- FMp -/
section
/- Sets of keys, as finite maps; rows by number. Plain lemmas, no condition. -/
set_option linter.unusedVariables false
set_option linter.unusedSimpArgs false
namespace Go.E
open Go
set_option linter.unusedSectionVars false
section
variable {K : Type} [DecidableEq K]
theorem len_of_sub : ∀ {l m : List K}, l.Nodup → (∀ x ∈ l, x ∈ m) → l.length ≤ m.length
  | [], m, _, _ => Nat.zero_le _
  | x :: l, m, hn, hs => by
    rw [List.nodup_cons] at hn
    have hx := hs x (List.mem_cons_self ..)
    have := len_of_sub (m := m.erase x) hn.2 fun y hy => by
      have h1 := hs y (List.mem_cons_of_mem _ hy)
      refine (List.mem_erase_of_ne ?_).2 h1
      intro e; subst e; exact hn.1 hy
    rw [List.length_erase_of_mem hx] at this
    have hp := List.length_pos_of_mem hx
    simp only [List.length_cons]; omega
/-- The set of some keys. -/
def FM.ofL (S : List K) : FM K Unit := S.foldl (fun m k => m.put k ()) FM.emp
theorem FM.ofL_snoc (S : List K) (k : K) : FM.ofL (S ++ [k]) = (FM.ofL S).put k () := by simp [FM.ofL]
theorem FM.ofL_f (S : List K) (x : K) : (FM.ofL S).f x = if x ∈ S then some () else none := by
  have key : ∀ (S : List K) (m : FM K Unit), (S.foldl (fun m k => m.put k ()) m).f x = if x ∈ S then some () else m.f x := by
    intro S
    induction S with
    | nil => intro m; simp
    | cons y S ih =>
      intro m
      rw [List.foldl_cons, ih]
      by_cases h : x ∈ S
      · simp [h]
      · by_cases e : x = y
        · subst e; simp [FM.put]
        · simp [h, FM.put, e]
  rw [FM.ofL, key]; rfl
/-- How many. -/
def card (S : List K) : Nat := (FM.ofL S).n
theorem rev_ind {p : List K → Prop} (h0 : p []) (h1 : ∀ l x, p l → p (l ++ [x])) (l : List K) : p l := by
  have : ∀ m : List K, p m.reverse := fun m => by
    induction m with
    | nil => exact h0
    | cons x m ih => rw [List.reverse_cons]; exact h1 _ _ ih
  simpa using this l.reverse
theorem FM.ofL_len (S : List K) : ∃ l : List K, l.Nodup ∧ (∀ x, x ∈ l ↔ x ∈ S) ∧ l.length = card S := by
  induction S using rev_ind with
  | h0 => exact ⟨[], List.nodup_nil, by simp, rfl⟩
  | h1 S k ih =>
    obtain ⟨l, h1, h2, h3⟩ := ih
    have hf := FM.ofL_f S k
    by_cases hk : k ∈ S
    · refine ⟨l, h1, fun x => ?_, ?_⟩
      · rw [h2, List.mem_append, List.mem_singleton]
        constructor
        · exact .inl
        · rintro (h | rfl)
          · exact h
          · exact hk
      · rw [h3, card, card, FM.ofL_snoc, FM.put]; simp [hf, hk]
    · refine ⟨l ++ [k], ?_, fun x => by rw [List.mem_append, List.mem_append, h2], ?_⟩
      · rw [List.nodup_append]
        exact ⟨h1, by simp, fun x hx y hy => by
          rw [List.mem_singleton] at hy; subst hy
          intro e; subst e; exact hk ((h2 _).1 hx)⟩
      · rw [List.length_append, h3, card, card, FM.ofL_snoc, FM.put]; simp [hf, hk]
theorem card_mono {S T : List K} (h : ∀ x ∈ S, x ∈ T) : card S ≤ card T := by
  obtain ⟨l, h1, h2, h3⟩ := FM.ofL_len S
  obtain ⟨m, _, h5, h6⟩ := FM.ofL_len T
  rw [← h3, ← h6]
  exact len_of_sub h1 fun x hx => (h5 x).2 (h x ((h2 x).1 hx))
theorem card_congr {S T : List K} (h : ∀ x, x ∈ S ↔ x ∈ T) : card S = card T := Nat.le_antisymm (card_mono fun x hx => (h x).1 hx) (card_mono fun x hx => (h x).2 hx)
theorem card_le (S : List K) : card S ≤ S.length := by
  obtain ⟨l, h1, h2, h3⟩ := FM.ofL_len S
  rw [← h3]; exact len_of_sub h1 fun x hx => (h2 x).1 hx
theorem FM.ofL_congr {S T : List K} (h : ∀ x, x ∈ S ↔ x ∈ T) : FM.ofL S = FM.ofL T := by
  have e1 : (FM.ofL S).f = (FM.ofL T).f := funext fun x => by rw [FM.ofL_f, FM.ofL_f]; simp only [h]
  have e2 : (FM.ofL S).n = (FM.ofL T).n := card_congr h
  cases hS : FM.ofL S; cases hT : FM.ofL T
  rw [hS] at e1 e2; rw [hT] at e1 e2
  simp only at e1 e2
  rw [e1, e2]
theorem Rep.of_ofL {S : List K} {q : List (K × Unit)} (h : Rep q (FM.ofL S)) : (∀ z, z ∈ q ↔ z.1 ∈ S) ∧ q.length = card S := by
  refine ⟨fun z => ?_, h.len⟩
  obtain ⟨k, v⟩ := z
  rw [h.mem, FM.ofL_f]
  by_cases hk : k ∈ S <;> simp [hk]
theorem Rep.ofL (S : List K) : ∃ q : List (K × Unit), Rep q (FM.ofL S) := by
  obtain ⟨l, h1, h2, h3⟩ := FM.ofL_len S
  refine ⟨l.map fun x => (x, ()), ⟨fun k v => ?_, by rw [List.length_map, h3]; rfl, ?_⟩⟩
  · rw [FM.ofL_f, List.mem_map]
    constructor
    · rintro ⟨x, hx, e⟩
      cases e
      rw [if_pos ((h2 _).1 hx)]
    · intro h
      split at h
      · rename_i hk; exact ⟨k, (h2 k).2 hk, rfl⟩
      · cases h
  · rw [List.map_map, show (Prod.fst ∘ fun x : K => (x, ())) = id from rfl, List.map_id]; exact h1
end

section
variable {β γ : Type}
/-- Rows of what bears a number. -/
structure Grp (key : β → Int) (val : β → γ) (n : Nat) (l : List (List γ)) (xs : List β) : Prop where
  len : l.length = n
  row : ∀ i, i < n → nth l i [] = (xs.filter fun x => decide (key x = (i : Int))).map val
theorem Grp.nil (key : β → Int) (val : β → γ) (n : Nat) : Grp key val n (List.replicate n []) [] := ⟨List.length_replicate .., fun i hi => by simp [nth, List.getD, List.getElem?_replicate, hi]⟩
theorem Grp.snoc {key : β → Int} {val : β → γ} {n : Nat} {l : List (List γ)} {xs : List β} (h : Grp key val n l xs) {x : β} (h0 : 0 ≤ key x) (h1 : key x < n) :
    Grp key val n (l.set (key x).toNat (nth l (key x).toNat [] ++ [val x])) (xs ++ [x]) := by
  refine ⟨by rw [List.length_set]; exact h.len, fun i hi => ?_⟩
  rw [List.filter_append, List.map_append, ← h.row i hi]
  by_cases e : i = (key x).toNat
  · subst e
    have : key x = ((key x).toNat : Int) := by omega
    have hl := h.len
    rw [show nth (l.set (key x).toNat (nth l (key x).toNat [] ++ [val x])) (key x).toNat [] = nth l (key x).toNat [] ++ [val x] from by simp [nth, List.getD, hl, hi]]
    simp [this.symm]
  · have hne : ¬ key x = (i : Int) := by omega
    rw [show nth (l.set (key x).toNat (nth l (key x).toNat [] ++ [val x])) i [] = nth l i [] from by simp [nth, List.getD, List.getElem?_set, Ne.symm e]]
    simp [hne]
theorem Grp.at {key : β → Int} {val : β → γ} {n : Nat} {l : List (List γ)} {xs : List β} (h : Grp key val n l xs) {s : Int} (h0 : 0 ≤ s) (h1 : s < n) : nth l s.toNat [] = (xs.filter fun x => decide (key x = s)).map val := by
  rw [h.row _ (by omega)]
  have : ((s.toNat : Nat) : Int) = s := by omega
  simp only [this]
/-- Rounds that look at each thing in turn. -/
theorem iter_all {α R : Type} {step : Nat → Option (Nat ⊕ R)} {y no : R} (l : List α) (d : α) (p : α → Bool) (hs : ∀ k, k < l.length → p (nth l k d) = true → step k = some (.inl (k + 1)))
    (hn : ∀ k, k < l.length → p (nth l k d) = false → step k = some (.inr no)) (hd : step l.length = some (.inr y)) : iter step 0 = some (if l.all p then y else no) := by
  have h := iter_any0 (step := step) (y := no) (no := y) (fun k => k) (fun k => !p (nth l k d)) l.length (fun k hk hp => hs k hk (by simpa using hp)) (fun k hk hp => hn k hk (by simpa using hp)) hd
  rw [h, range_any l d (fun x => !p x)]
  by_cases ha : l.all p = true
  · have : (l.any fun x => !p x) = false := by rw [List.any_eq_false]; intro x hx; have := (List.all_eq_true.1 ha) x hx; simp [this]
    rw [this, ha]; rfl
  · have : (l.any fun x => !p x) = true := by
      rw [Bool.not_eq_true, List.all_eq_false] at ha
      obtain ⟨x, hx, h⟩ := ha
      exact List.any_eq_true.2 ⟨x, hx, by simpa using h⟩
    rw [this]; simp only [cond_true]; rw [if_neg ha]
/-- Rounds that gather. -/
theorem iter_fold {α S R : Type} {step : S × Nat → Option ((S × Nat) ⊕ R)} {r : R} (l : List α) (d : α) (f : Nat → S) (hs : ∀ k, k < l.length → step (f k, k) = some (.inl (f (k + 1), k + 1))) (hd : step (f l.length, l.length) = some (.inr r)) :
    iter step (f 0, 0) = some r := iter_seq0 (fun k => (f k, k)) l.length hs hd
end
end Go.E
end

/- FstP -/
section
/- What the program says of a transducer. Plain lemmas, no condition. -/
set_option linter.unusedVariables false
set_option linter.unusedSimpArgs false
namespace Go.Proofs.YtcfjjckencjjeaaGreatDoor
open Go Go.E
set_option maxRecDepth 100000

/-! ### Right, or not -/
def tipB (n : Int) (p : Tip) : Bool := decide (0 ≤ p.state) && decide (p.state < n) && decide ((p.out.length : Int) ≤ 1024)
def tipsB (l : List Tip) (n : Int) : Bool := decide ((l.length : Int) ≤ 1024) && l.all (tipB n)
def arcB (n : Int) (a : Arc) : Bool := decide (0 ≤ a.frm) && decide (a.frm < n) && decide (0 ≤ a.to) && decide (a.to < n) && decide (a.set ≠ BSet.zero) && decide ((a.out.length : Int) ≤ 1024)
def fstB (t : Fst) : Bool := decide (0 ≤ t.states) && decide (t.states ≤ 1024) && decide ((t.arcs.length : Int) ≤ 16384) && tipsB t.starts t.states && tipsB t.ends t.states && t.arcs.all (arcB t.states)
theorem fst_state_eq (s n : Int) : fst_state s n = some (decide (0 ≤ s) && decide (s < n)) := by
  unfold fst_state
  by_cases h : 0 ≤ s <;> simp [h]
theorem rightTips_eq (l : List Tip) (n : Int) : fst_rightTips l n = some (tipsB l n) := by
  unfold fst_rightTips tipsB
  by_cases h : (l.length : Int) ≤ 1024
  · rw [decide_eq_false (by omega), iteO_false, iter_all (y := true) (no := false) l Tip.zero (tipB n)]
    · rw [decide_eq_true h, Bool.true_and]; cases l.all (tipB n) <;> rfl
    · intro k hk hp
      simp only [tipB, Bool.and_eq_true, decide_eq_true_eq] at hp
      simp only [fst_rightTips_b1, lt_dec hk, iteO_true, fst_state_eq, bnd, Option.bind_some, hp.1.1, hp.1.2, decide_true, Bool.and_self, Bool.not_true, iteO_false, decide_eq_false (show ¬ (1024 : Int) < ((nth l k Tip.zero).out.length : Int) by omega)]; rfl
    · intro k hk hp
      simp only [fst_rightTips_b1, lt_dec hk, iteO_true, fst_state_eq, bnd, Option.bind_some]
      by_cases hc : (decide (0 ≤ (nth l k Tip.zero).state) && decide ((nth l k Tip.zero).state < n)) = true
      · rw [hc]
        simp only [tipB, hc, Bool.true_and, decide_eq_false_iff_not] at hp
        simp only [Bool.not_true, iteO_false, decide_eq_true (show (1024 : Int) < ((nth l k Tip.zero).out.length : Int) by omega), iteO_true]; rfl
      · simp only [Bool.not_eq_true] at hc
        rw [hc]; rfl
    · simp only [fst_rightTips_b1, Int.lt_irrefl, decide_false, iteO_false]; rfl
  · rw [decide_eq_true (by omega), iteO_true]; simp [h]
theorem fst_Check_eq (t : Fst) : fst_Check t = some (errB (fstB t)) := by
  unfold fst_Check
  by_cases h1 : t.states < 0
  · rw [decide_eq_true h1, iteO_true]; simp [fstB, errB, show ¬ 0 ≤ t.states by omega]
  rw [decide_eq_false h1, iteO_false]
  by_cases h2 : 1024 < t.states
  · rw [decide_eq_true h2, iteO_true]; simp [fstB, errB, show ¬ t.states ≤ 1024 by omega]
  rw [decide_eq_false h2, iteO_false]
  by_cases h3 : (16384 : Int) < (t.arcs.length : Int)
  · rw [decide_eq_true h3, iteO_true]; simp only [fstB, decide_eq_false (show ¬ (t.arcs.length : Int) ≤ 16384 by omega), Bool.and_false, Bool.false_and]; rfl
  rw [decide_eq_false h3, iteO_false, rightTips_eq, bnd, Option.bind_some]
  have e0 : fstB t = (tipsB t.starts t.states && tipsB t.ends t.states && t.arcs.all (arcB t.states)) := by
    simp only [fstB, decide_eq_true (show 0 ≤ t.states by omega), decide_eq_true (show t.states ≤ 1024 by omega), decide_eq_true (show (t.arcs.length : Int) ≤ 16384 by omega), Bool.true_and]
  rw [e0]
  cases h4 : tipsB t.starts t.states
  · rfl
  simp only [Bool.not_true, iteO_false, rightTips_eq, bnd, Option.bind_some]
  cases h5 : tipsB t.ends t.states
  · rfl
  simp only [Bool.not_true, iteO_false, Bool.and_self, Bool.true_and]
  rw [iter_all (y := 0) (no := 1) t.arcs Arc.zero (arcB t.states)]
  · rfl
  · intro k hk hp
    simp only [arcB, Bool.and_eq_true, decide_eq_true_eq] at hp
    obtain ⟨⟨⟨⟨⟨p1, p2⟩, p3⟩, p4⟩, p5⟩, p6⟩ := hp
    simp only [fst_Check_b1, lt_dec hk, iteO_true, fst_state_eq, bnd, Option.bind_some, p1, p2, p3, p4, p5, decide_true, decide_false, Bool.and_self, Bool.not_true, iteO_false, decide_eq_false (show ¬ (1024 : Int) < ((nth t.arcs k Arc.zero).out.length : Int) by omega)]; rfl
  · intro k hk hp
    simp only [fst_Check_b1, lt_dec hk, iteO_true, fst_state_eq, bnd, Option.bind_some]
    cases hc : (decide (0 ≤ (nth t.arcs k Arc.zero).frm) && decide ((nth t.arcs k Arc.zero).frm < t.states))
    · rfl
    cases hd : (decide (0 ≤ (nth t.arcs k Arc.zero).to) && decide ((nth t.arcs k Arc.zero).to < t.states))
    · rfl
    simp only [Bool.not_true, iteO_false]
    by_cases he : (nth t.arcs k Arc.zero).set = BSet.zero
    · rw [decide_eq_true he]; rfl
    rw [decide_eq_false he, iteO_false]
    have hd' : (decide (0 ≤ (nth t.arcs k Arc.zero).frm) && decide ((nth t.arcs k Arc.zero).frm < t.states) && decide (0 ≤ (nth t.arcs k Arc.zero).to) && decide ((nth t.arcs k Arc.zero).to < t.states)) = true := by rw [Bool.and_assoc, hc, hd]; rfl
    simp only [arcB, hd', Bool.true_and, ne_eq, he, not_false_eq_true, decide_true, decide_eq_false_iff_not] at hp
    rw [decide_eq_true (by omega)]; rfl
  · simp only [fst_Check_b1, Int.lt_irrefl, decide_false, iteO_false]; rfl

theorem errB_ne {b : Bool} : decide (errB b ≠ 0) = !b := by cases b <;> rfl

/-! ### One byte more -/
def outOf (p : FPair) (a : Arc) (b : UInt8) : List UInt8 := if a.copy then (p.out ++ a.out) ++ [b] else p.out ++ a.out
def aftA (g : List Arc) (p : FPair) (b : UInt8) : List FPair := (g.filter fun a => a.set.has b.toNat).map fun a => ⟨a.to, outOf p a b⟩
def aftP (t : Fst) (S : List FPair) (b : UInt8) : List FPair := S.flatMap fun p => aftA (t.arcs.filter fun a => decide (a.frm = p.state)) p b
def tp (x : Tip) : FPair := ⟨x.state, x.out⟩
def pairsL (t : Fst) (w : List UInt8) : List FPair := w.foldl (aftP t) (t.starts.map tp)
def fitsB (t : Fst) (w : List UInt8) : Bool := (List.range w.length).all fun k => decide (card (pairsL t (w.take (k + 1))) ≤ 4096)
def endT (t : Fst) (S : List FPair) : List (List UInt8) := S.flatMap fun p => ((t.ends.filter fun e => decide (e.state = p.state)).map Tip.out).map fun o => p.out ++ o
def outsL (t : Fst) (w : List UInt8) : List (List UInt8) := onceL [] Lib.compareBytes (endT t (pairsL t w))
theorem mem_aftA {g : List Arc} {p q : FPair} {b : UInt8} : q ∈ aftA g p b ↔ ∃ a ∈ g, a.set.has b.toNat = true ∧ q = ⟨a.to, outOf p a b⟩ := by
  simp only [aftA, List.mem_map, List.mem_filter]
  constructor
  · rintro ⟨a, ⟨h1, h2⟩, h3⟩; exact ⟨a, h1, h2, h3.symm⟩
  · rintro ⟨a, h1, h2, h3⟩; exact ⟨a, ⟨h1, h2⟩, h3.symm⟩
theorem mem_aftP {t : Fst} {S : List FPair} {b : UInt8} {q : FPair} : q ∈ aftP t S b ↔ ∃ p ∈ S, ∃ a ∈ t.arcs, a.frm = p.state ∧ a.set.has b.toNat = true ∧ q = ⟨a.to, outOf p a b⟩ := by
  simp only [aftP, List.mem_flatMap, mem_aftA, List.mem_filter, decide_eq_true_eq]
  constructor
  · rintro ⟨p, h1, a, ⟨h2, h3⟩, h4, h5⟩; exact ⟨p, h1, a, h2, h3, h4, h5⟩
  · rintro ⟨p, h1, a, h2, h3, h4, h5⟩; exact ⟨p, h1, a, ⟨h2, h3⟩, h4, h5⟩
theorem aftA_snoc (g : List Arc) (a : Arc) (p : FPair) (b : UInt8) : aftA (g ++ [a]) p b = aftA g p b ++ (if a.set.has b.toNat then [⟨a.to, outOf p a b⟩] else []) := by
  rw [aftA, List.filter_append, List.map_append]
  cases h : a.set.has b.toNat <;> simp [aftA, h]
theorem b2_step (x0 : List (List Arc)) (z : FPair × Unit) (b : UInt8) (S : List FPair) (hS : card S ≤ 4096) (hz : z.1.out.length ≤ 100000000) (hg : ∀ a ∈ nth x0 z.1.state.toNat [], a.out.length ≤ 1024) :
    iter (fun q : (FM FPair Unit) × Nat => fst_step_b2 x0 z b q.1 q.2) (FM.ofL S, 0) =
      some (if card (S ++ aftA (nth x0 z.1.state.toNat []) z.1 b) ≤ 4096 then .inl (FM.ofL (S ++ aftA (nth x0 z.1.state.toNat []) z.1 b)) else .inr (FM.emp, false)) := by
  generalize hgd : nth x0 z.1.state.toNat ([] : List Arc) = g at hg
  refine Exists.elim (iter_run (step := fun q : (FM FPair Unit) × Nat => fst_step_b2 x0 z b q.1 q.2)
    (fun q => q.2 ≤ g.length ∧ q.1 = FM.ofL (S ++ aftA (g.take q.2) z.1 b) ∧ card (S ++ aftA (g.take q.2) z.1 b) ≤ 4096)
    (fun r => r = if card (S ++ aftA g z.1 b) ≤ 4096 then .inl (FM.ofL (S ++ aftA g z.1 b)) else .inr (FM.emp, false)) (fun q => g.length - q.2) ?_ (FM.ofL S, 0) ⟨Nat.zero_le _, by simp [aftA], by simpa [aftA] using hS⟩) (fun r hr => by rw [hr.1, hr.2])
  rintro ⟨m, k⟩ ⟨hk, hm, hc⟩
  simp only at hk hm hc
  subst hm
  by_cases hlt : k < g.length
  · have hmem : nth g k Arc.zero ∈ g := nth_mem' hlt _
    have ho := hg _ hmem
    have hsn : aftA (g.take (k + 1)) z.1 b = aftA (g.take k) z.1 b ++ (if (nth g k Arc.zero).set.has b.toNat then [⟨(nth g k Arc.zero).to, outOf z.1 (nth g k Arc.zero) b⟩] else []) := by rw [take_snoc g hlt Arc.zero, aftA_snoc]
    cases hh : (nth g k Arc.zero).set.has b.toNat
    · left
      rw [hh] at hsn
      refine ⟨(FM.ofL (S ++ aftA (g.take k) z.1 b), k + 1), ?_, ⟨by simp only; omega, by simp only [hsn]; simp, by simp only [hsn]; simpa using hc⟩, by simp only; omega⟩
      simp only [fst_step_b2, hgd, lt_dec hlt, iteO_true, hh, Bool.not_false]; rfl
    · rw [hh] at hsn
      simp only [if_true] at hsn
      have hout : fst_step_b2 x0 z b (FM.ofL (S ++ aftA (g.take k) z.1 b)) k = fst_step_j2 (FM.ofL (S ++ aftA (g.take k) z.1 b)) x0 z k (outOf z.1 (nth g k Arc.zero) b) := by
        simp only [fst_step_b2, hgd, lt_dec hlt, iteO_true, hh, Bool.not_true, iteO_false]
        rw [grd_mk (by omega)]
        unfold outOf
        cases (nth g k Arc.zero).copy
        · simp
        · simp only [iteO_true, if_true]
          rw [grd_mk (by simp only [List.length_append, List.length_singleton]; omega)]
      have hput : FM.put (FM.ofL (S ++ aftA (g.take k) z.1 b)) (⟨(nth g k Arc.zero).to, outOf z.1 (nth g k Arc.zero) b⟩ : FPair) () = FM.ofL (S ++ aftA (g.take (k + 1)) z.1 b) := by rw [← FM.ofL_snoc, hsn, List.append_assoc]
      simp only [hout, fst_step_j2, hgd, hput]
      by_cases hbig : card (S ++ aftA (g.take (k + 1)) z.1 b) ≤ 4096
      · left
        refine ⟨(FM.ofL (S ++ aftA (g.take (k + 1)) z.1 b), k + 1), ?_, ⟨by simp only; omega, rfl, hbig⟩, by simp only; omega⟩
        rw [decide_eq_false (by unfold card at hbig; omega), iteO_false]; rfl
      · right
        refine ⟨.inr (FM.emp, false), ?_, ?_⟩
        · rw [decide_eq_true (by unfold card at hbig; omega), iteO_true]; rfl
        · rw [if_neg]
          have : card (S ++ aftA (g.take (k + 1)) z.1 b) ≤ card (S ++ aftA g z.1 b) := card_mono fun x hx => by
            rw [List.mem_append] at *
            refine hx.imp id fun hx => ?_
            rw [mem_aftA] at *
            obtain ⟨a, h1, h2⟩ := hx
            exact ⟨a, List.mem_of_mem_take h1, h2⟩
          omega
  · right
    have e : g.take k = g := List.take_of_length_le (by omega)
    rw [e] at hc ⊢
    rw [if_pos hc]
    refine ⟨_, ?_, rfl⟩
    simp only [fst_step_b2, hgd, decide_eq_false (show ¬ ((k : Nat) : Int) < ((g.length : Nat) : Int) by omega), iteO_false]; rfl
def aftG (x0 : List (List Arc)) (S : List FPair) (b : UInt8) : List FPair := S.flatMap fun p => aftA (nth x0 p.state.toNat []) p b
theorem step_run (x0 : List (List Arc)) (b : UInt8) (hg : ∀ i, ∀ a ∈ nth x0 i [], a.out.length ≤ 1024) : ∀ (q : List (FPair × Unit)) (T : List FPair), (∀ z ∈ q, (0 ≤ z.1.state ∧ z.1.state < (x0.length : Int)) ∧ z.1.out.length ≤ 100000000) → card T ≤ 4096 →
    runL (fun (q : (FM FPair Unit)) (oE : Option (FPair × Unit)) => fst_step_b1 x0 b q oE) q (FM.ofL T) = some (if card (T ++ aftG x0 (q.map Prod.fst) b) ≤ 4096 then (FM.ofL (T ++ aftG x0 (q.map Prod.fst) b), true) else (FM.emp, false))
  | [], T, _, hT => by
    simp only [runL, fst_step_b1, optE, fin_some, aftG, List.map_nil, List.flatMap_nil, List.append_nil, if_pos hT]
  | z :: q, T, hq, hT => by
    have hz := hq z (List.mem_cons_self ..)
    have e : T ++ aftG x0 ((z :: q).map Prod.fst) b = (T ++ aftA (nth x0 z.1.state.toNat []) z.1 b) ++ aftG x0 (q.map Prod.fst) b := by simp [aftG]
    have hst : fst_step_b1 x0 b (FM.ofL T) (some z) = some (if card (T ++ aftA (nth x0 z.1.state.toNat []) z.1 b) ≤ 4096 then .inl (FM.ofL (T ++ aftA (nth x0 z.1.state.toNat []) z.1 b)) else .inr (FM.emp, false)) := by
      simp only [fst_step_b1, optE]
      rw [grd_mk hz.1, b2_step x0 z b T hT hz.2 (hg _)]
    simp only [runL, hst]
    by_cases hc : card (T ++ aftA (nth x0 z.1.state.toNat []) z.1 b) ≤ 4096
    · rw [if_pos hc]
      simp only
      rw [step_run x0 b hg q _ (fun y hy => hq y (List.mem_cons_of_mem _ hy)) hc, e]
    · rw [if_neg hc]
      simp only
      rw [if_neg]
      rw [e]
      have := card_mono (S := T ++ aftA (nth x0 z.1.state.toNat []) z.1 b) (T := (T ++ aftA (nth x0 z.1.state.toNat []) z.1 b) ++ aftG x0 (q.map Prod.fst) b) (fun x hx => List.mem_append_left _ hx)
      omega
theorem step_eq (x0 : List (List Arc)) (b : UInt8) (S : List FPair) (hg : ∀ i, ∀ a ∈ nth x0 i [], a.out.length ≤ 1024) (hS : ∀ p ∈ S, (0 ≤ p.state ∧ p.state < (x0.length : Int)) ∧ p.out.length ≤ 100000000) :
    fst_step x0 (FM.ofL S) b = some (if card (aftG x0 S b) ≤ 4096 then (FM.ofL (aftG x0 S b), true) else (FM.emp, false)) := by
  obtain ⟨q0, hq0⟩ := Rep.ofL S
  unfold fst_step
  refine allP_i q0 hq0 fun q hq => ?_
  have h1 := (Rep.of_ofL hq).1
  have := step_run x0 b hg q [] (fun z hz => hS z.1 ((h1 z).1 hz)) (by decide)
  have hcg : ∀ x, x ∈ [] ++ aftG x0 (q.map Prod.fst) b ↔ x ∈ aftG x0 S b := fun x => by
    simp only [aftG, List.nil_append, List.mem_flatMap, List.mem_map]
    constructor
    · rintro ⟨p, ⟨z, hz, rfl⟩, h⟩; exact ⟨z.1, (h1 z).1 hz, h⟩
    · rintro ⟨p, hp, h⟩; exact ⟨p, ⟨(p, ()), (h1 (p, ())).2 hp, rfl⟩, h⟩
  rw [card_congr hcg, FM.ofL_congr hcg] at this
  exact this
end Go.Proofs.YtcfjjckencjjeaaGreatDoor
end

/- FstQ -/
section
/- What the program's Outs gives. Plain lemmas, no condition. -/
set_option linter.unusedVariables false
set_option linter.unusedSimpArgs false
namespace Go.Proofs.YtcfjjckencjjeaaGreatDoor
open Go Go.E
set_option maxRecDepth 100000

theorem tipB_ok {n : Int} {p : Tip} (h : tipB n p = true) : (0 ≤ p.state ∧ p.state < n) ∧ p.out.length ≤ 1024 := by
  simp only [tipB, Bool.and_eq_true, decide_eq_true_eq] at h; exact ⟨h.1, by omega⟩
theorem tipsB_ok {n : Int} {l : List Tip} (h : tipsB l n = true) : l.length ≤ 1024 ∧ ∀ p ∈ l, (0 ≤ p.state ∧ p.state < n) ∧ p.out.length ≤ 1024 := by
  simp only [tipsB, Bool.and_eq_true, decide_eq_true_eq, List.all_eq_true] at h
  exact ⟨by omega, fun p hp => tipB_ok (h.2 p hp)⟩
theorem arcB_ok {n : Int} {a : Arc} (h : arcB n a = true) : (0 ≤ a.frm ∧ a.frm < n) ∧ (0 ≤ a.to ∧ a.to < n) ∧ a.set ≠ BSet.zero ∧ a.out.length ≤ 1024 := by
  simp only [arcB, Bool.and_eq_true, decide_eq_true_eq] at h
  obtain ⟨⟨⟨⟨⟨p1, p2⟩, p3⟩, p4⟩, p5⟩, p6⟩ := h
  exact ⟨⟨p1, p2⟩, ⟨p3, p4⟩, p5, by omega⟩
structure FstOk (t : Fst) : Prop where
  st0 : 0 ≤ t.states
  st1 : t.states ≤ 1024
  arcsN : t.arcs.length ≤ 16384
  startsN : t.starts.length ≤ 1024
  endsN : t.ends.length ≤ 1024
  starts : ∀ p ∈ t.starts, (0 ≤ p.state ∧ p.state < t.states) ∧ p.out.length ≤ 1024
  ends : ∀ p ∈ t.ends, (0 ≤ p.state ∧ p.state < t.states) ∧ p.out.length ≤ 1024
  arcs : ∀ a ∈ t.arcs, (0 ≤ a.frm ∧ a.frm < t.states) ∧ (0 ≤ a.to ∧ a.to < t.states) ∧ a.set ≠ BSet.zero ∧ a.out.length ≤ 1024
theorem fstB_iff (t : Fst) : fstB t = true ↔ FstOk t := by
  constructor
  · intro h
    simp only [fstB, Bool.and_eq_true, decide_eq_true_eq, List.all_eq_true] at h
    obtain ⟨⟨⟨⟨⟨h1, h2⟩, h3⟩, h4⟩, h5⟩, h6⟩ := h
    exact ⟨h1, h2, by omega, (tipsB_ok h4).1, (tipsB_ok h5).1, (tipsB_ok h4).2, (tipsB_ok h5).2, fun a ha => arcB_ok (h6 a ha)⟩
  · rintro ⟨h1, h2, h3, h4, h5, h6, h7, h8⟩
    have hT : ∀ l : List Tip, l.length ≤ 1024 → (∀ p ∈ l, (0 ≤ p.state ∧ p.state < t.states) ∧ p.out.length ≤ 1024) → tipsB l t.states = true := fun l hl hp => by
      simp only [tipsB, Bool.and_eq_true, decide_eq_true_eq, List.all_eq_true]
      refine ⟨by omega, fun p hq => ?_⟩
      have := hp p hq
      simp only [tipB, Bool.and_eq_true, decide_eq_true_eq]; omega
    simp only [fstB, Bool.and_eq_true, decide_eq_true_eq, List.all_eq_true]
    refine ⟨⟨⟨⟨⟨h1, h2⟩, by omega⟩, hT _ h4 h6⟩, hT _ h5 h7⟩, fun a ha => ?_⟩
    obtain ⟨p1, p2, p3, p4⟩ := h8 a ha
    simp only [arcB, Bool.and_eq_true, decide_eq_true_eq]
    exact ⟨⟨⟨⟨p1, p2.1⟩, p2.2⟩, p3⟩, by omega⟩

theorem pairsL_snoc (t : Fst) (w : List UInt8) (b : UInt8) : pairsL t (w ++ [b]) = aftP t (pairsL t w) b := by simp [pairsL]
theorem outOf_len (p : FPair) (a : Arc) (b : UInt8) : (outOf p a b).length ≤ p.out.length + a.out.length + 1 := by
  unfold outOf; split <;> simp only [List.length_append, List.length_singleton] <;> omega
theorem pairs_ok {t : Fst} (ht : FstOk t) (w : List UInt8) : ∀ p ∈ pairsL t w, (0 ≤ p.state ∧ p.state < t.states) ∧ p.out.length ≤ 1024 + 1025 * w.length := by
  induction w using rev_ind with
  | h0 =>
    intro p hp
    obtain ⟨x, hx, rfl⟩ := List.mem_map.1 hp
    have := ht.starts x hx
    exact ⟨this.1, by have := this.2; simp only [tp, List.length_nil]; omega⟩
  | h1 w b ih =>
    intro q hq
    rw [pairsL_snoc, mem_aftP] at hq
    obtain ⟨p, hp, a, ha, _, _, rfl⟩ := hq
    have h1 := ht.arcs a ha
    have h2 := (ih p hp).2
    have h3 := outOf_len p a b
    refine ⟨h1.2.1, ?_⟩
    rw [List.length_append, List.length_singleton]
    simp only; omega

theorem b6_run (l229 : List (List (List UInt8))) (z : FPair × Unit) (l : List (List UInt8)) (hz : z.1.out.length ≤ 100000000) (hes : ∀ o ∈ nth l229 z.1.state.toNat [], o.length ≤ 1024) (hl : l.length + (nth l229 z.1.state.toNat []).length ≤ 8000000000) :
    iter (fun q : (List (List UInt8)) × Nat => fst_Outs_b6 l229 z q.1 q.2) (l, 0) = some (.inl (l ++ (nth l229 z.1.state.toNat []).map fun o => z.1.out ++ o)) := by
  generalize hgd : nth l229 z.1.state.toNat ([] : List (List UInt8)) = es at hes hl
  have := iter_fold (step := fun q : (List (List UInt8)) × Nat => fst_Outs_b6 l229 z q.1 q.2) (r := .inl (l ++ es.map fun o => z.1.out ++ o)) es [] (fun k => l ++ (es.take k).map fun o => z.1.out ++ o) ?_ ?_
  · simpa using this
  · intro k hk
    have ho := hes _ (nth_mem' hk [])
    simp only [fst_Outs_b6, hgd, lt_dec hk, iteO_true]
    rw [grd_mk (by omega), grd_mk (by simp only [List.length_append, List.length_map, List.length_take, List.length_singleton]; omega), take_snoc es hk []]
    simp [nxt]
  · simp only [fst_Outs_b6, hgd, Int.lt_irrefl, decide_false, iteO_false, List.take_length]; rfl
def endG (l229 : List (List (List UInt8))) (q : List (FPair × Unit)) : List (List UInt8) := q.flatMap fun z => (nth l229 z.1.state.toNat []).map fun o => z.1.out ++ o
theorem b5_run (l229 : List (List (List UInt8))) (he : ∀ i, (nth l229 i []).length ≤ 1024 ∧ ∀ o ∈ nth l229 i [], o.length ≤ 1024) : ∀ (q : List (FPair × Unit)) (l : List (List UInt8)), (∀ z ∈ q, (0 ≤ z.1.state ∧ z.1.state < (l229.length : Int)) ∧ z.1.out.length ≤ 100000000) → l.length + q.length * 1024 ≤ 8000000000 →
    runL (fun (q : (List (List UInt8))) (oE : Option (FPair × Unit)) => fst_Outs_b5 l229 q oE) q l = some (onceL [] Lib.compareBytes (l ++ endG l229 q), 0)
  | [], l, _, hl => by
    simp only [runL, fst_Outs_b5, optE, onceS_eq (l := l) (by simp at hl; omega), bnd, Option.bind_some, fin_some, endG, List.flatMap_nil, List.append_nil]
  | z :: q, l, hq, hl => by
    have hz := hq z (List.mem_cons_self ..)
    have h1 := he z.1.state.toNat
    simp only [List.length_cons] at hl
    have hst : fst_Outs_b5 l229 l (some z) = some (.inl (l ++ (nth l229 z.1.state.toNat []).map fun o => z.1.out ++ o)) := by
      simp only [fst_Outs_b5, optE]
      rw [grd_mk hz.1, b6_run l229 z l hz.2 h1.2 (by omega)]
    simp only [runL, hst]
    rw [b5_run l229 he q _ (fun y hy => hq y (List.mem_cons_of_mem _ hy)) (by rw [List.length_append, List.length_map]; omega)]
    simp [endG]
theorem ends_run {t : Fst} (ht : FstOk t) (S : List FPair) (hS : ∀ p ∈ S, (0 ≤ p.state ∧ p.state < t.states) ∧ p.out.length ≤ 100000000) (hc : card S ≤ 4096) :
    iter (fun q : (List (List (List UInt8))) × Nat => fst_Outs_b4 t (FM.ofL S) q.1 q.2) (List.replicate t.states.toNat [], 0) = some (onceL [] Lib.compareBytes (endT t S), 0) := by
  have ht0 := ht.st0
  refine Exists.elim (iter_run (step := fun q : (List (List (List UInt8))) × Nat => fst_Outs_b4 t (FM.ofL S) q.1 q.2) (fun q => q.2 ≤ t.ends.length ∧ Grp Tip.state Tip.out t.states.toNat q.1 (t.ends.take q.2))
    (fun r => r = (onceL [] Lib.compareBytes (endT t S), 0)) (fun q => t.ends.length - q.2) ?_ (List.replicate t.states.toNat [], 0) ⟨Nat.zero_le _, by simpa using Grp.nil Tip.state Tip.out t.states.toNat⟩) (fun r hr => by rw [hr.1, hr.2])
  rintro ⟨l, k⟩ ⟨hk, hG⟩
  simp only at hk hG
  have hlen := hG.len
  by_cases hlt : k < t.ends.length
  · left
    have hm := ht.ends _ (nth_mem' hlt Tip.zero)
    have hrow : (nth l (nth t.ends k Tip.zero).state.toNat []).length ≤ 1024 := by
      rw [hG.at hm.1.1 (by omega), List.length_map]
      have := List.length_filter_le (fun x : Tip => decide (x.state = (nth t.ends k Tip.zero).state)) (t.ends.take k)
      rw [List.length_take] at this
      have := ht.endsN; omega
    refine ⟨(l.set (nth t.ends k Tip.zero).state.toNat (nth l (nth t.ends k Tip.zero).state.toNat [] ++ [(nth t.ends k Tip.zero).out]), k + 1), ?_, ⟨by simp only; omega, ?_⟩, by simp only; omega⟩
    · simp only [fst_Outs_b4, lt_dec hlt, iteO_true]
      rw [grd_mk (by omega), grd_mk (by rw [List.length_singleton]; omega), grd_mk (by omega)]
      rfl
    · simp only
      rw [take_snoc t.ends hlt Tip.zero]
      exact hG.snoc hm.1.1 (by omega)
  · right
    have e : t.ends.take k = t.ends := List.take_of_length_le (by omega)
    rw [e] at hG
    refine ⟨_, ?_, rfl⟩
    simp only [fst_Outs_b4, decide_eq_false (show ¬ ((k : Nat) : Int) < ((t.ends.length : Nat) : Int) by omega), iteO_false]
    have hrow : ∀ i, (nth l i []).length ≤ 1024 ∧ ∀ o ∈ nth l i [], o.length ≤ 1024 := fun i => by
      by_cases hi : i < t.states.toNat
      · rw [hG.row i hi, List.length_map]
        refine ⟨Nat.le_trans (List.length_filter_le _ _) ht.endsN, fun o ho => ?_⟩
        obtain ⟨x, hx, rfl⟩ := List.mem_map.1 ho
        exact (ht.ends x (List.mem_filter.1 hx).1).2
      · have : nth l i [] = [] := by simp [nth, List.getD, show l.length ≤ i by omega]
        rw [this]; simp
    obtain ⟨q0, hq0⟩ := Rep.ofL S
    rw [allP_i (r := (onceL [] Lib.compareBytes (endT t S), 0)) q0 hq0 fun q hq => ?_]
    · rfl
    · obtain ⟨h1, h2⟩ := Rep.of_ofL hq
      rw [b5_run l hrow q [] (fun z hz => by have := hS z.1 ((h1 z).1 hz); exact ⟨⟨this.1.1, by omega⟩, this.2⟩) (by simp; omega)]
      congr 2
      refine onceL_congr cmpB_good fun x => ?_
      simp only [endG, endT, List.nil_append, List.mem_flatMap]
      constructor
      · rintro ⟨z, hz, h⟩
        have hzS := (h1 z).1 hz
        have := hS z.1 hzS
        rw [hG.at this.1.1 (by omega)] at h
        exact ⟨z.1, hzS, h⟩
      · rintro ⟨p, hp, h⟩
        have := hS p hp
        refine ⟨(p, ()), (h1 (p, ())).2 hp, ?_⟩
        rw [hG.at this.1.1 (by omega)]
        exact h
theorem aftG_eq {t : Fst} {l : List (List Arc)} (hG : Grp Arc.frm id t.states.toNat l t.arcs) (S : List FPair) (hS : ∀ p ∈ S, 0 ≤ p.state ∧ p.state < t.states) (b : UInt8) : aftG l S b = aftP t S b := by
  unfold aftG aftP
  rw [List.flatMap_def, List.flatMap_def]
  congr 1
  refine List.map_congr_left fun p hp => ?_
  have := hS p hp
  rw [hG.at this.1 (by omega), List.map_id]
theorem card_start {t : Fst} (ht : FstOk t) : card (t.starts.map tp) ≤ 4096 := by
  have := card_le (t.starts.map tp)
  rw [List.length_map] at this
  have := ht.startsN; omega
theorem text_run {t : Fst} (ht : FstOk t) (w : List UInt8) (hw : w.length ≤ 256) (l : List (List Arc)) (hG : Grp Arc.frm id t.states.toNat l t.arcs) :
    iter (fun q : (FM FPair Unit) × Nat => fst_Outs_b3 w l t q.1 q.2) (FM.ofL (t.starts.map tp), 0) = some (if fitsB t w then (outsL t w, 0) else ([], 2)) := by
  have ht0 := ht.st0
  have ht1 := ht.st1
  have hlen := hG.len
  have hrow : ∀ i, ∀ a ∈ nth l i [], a.out.length ≤ 1024 := fun i a ha => by
    by_cases hi : i < t.states.toNat
    · rw [hG.row i hi, List.map_id] at ha
      exact (ht.arcs a (List.mem_filter.1 ha).1).2.2.2
    · have : nth l i [] = [] := by simp [nth, List.getD, show l.length ≤ i by omega]
      rw [this] at ha; cases ha
  refine Exists.elim (iter_run (step := fun q : (FM FPair Unit) × Nat => fst_Outs_b3 w l t q.1 q.2) (fun q => q.2 ≤ w.length ∧ q.1 = FM.ofL (pairsL t (w.take q.2)) ∧ card (pairsL t (w.take q.2)) ≤ 4096 ∧ ∀ j, j < q.2 → card (pairsL t (w.take (j + 1))) ≤ 4096)
    (fun r => r = if fitsB t w then (outsL t w, 0) else ([], 2)) (fun q => w.length - q.2) ?_ (FM.ofL (t.starts.map tp), 0) ⟨Nat.zero_le _, rfl, card_start ht, fun j hj => by cases hj⟩) (fun r hr => by rw [hr.1, hr.2])
  rintro ⟨m, k⟩ ⟨hk, hm, hc, hf⟩
  simp only at hk hm hc hf
  subst hm
  have hok := pairs_ok ht (w.take k)
  have hlt' : (w.take k).length ≤ 256 := by rw [List.length_take]; omega
  by_cases hlt : k < w.length
  · have hstep := step_eq l (nth w k 0) (pairsL t (w.take k)) hrow (fun p hp => by have := hok p hp; exact ⟨⟨this.1.1, by omega⟩, by omega⟩)
    rw [aftG_eq hG _ (fun p hp => (hok p hp).1), ← pairsL_snoc, ← take_snoc w hlt 0] at hstep
    simp only [fst_Outs_b3, lt_dec hlt, iteO_true, hstep, bnd, Option.bind_some]
    by_cases hb : card (pairsL t (w.take (k + 1))) ≤ 4096
    · left
      rw [if_pos hb]
      refine ⟨(FM.ofL (pairsL t (w.take (k + 1))), k + 1), rfl, ⟨by simp only; omega, rfl, hb, fun j hj => ?_⟩, by simp only; omega⟩
      simp only at hj
      by_cases e : j = k
      · subst e; exact hb
      · exact hf j (by omega)
    · right
      rw [if_neg hb]
      refine ⟨([], 2), rfl, ?_⟩
      rw [if_neg]
      intro h
      rw [fitsB, List.all_eq_true] at h
      exact hb (by simpa using h k (List.mem_range.2 hlt))
  · right
    have e : w.take k = w := List.take_of_length_le (by omega)
    have hk' : k = w.length := by omega
    refine ⟨(outsL t w, 0), ?_, ?_⟩
    · simp only [fst_Outs_b3, decide_eq_false (show ¬ ((k : Nat) : Int) < ((w.length : Nat) : Int) by omega), iteO_false]
      rw [grd_mk (by omega), e, ends_run ht _ (fun p hp => by have := pairs_ok ht w p hp; exact ⟨this.1, by omega⟩) (by rw [e] at hc; exact hc)]
      rfl
    · rw [if_pos]
      rw [fitsB, List.all_eq_true]
      intro j hj
      simpa using hf j (by rw [hk']; exact List.mem_range.1 hj)
theorem starts_run (t : Fst) (w : List UInt8) (l : List (List Arc)) {r : List (List UInt8) × Int} (h : iter (fun q : (FM FPair Unit) × Nat => fst_Outs_b3 w l t q.1 q.2) (FM.ofL (t.starts.map tp), 0) = some r) :
    iter (fun q : (FM FPair Unit) × Nat => fst_Outs_b2 t w l q.1 q.2) (FM.emp, 0) = some r := by
  refine iter_fold (step := fun q : (FM FPair Unit) × Nat => fst_Outs_b2 t w l q.1 q.2) t.starts Tip.zero (fun k => FM.ofL ((t.starts.take k).map tp)) ?_ ?_
  · intro k hk
    simp only [fst_Outs_b2, lt_dec hk, iteO_true]
    rw [take_snoc t.starts hk Tip.zero, List.map_append, List.map_cons, List.map_nil, FM.ofL_snoc]
    rfl
  · simp only [fst_Outs_b2, Int.lt_irrefl, decide_false, iteO_false, List.take_length, h]; rfl
theorem arcs_run {t : Fst} (ht : FstOk t) (w : List UInt8) (hw : w.length ≤ 256) :
    iter (fun q : (List (List Arc)) × Nat => fst_Outs_b1 t w q.1 q.2) (List.replicate t.states.toNat [], 0) = some (if fitsB t w then (outsL t w, 0) else ([], 2)) := by
  have ht0 := ht.st0
  refine Exists.elim (iter_run (step := fun q : (List (List Arc)) × Nat => fst_Outs_b1 t w q.1 q.2) (fun q => q.2 ≤ t.arcs.length ∧ Grp Arc.frm id t.states.toNat q.1 (t.arcs.take q.2))
    (fun r => r = if fitsB t w then (outsL t w, 0) else ([], 2)) (fun q => t.arcs.length - q.2) ?_ (List.replicate t.states.toNat [], 0) ⟨Nat.zero_le _, by simpa using Grp.nil Arc.frm id t.states.toNat⟩) (fun r hr => by rw [hr.1, hr.2])
  rintro ⟨l, k⟩ ⟨hk, hG⟩
  simp only at hk hG
  have hlen := hG.len
  by_cases hlt : k < t.arcs.length
  · left
    have hm := ht.arcs _ (nth_mem' hlt Arc.zero)
    have hrow : (nth l (nth t.arcs k Arc.zero).frm.toNat []).length ≤ 16384 := by
      rw [hG.at hm.1.1 (by omega), List.length_map]
      have := List.length_filter_le (fun x : Arc => decide (x.frm = (nth t.arcs k Arc.zero).frm)) (t.arcs.take k)
      rw [List.length_take] at this
      have := ht.arcsN; omega
    refine ⟨(l.set (nth t.arcs k Arc.zero).frm.toNat (nth l (nth t.arcs k Arc.zero).frm.toNat [] ++ [nth t.arcs k Arc.zero]), k + 1), ?_, ⟨by simp only; omega, ?_⟩, by simp only; omega⟩
    · simp only [fst_Outs_b1, lt_dec hlt, iteO_true]
      rw [grd_mk (by omega), grd_mk (by rw [List.length_singleton]; omega), grd_mk (by omega)]
      rfl
    · simp only
      rw [take_snoc t.arcs hlt Arc.zero]
      exact hG.snoc hm.1.1 (by omega)
  · right
    have e : t.arcs.take k = t.arcs := List.take_of_length_le (by omega)
    rw [e] at hG
    refine ⟨_, ?_, rfl⟩
    simp only [fst_Outs_b1, decide_eq_false (show ¬ ((k : Nat) : Int) < ((t.arcs.length : Nat) : Int) by omega), iteO_false]
    rw [starts_run t w l (text_run ht w hw l hG)]
    rfl
/-- The program's answer. -/
theorem outs_eq (t : Fst) (w : List UInt8) (hw : w.length ≤ 281474976710656) : fst_Outs t w = some (if fstB t = true then (if w.length ≤ 256 then (if fitsB t w = true then (outsL t w, 0) else ([], 2)) else ([], 2)) else ([], 1)) := by
  unfold fst_Outs
  rw [grd_mk hw, fst_Check_eq, bnd, Option.bind_some, errB_ne]
  by_cases h : fstB t = true
  · have ht := (fstB_iff t).1 h
    have ht0 := ht.st0
    have ht1 := ht.st1
    rw [h, if_pos rfl, Bool.not_true, iteO_false]
    by_cases h2 : w.length ≤ 256
    · rw [decide_eq_false (by omega), iteO_false, if_pos h2, grd_mk (by omega), arcs_run ht w h2]
    · rw [decide_eq_true (by omega), iteO_true, if_neg h2]
  · simp only [Bool.not_eq_true] at h
    rw [h]; rfl
end Go.Proofs.YtcfjjckencjjeaaGreatDoor
end

/- MkF -/
section
/- An automaton as a transducer. Plain lemmas, no condition. -/
set_option linter.unusedVariables false
set_option linter.unusedSimpArgs false
namespace Go.Proofs.YtcfjjckencjjeaaGreatDoor
open Go Go.E
set_option maxRecDepth 100000

/-- The bytes by which an automaton goes from a state to another one. -/
def toS (d : Dfa) (s z : Nat) : BSet := BSet.make fun b => decide (nth (nth d.next s ([] : List Int)) (nth d.cls b (0 : Int)).toNat (0 : Int) = ((z : Nat) : Int))
def backR (d : Dfa) (s m : Nat) : List Arrow := (List.range m).flatMap fun z => if toS d s z = BSet.zero then [] else [⟨((s : Nat) : Int), ((z : Nat) : Int), toS d s z⟩]
def backE (d : Dfa) (m : Nat) : List Arrow := (List.range m).flatMap fun s => backR d s d.next.length
def endsN (d : Dfa) (m : Nat) : List Int := (List.range m).flatMap fun s => if nth d.fin s false = true then [((s : Nat) : Int)] else []
def backN (d : Dfa) : Nfa := ⟨((d.next.length : Nat) : Int), [0], endsN d d.next.length, backE d d.next.length⟩
/-- The transducer: out comes out at the ends, and each byte, if it copies. -/
def mkF (d : Dfa) (out : List UInt8) (c : Bool) : Fst := ⟨((d.next.length : Nat) : Int), [⟨0, []⟩], (endsN d d.next.length).map fun s => ⟨s, out⟩, (backE d d.next.length).map fun x => ⟨x.frm, x.to, x.set, [], c⟩⟩
theorem mem_backE {d : Dfa} {x : Arrow} : x ∈ backE d d.next.length ↔ ∃ s z, s < d.next.length ∧ z < d.next.length ∧ toS d s z ≠ BSet.zero ∧ x = ⟨((s : Nat) : Int), ((z : Nat) : Int), toS d s z⟩ := by
  simp only [backE, backR, List.mem_flatMap, List.mem_range]
  constructor
  · rintro ⟨s, hs, z, hz, h⟩
    split at h
    · cases h
    · rename_i h0; exact ⟨s, z, hs, hz, h0, by simpa using h⟩
  · rintro ⟨s, z, hs, hz, h0, rfl⟩
    exact ⟨s, hs, z, hz, by rw [if_neg h0]; exact List.mem_singleton.2 rfl⟩
theorem mem_endsN {d : Dfa} {x : Int} : x ∈ endsN d d.next.length ↔ ∃ s : Nat, s < d.next.length ∧ nth d.fin s false = true ∧ x = (s : Int) := by
  simp only [endsN, List.mem_flatMap, List.mem_range]
  constructor
  · rintro ⟨s, hs, h⟩
    split at h
    · rename_i h0; exact ⟨s, hs, h0, by simpa using h⟩
    · cases h
  · rintro ⟨s, hs, h0, rfl⟩
    exact ⟨s, hs, by rw [if_pos h0]; exact List.mem_singleton.2 rfl⟩
theorem flat_len {α β : Type} (f : α → List β) (k : Nat) : ∀ l : List α, (∀ x ∈ l, (f x).length ≤ k) → (l.flatMap f).length ≤ l.length * k
  | [], _ => by simp
  | x :: l, h => by
    have h1 := h x (List.mem_cons_self ..)
    have h2 := flat_len f k l fun y hy => h y (List.mem_cons_of_mem _ hy)
    rw [List.flatMap_cons, List.length_append, List.length_cons, Nat.add_mul, Nat.one_mul]; omega
theorem backR_len (d : Dfa) (s m : Nat) : (backR d s m).length ≤ m := by
  have := flat_len (fun z => if toS d s z = BSet.zero then [] else [(⟨((s : Nat) : Int), ((z : Nat) : Int), toS d s z⟩ : Arrow)]) 1 (List.range m) (fun z _ => by split <;> simp)
  rw [List.length_range, Nat.mul_one] at this; exact this
theorem backE_len (d : Dfa) (m : Nat) : (backE d m).length ≤ m * d.next.length := by
  have := flat_len (fun s => backR d s d.next.length) d.next.length (List.range m) (fun s _ => backR_len _ _ _)
  rw [List.length_range] at this; exact this
theorem endsN_len (d : Dfa) (m : Nat) : (endsN d m).length ≤ m := by
  have := flat_len (fun s => if nth d.fin s false = true then [((s : Nat) : Int)] else []) 1 (List.range m) (fun z _ => by split <;> simp)
  rw [List.length_range, Nat.mul_one] at this; exact this
theorem mkF_ok {d : Dfa} {out : List UInt8} {c : Bool} (hn : d.next.length ≤ 100) (h1 : 1 ≤ d.next.length) (ho : out.length ≤ 1024) : FstOk (mkF d out c) where
  st0 := by show 0 ≤ ((d.next.length : Nat) : Int); omega
  st1 := by show ((d.next.length : Nat) : Int) ≤ 1024; omega
  arcsN := by
    show ((backE d d.next.length).map _).length ≤ 16384
    rw [List.length_map]
    have := backE_len d d.next.length
    have := Nat.mul_le_mul hn hn
    omega
  startsN := by show 1 ≤ 1024; omega
  endsN := by
    show ((endsN d d.next.length).map _).length ≤ 1024
    rw [List.length_map]
    have := endsN_len d d.next.length; omega
  starts := fun p hp => by
    have : p = ⟨0, []⟩ := List.mem_singleton.1 hp
    subst this
    exact ⟨⟨Int.le_refl _, by show (0 : Int) < ((d.next.length : Nat) : Int); omega⟩, by show 0 ≤ 1024; omega⟩
  ends := fun p hp => by
    obtain ⟨x, hx, rfl⟩ := List.mem_map.1 (show p ∈ (endsN d d.next.length).map (fun s => (⟨s, out⟩ : Tip)) from hp)
    obtain ⟨s, hs, -, rfl⟩ := mem_endsN.1 hx
    exact ⟨⟨by dsimp only; omega, by show ((s : Nat) : Int) < ((d.next.length : Nat) : Int); omega⟩, ho⟩
  arcs := fun a ha => by
    obtain ⟨x, hx, rfl⟩ := List.mem_map.1 (show a ∈ (backE d d.next.length).map (fun x => (⟨x.frm, x.to, x.set, [], c⟩ : Arc)) from ha)
    obtain ⟨s, z, hs, hz, h0, rfl⟩ := mem_backE.1 hx
    refine ⟨⟨by dsimp only; omega, by show ((s : Nat) : Int) < ((d.next.length : Nat) : Int); omega⟩, ⟨by dsimp only; omega, by show ((z : Nat) : Int) < ((d.next.length : Nat) : Int); omega⟩, h0, by dsimp only [List.length_nil]; omega⟩
end Go.Proofs.YtcfjjckencjjeaaGreatDoor
end

/- It -/
section
/- Rounds over a list's things, by an invariant on what was met. Plain lemmas, no condition. -/
set_option linter.unusedVariables false
set_option linter.unusedSimpArgs false
namespace Go.E
open Go
/-- Rounds over a list, by an invariant on what was met so far. -/
theorem iter_for {α S T R : Type} {step : T → Option (T ⊕ R)} (g : S → Nat → T) (l : List α) (d : α) (I : List α → S → Prop) (Q : R → Prop)
    (hs : ∀ k s, k < l.length → I (l.take k) s → (∃ s', step (g s k) = some (.inl (g s' (k + 1))) ∧ I (l.take k ++ [nth l k d]) s') ∨ ∃ r, step (g s k) = some (.inr r) ∧ Q r)
    (hd : ∀ s, I l s → ∃ r, step (g s l.length) = some (.inr r) ∧ Q r) {s0 : S} (h0 : I [] s0) : ∃ r, iter step (g s0 0) = some r ∧ Q r := by
  have key : ∀ m k s, l.length - k = m → k ≤ l.length → I (l.take k) s → ∃ r, iter step (g s k) = some r ∧ Q r := by
    intro m
    induction m with
    | zero =>
      intro k s hm hk hI
      have hk : k = l.length := by omega
      subst hk
      rw [List.take_length] at hI
      obtain ⟨r, h1, h2⟩ := hd s hI
      exact ⟨r, iter_done h1, h2⟩
    | succ m ih =>
      intro k s hm hk hI
      rcases hs k s (by omega) hI with ⟨s', h1, h2⟩ | ⟨r, h1, h2⟩
      · rw [← take_snoc l (by omega) d] at h2
        obtain ⟨r, h3, h4⟩ := ih (k + 1) s' (by omega) (by omega) h2
        exact ⟨r, iter_next h1 h3, h4⟩
      · exact ⟨r, iter_done h1, h2⟩
  exact key _ 0 s0 rfl (Nat.zero_le _) h0
theorem take_split {α : Type} (l : List α) {k : Nat} (h : k < l.length) (d : α) : l = l.take k ++ nth l k d :: l.drop (k + 1) := by
  have h1 : l.drop k = nth l k d :: l.drop (k + 1) := by
    have := List.drop_eq_getElem_cons h
    rw [this]; congr 1
    have h2 := getD_some l h d
    rw [List.getElem?_eq_getElem h] at h2; exact Option.some.inj h2
  rw [← h1, List.take_append_drop]
end Go.E
end

/- Sm -/
section
/- Rules by which simp, with omega for what is asked, follows a decompiled function. Plain lemmas, no condition. -/
set_option linter.unusedVariables false
set_option linter.unusedSimpArgs false
namespace Go.E
open Go
theorem iteO_dt {α : Type} {p : Prop} [Decidable p] {a b : Option α} (h : p) : iteO (decide p) a b = a := by rw [decide_eq_true h]; rfl
theorem iteO_df {α : Type} {p : Prop} [Decidable p] {a b : Option α} (h : ¬ p) : iteO (decide p) a b = b := by rw [decide_eq_false h]; rfl
theorem bnd_mk {α β : Type} {x : α} {f : α → Option β} : bnd (some x) f = f x := rfl
theorem iteO_nt {α : Type} {a b : Option α} : iteO (!true) a b = b := rfl
/-- Rounds that count up through n, whose state stands in a relation to the number. -/
theorem iter_up {S T R : Type} {step : T → Option (T ⊕ R)} (g : S → Nat → T) (n : Nat) (I : Nat → S → Prop) (Q : R → Prop)
    (hs : ∀ k s, k < n → I k s → (∃ s', step (g s k) = some (.inl (g s' (k + 1))) ∧ I (k + 1) s') ∨ ∃ r, step (g s k) = some (.inr r) ∧ Q r)
    (hd : ∀ s, I n s → ∃ r, step (g s n) = some (.inr r) ∧ Q r) {s0 : S} (h0 : I 0 s0) : ∃ r, iter step (g s0 0) = some r ∧ Q r := by
  have key : ∀ m k s, n - k = m → k ≤ n → I k s → ∃ r, iter step (g s k) = some r ∧ Q r := by
    intro m
    induction m with
    | zero =>
      intro k s hm hk hI
      have hk : k = n := by omega
      subst hk
      obtain ⟨r, h1, h2⟩ := hd s hI
      exact ⟨r, iter_done h1, h2⟩
    | succ m ih =>
      intro k s hm hk hI
      rcases hs k s (by omega) hI with ⟨s', h1, h2⟩ | ⟨r, h1, h2⟩
      · obtain ⟨r, h3, h4⟩ := ih (k + 1) s' (by omega) (by omega) h2
        exact ⟨r, iter_next h1 h3, h4⟩
      · exact ⟨r, iter_done h1, h2⟩
  exact key _ 0 s0 rfl (Nat.zero_le _) h0
end Go.E
end

/- AnyP -/
section
/- Sets of bytes: in one or the other; the sets of a partition. Plain lemmas, no condition. -/
set_option linter.unusedVariables false
set_option linter.unusedSimpArgs false
namespace Go.Proofs.YtcfjjckencjjeaaGreatDoor
open Go Go.E
set_option maxRecDepth 100000

theorem u64or_lt' (a b : Nat) : u64or a b < 18446744073709551616 := (BitVec.ofNat 64 a ||| BitVec.ofNat 64 b).isLt
theorem has_bit' (s : BSet) (n : Nat) : s.has n = (s.word (n / 64)).testBit (n % 64) := by
  unfold BSet.has; rw [Nat.testBit_eq_decide_div_mod_eq]
theorem set_ext {s t : BSet} (h : ∀ n, n < 256 → s.has n = t.has n) : s = t := by
  refine BSet.ext_word fun i hi => Nat.eq_of_testBit_eq fun j => ?_
  by_cases hj : j < 64
  · have h1 := h (64 * i + j) (by omega)
    rw [has_bit', has_bit', show (64 * i + j) / 64 = i by omega, show (64 * i + j) % 64 = j by omega] at h1
    exact h1
  · have h2 : ∀ u : BSet, (u.word i).testBit j = false := fun u => Nat.testBit_lt_two_pow (Nat.lt_of_lt_of_le (BSet.word_lt u.isOk i) (show 2 ^ 64 ≤ 2 ^ j from Nat.pow_le_pow_right (by omega) (by omega)))
    rw [h2, h2]
theorem any_eq (a b : BSet) : set_Any a b = some (BSet.make fun n => a.has n || b.has n) := by
  have h : ∃ r, set_Any a b = some r ∧ ∀ i, i < 4 → r.word i = u64or (a.word i) (b.word i) := by
    unfold set_Any
    exact iter_up (step := fun q : BSet × Nat => set_Any_b1 b q.1 q.2) (fun (s : BSet) k => (s, k)) 4 (fun k s => ∀ i, i < 4 → s.word i = if i < k then u64or (a.word i) (b.word i) else a.word i) (fun r => ∀ i, i < 4 → r.word i = u64or (a.word i) (b.word i))
      (fun k s hk hI => .inl ⟨BSet.setWord s k (u64or (BSet.word s k) (BSet.word b k)), by
        show set_Any_b1 b s k = _
        unfold set_Any_b1
        rw [iteO_dt (by omega), grd_mk hk, grd_mk hk, grd_mk hk, grd_mk (u64or_lt' _ _)]; rfl, fun i hi => by
        rw [BSet.word_set s hk _ i (u64or_lt' _ _) hi]
        by_cases e : i = k
        · subst e; rw [if_pos rfl, if_pos (by omega), hI i hi, if_neg (by omega)]
        · rw [if_neg e, hI i hi]
          by_cases e2 : i < k
          · rw [if_pos e2, if_pos (by omega)]
          · rw [if_neg e2, if_neg (by omega)]⟩)
      (fun s hI => ⟨s, by
        show set_Any_b1 b s 4 = _
        unfold set_Any_b1
        rw [iteO_df (by omega)]; rfl, fun i hi => by rw [hI i hi, if_pos hi]⟩) (s0 := a) (fun i hi => by rw [if_neg (by omega)])
  obtain ⟨r, h1, h2⟩ := h
  rw [h1]
  congr 1
  refine set_ext fun n hn => ?_
  have l1 := BSet.word_lt a.isOk (n / 64)
  have l2 := BSet.word_lt b.isOk (n / 64)
  rw [BSet.make_has _ hn, has_bit', has_bit', has_bit', h2 _ (by omega)]
  unfold u64or
  rw [BitVec.toNat_or, BitVec.toNat_ofNat, BitVec.toNat_ofNat, Nat.mod_eq_of_lt l1, Nat.mod_eq_of_lt l2, Nat.testBit_or]
/-- How many classes there are, if they come in order. -/
def cntS (o : Option Nat) (n : Int) : Option Nat := o.bind fun k => if n < 0 ∨ (k : Int) < n then none else some (if n = k then k + 1 else k)
def cntF (l : List Int) : Option Nat := l.foldl cntS (some 0)
theorem cntS_none : ∀ l : List Int, l.foldl cntS none = none
  | [] => rfl
  | _ :: l => cntS_none l
theorem cntF_snoc (l : List Int) (n : Int) : cntF (l ++ [n]) = cntS (cntF l) n := by simp [cntF, List.foldl_append]
theorem cntF_none {l m : List Int} (h : cntF l = none) : cntF (l ++ m) = none := by
  unfold cntF at h ⊢; rw [List.foldl_append, h, cntS_none]
theorem cntF_le : ∀ (l : List Int) (j k : Nat), l.foldl cntS (some j) = some k → k ≤ j + l.length
  | [], j, k, h => by cases h; simp
  | n :: l, j, k, h => by
    rw [List.foldl_cons] at h
    by_cases hc : n < 0 ∨ (j : Int) < n
    · rw [show cntS (some j) n = none by simp [cntS, hc], cntS_none] at h; cases h
    · rw [show cntS (some j) n = some (if n = j then j + 1 else j) by simp [cntS, hc]] at h
      have := cntF_le l _ k h
      simp only [List.length_cons]
      split at this <;> omega
/-- The bytes of a class, of those below some one. -/
def clsF (cls : List Int) (k c : Nat) : Nat → Bool := fun b => decide (b < k) && decide (nth cls b (0 : Int) = ((c : Nat) : Int))
def clsS (cls : List Int) (c : Nat) : BSet := BSet.make fun b => decide (nth cls b (0 : Int) = ((c : Nat) : Int))
structure SetsI (cls : List Int) (k : Nat) (s : List BSet) : Prop where
  cnt : cntF (cls.take k) = some s.length
  sets : ∀ c, c < s.length → nth s c BSet.zero = BSet.make (clsF cls k c)
  low : ∀ b, b < k → 0 ≤ nth cls b (0 : Int) ∧ nth cls b (0 : Int) < ((s.length : Nat) : Int)
  some_ : ∀ c, c < s.length → ∃ b, b < k ∧ nth cls b (0 : Int) = ((c : Nat) : Int)
theorem nth_set' {α : Type} (l : List α) (i j : Nat) (x d : α) (hi : i < l.length) : nth (l.set i x) j d = if j = i then x else nth l j d := by
  unfold nth
  rw [List.getD_eq_getElem?_getD, List.getD_eq_getElem?_getD, List.getElem?_set]
  by_cases h : i = j
  · subst h; rw [if_pos rfl, if_pos rfl, if_pos hi]; rfl
  · rw [if_neg h, if_neg (fun e => h e.symm)]
theorem nth_app_l {α : Type} (l m : List α) (j : Nat) (d : α) (h : j < l.length) : nth (l ++ m) j d = nth l j d := by
  unfold nth; rw [List.getD_eq_getElem?_getD, List.getD_eq_getElem?_getD, List.getElem?_append_left h]
theorem nth_app_e {α : Type} (l : List α) (x d : α) : nth (l ++ [x]) l.length d = x := by
  unfold nth; rw [List.getD_eq_getElem?_getD, List.getElem?_append_right (Nat.le_refl _)]; simp
theorem take_cons' {l : List Int} {k : Nat} (h : k < l.length) : l.take (k + 1) = l.take k ++ [nth l k 0] := by
  rw [List.take_add_one, getD_some l h 0]; rfl
theorem of1' (k : Nat) (hk : k < 256) {n : Nat} (h : n < 256) : (BSet.ofL [toU8 ((k : Nat) : Int)]).has n = decide (n = k) := by
  unfold BSet.ofL
  rw [BSet.make_has _ h]
  have := toU8_val ((k : Nat) : Int)
  rw [wrap_u8] at this
  have e : (toU8 ((k : Nat) : Int)).toNat = k := by omega
  simp [e]
/-- A byte is put into its class's set. -/
theorem sets_put {cls : List Int} {k : Nat} {s l : List BSet} (hk : k < 256) (hI : SetsI cls k s) {n : Nat} (hn : nth cls k (0 : Int) = ((n : Nat) : Int)) (hle : s.length ≤ l.length) (hl : l.length ≤ s.length + 1) (hnl : n < l.length) (hs : ∀ c, c < s.length → nth l c BSet.zero = nth s c BSet.zero) (hz : s.length < l.length → n = s.length ∧ nth l n BSet.zero = BSet.zero)
    (hc : cntF (cls.take (k + 1)) = some l.length) : SetsI cls (k + 1) (l.set n (BSet.make fun b => (nth l n BSet.zero).has b || (BSet.ofL [toU8 ((k : Nat) : Int)]).has b)) where
  cnt := by rw [List.length_set]; exact hc
  sets := fun c hcl => by
    rw [List.length_set] at hcl
    rw [nth_set' _ _ _ _ _ hnl]
    by_cases e : c = n
    · subst e
      rw [if_pos rfl]
      refine BSet.make_congr fun b hb => ?_
      rw [of1' k hk hb]
      have h0 : (nth l c BSet.zero).has b = clsF cls k c b := by
        by_cases h1 : c < s.length
        · rw [hs c h1, hI.sets c h1, BSet.make_has _ hb]
        · have h2 := hz (by omega)
          rw [h2.2]
          have h3 : clsF cls k c b = false := by
            unfold clsF
            by_cases hbk : b < k
            · have := (hI.low b hbk).2
              rw [decide_eq_false (show ¬ nth cls b (0 : Int) = ((c : Nat) : Int) by omega), Bool.and_false]
            · rw [decide_eq_false hbk, Bool.false_and]
          rw [h3, ← BSet.make_zero, BSet.make_has _ hb]
      rw [h0]
      unfold clsF
      by_cases hb2 : b = k
      · subst hb2; rw [hn]; simp
      · by_cases hb3 : b < k
        · rw [decide_eq_true hb3, decide_eq_true (show b < k + 1 by omega), decide_eq_false hb2, Bool.or_false]
        · rw [decide_eq_false hb3, decide_eq_false (show ¬ b < k + 1 by omega), decide_eq_false hb2]; rfl
    · rw [if_neg e]
      have h1 : c < s.length := by
        by_cases h2 : s.length < l.length
        · have := (hz h2).1; omega
        · omega
      rw [hs c h1, hI.sets c h1]
      refine BSet.make_congr fun b hb => ?_
      unfold clsF
      by_cases hb2 : b = k
      · subst hb2
        rw [decide_eq_false (Nat.lt_irrefl _), hn, decide_eq_false (show ¬ ((n : Nat) : Int) = ((c : Nat) : Int) by omega)]; simp
      · rw [decide_eq_decide.2 (show b < k ↔ b < k + 1 by omega)]
  low := fun b hb => by
    rw [List.length_set]
    by_cases e : b = k
    · subst e; rw [hn]; omega
    · have := hI.low b (by omega); omega
  some_ := fun c hcl => by
    rw [List.length_set] at hcl
    by_cases h1 : c < s.length
    · obtain ⟨b, h2, h3⟩ := hI.some_ c h1; exact ⟨b, by omega, h3⟩
    · have h2 := hz (by omega)
      exact ⟨k, by omega, by rw [hn]; omega⟩
theorem partSets_full (cls : List Int) : ∃ r, part_Sets cls = some r ∧ (((cls.length ≠ 256 ∨ cntF cls = none) ∧ r.2 = 1) ∨ (cls.length = 256 ∧ cntF cls = some r.1.length ∧ r.2 = 0 ∧ (∀ c, c < r.1.length → nth r.1 c BSet.zero = clsS cls c) ∧ ∀ c, c < r.1.length → ∃ b, b < 256 ∧ nth cls b (0 : Int) = ((c : Nat) : Int))) := by
  unfold part_Sets
  by_cases h256 : cls.length = 256
  · rw [iteO_df (show ¬ ((cls.length : Nat) : Int) ≠ 256 by omega)]
    obtain ⟨r, h1, h2⟩ := iter_up (step := fun q : List BSet × Nat => part_Sets_b1 cls q.1 q.2) (fun (s : List BSet) k => (s, k)) 256 (fun k s => SetsI cls k s) (fun r => (cntF cls = none ∧ r.2 = 1) ∨ (SetsI cls 256 r.1 ∧ r.2 = 0))
      (fun k s hk hI => by
        have hk' : k < cls.length := by omega
        have hsp : cls = cls.take k ++ (nth cls k 0 :: cls.drop (k + 1)) := by
          rw [← List.singleton_append, ← List.append_assoc, ← take_cons' hk', List.take_append_drop]
        have hle := cntF_le _ _ _ hI.cnt
        rw [List.length_take, Nat.zero_add] at hle
        have hstop : (nth cls k 0 < 0 ∨ (s.length : Int) < nth cls k 0) → cntF cls = none := fun hc => by
          rw [hsp, ← List.singleton_append, ← List.append_assoc]
          exact cntF_none (by rw [cntF_snoc, hI.cnt]; simp [cntS, hc])
        have hgo : ∀ l : List BSet, 0 ≤ nth cls k 0 → nth cls k 0 < (l.length : Int) → part_Sets_j1 cls k l = some (.inl (l.set (nth cls k (0 : Int)).toNat (BSet.make fun b => (nth l (nth cls k (0 : Int)).toNat BSet.zero).has b || (BSet.ofL [toU8 ((k : Nat) : Int)]).has b), k + 1)) := fun l h0 h1 => by
          unfold part_Sets_j1; rw [grd_mk ⟨h0, h1⟩, grd_mk (by simp), bnd_some (any_eq _ _), grd_mk ⟨h0, h1⟩]; rfl
        show (∃ s', part_Sets_b1 cls s k = _ ∧ _) ∨ ∃ r, part_Sets_b1 cls s k = _ ∧ _
        unfold part_Sets_b1
        rw [iteO_dt (by omega)]
        by_cases c1 : nth cls k 0 < 0
        · right; rw [iteO_dt c1]; exact ⟨_, rfl, .inl ⟨hstop (.inl c1), rfl⟩⟩
        rw [iteO_df c1]
        by_cases c2 : (s.length : Int) < nth cls k 0
        · right; rw [iteO_dt c2]; exact ⟨_, rfl, .inl ⟨hstop (.inr c2), rfl⟩⟩
        rw [iteO_df c2]
        left
        by_cases c3 : nth cls k 0 = (s.length : Int)
        · rw [iteO_dt c3, grd_mk (by simp; omega), hgo _ (by omega) (by simp; omega)]
          refine ⟨_, rfl, sets_put hk hI (n := (nth cls k (0 : Int)).toNat) (by omega) (by simp) (by simp) (by simp; omega) (fun c hc => nth_app_l _ _ _ _ hc) (fun _ => ⟨by omega, ?_⟩) ?_⟩
          · rw [show (nth cls k (0 : Int)).toNat = s.length by omega, nth_app_e]
          · rw [take_cons' hk', cntF_snoc, hI.cnt]; simp [cntS, c3]
        · rw [iteO_df c3, hgo _ (by omega) (by omega)]
          refine ⟨_, rfl, sets_put hk hI (n := (nth cls k (0 : Int)).toNat) (by omega) (Nat.le_refl _) (by omega) (by omega) (fun _ _ => rfl) (fun h => absurd h (Nat.lt_irrefl _)) ?_⟩
          rw [take_cons' hk', cntF_snoc, hI.cnt]; simp [cntS, c3]; omega)
      (fun s hI => ⟨(s, 0), by
        show part_Sets_b1 cls s 256 = _
        unfold part_Sets_b1
        rw [iteO_df (by omega)]; rfl, .inr ⟨hI, rfl⟩⟩) (s0 := []) ⟨rfl, by simp, by simp, by simp⟩
    refine ⟨r, h1, ?_⟩
    rcases h2 with ⟨h2, h3⟩ | ⟨h2, h3⟩
    · exact .inl ⟨.inr h2, h3⟩
    · have h4 := h2.cnt
      rw [List.take_of_length_le (by omega)] at h4
      refine .inr ⟨h256, h4, h3, fun c hc => ?_, h2.some_⟩
      rw [h2.sets c hc]
      exact BSet.make_congr fun b hb => by unfold clsF; rw [decide_eq_true hb, Bool.true_and]
  · rw [iteO_dt (show ((cls.length : Nat) : Int) ≠ 256 by omega)]
    exact ⟨_, rfl, .inl ⟨.inl h256, rfl⟩⟩
end Go.Proofs.YtcfjjckencjjeaaGreatDoor
end

/- DfP -/
section
/- Automatons that go one way: what is right; steps. Plain lemmas, no condition. -/
set_option linter.unusedVariables false
set_option linter.unusedSimpArgs false
namespace Go.Proofs.YtcfjjckencjjeaaGreatDoor
open Go Go.E
set_option maxRecDepth 100000
theorem partSets_ok (cls : List Int) : ∃ r, part_Sets cls = some r ∧ (((cls.length ≠ 256 ∨ cntF cls = none) ∧ r.2 = 1) ∨ (cls.length = 256 ∧ cntF cls = some r.1.length ∧ r.2 = 0)) := by
  obtain ⟨r, h, h1 | h1⟩ := partSets_full cls
  · exact ⟨r, h, .inl h1⟩
  · exact ⟨r, h, .inr ⟨h1.1, h1.2.1, h1.2.2.1⟩⟩
def goodS (n : Nat) (s : Int) : Bool := decide (0 ≤ s) && decide (s < (n : Int))
def goodR (n m : Nat) (row : List Int) : Bool := decide (row.length = m) && row.all (goodS n)
/-- Is an automaton right? -/
def rightD (d : Dfa) : Bool := decide (d.cls.length = 256) && (match cntF d.cls with | some m => d.next.all (goodR d.next.length m) | none => false) && decide (1 ≤ d.next.length ∧ d.next.length ≤ 1024) && decide (d.fin.length = d.next.length)
theorem all_snocD {α : Type} (p : α → Bool) (l : List α) (x : α) : (l ++ [x]).all p = (l.all p && p x) := by simp [List.all_append]
theorem all_falseD {α : Type} {p : α → Bool} {l : List α} {k : Nat} (hk : k < l.length) (d : α) (h : p (nth l k d) = false) : l.all p = false := by
  rw [List.all_eq_false]; exact ⟨_, List.mem_of_getElem? (getD_some l hk d), by simp [h]⟩
theorem chk_in (d : Dfa) (k : Nat) : ∃ r, iter (fun q : Nat => dfa_Check_b2 d k q) 0 = some r ∧ (((nth d.next k []).all (goodS d.next.length) = true ∧ r = .inl (k + 1)) ∨ ((nth d.next k []).all (goodS d.next.length) = false ∧ r = .inr 1)) :=
  iter_for (step := fun q : Nat => dfa_Check_b2 d k q) (fun (_ : Unit) j => j) (nth d.next k []) 0 (fun pre _ => pre.all (goodS d.next.length) = true) (fun r => ((nth d.next k []).all (goodS d.next.length) = true ∧ r = .inl (k + 1)) ∨ ((nth d.next k []).all (goodS d.next.length) = false ∧ r = .inr 1))
    (fun j s hj hI => by
      simp only [dfa_Check_b2]
      rw [show decide (((j : Nat) : Int) < (((nth d.next k ([] : List Int)).length : Nat) : Int)) = true from decide_eq_true (by omega), iteO_true]
      by_cases c1 : nth (nth d.next k ([] : List Int)) j (0 : Int) < 0
      · right; rw [decide_eq_true c1, iteO_true]; exact ⟨_, rfl, .inr ⟨all_falseD hj 0 (by simp [goodS]; omega), rfl⟩⟩
      rw [decide_eq_false c1, iteO_false]
      by_cases c2 : ((d.next.length : Nat) : Int) ≤ nth (nth d.next k ([] : List Int)) j (0 : Int)
      · right; rw [decide_eq_true c2, iteO_true]; exact ⟨_, rfl, .inr ⟨all_falseD hj 0 (by simp [goodS]; omega), rfl⟩⟩
      rw [decide_eq_false c2, iteO_false]
      left
      exact ⟨(), rfl, by rw [all_snocD, hI]; simp [goodS]; omega⟩)
    (fun s hI => by
      simp only [dfa_Check_b2]
      rw [show decide ((((nth d.next k ([] : List Int)).length : Nat) : Int) < (((nth d.next k ([] : List Int)).length : Nat) : Int)) = false from decide_eq_false (by omega), iteO_false]
      exact ⟨_, rfl, .inl ⟨hI, rfl⟩⟩) (s0 := ()) rfl
theorem chk_out (d : Dfa) (v : (List BSet) × Int) : ∃ r, iter (fun q : Nat => dfa_Check_b1 d v q) 0 = some r ∧ ((d.next.all (goodR d.next.length v.1.length) = true ∧ r = 0) ∨ (d.next.all (goodR d.next.length v.1.length) = false ∧ r = 1)) :=
  iter_for (step := fun q : Nat => dfa_Check_b1 d v q) (fun (_ : Unit) j => j) d.next [] (fun pre _ => pre.all (goodR d.next.length v.1.length) = true) (fun r => (d.next.all (goodR d.next.length v.1.length) = true ∧ r = 0) ∨ (d.next.all (goodR d.next.length v.1.length) = false ∧ r = 1))
    (fun k s hk hI => by
      simp only [dfa_Check_b1]
      rw [show decide (((k : Nat) : Int) < ((d.next.length : Nat) : Int)) = true from decide_eq_true (by omega), iteO_true]
      by_cases c1 : (nth d.next k ([] : List Int)).length = v.1.length
      · rw [show decide ((((nth d.next k ([] : List Int)).length : Nat) : Int) ≠ ((v.1.length : Nat) : Int)) = false from decide_eq_false (by omega), iteO_false]
        obtain ⟨r, h1, h2 | h2⟩ := chk_in d k
        · left; rw [h1, h2.2]; exact ⟨(), rfl, by rw [all_snocD, hI]; simp [goodR, c1, h2.1]⟩
        · right; rw [h1, h2.2]; exact ⟨_, rfl, .inr ⟨all_falseD hk [] (by simp only [goodR, h2.1, Bool.and_false]), rfl⟩⟩
      · right
        rw [show decide ((((nth d.next k ([] : List Int)).length : Nat) : Int) ≠ ((v.1.length : Nat) : Int)) = true from decide_eq_true (by omega), iteO_true]
        exact ⟨_, rfl, .inr ⟨all_falseD hk [] (by simp [goodR, c1]), rfl⟩⟩)
    (fun s hI => by
      simp only [dfa_Check_b1]
      rw [show decide (((d.next.length : Nat) : Int) < ((d.next.length : Nat) : Int)) = false from decide_eq_false (by omega), iteO_false]
      exact ⟨_, rfl, .inl ⟨hI, rfl⟩⟩) (s0 := ()) rfl
theorem dcheck_eq (d : Dfa) : dfa_Check d = some (if rightD d = true then 0 else 1) := by
  unfold dfa_Check
  obtain ⟨v, hv, h⟩ := partSets_ok d.cls
  rw [bnd_some hv]
  rcases h with ⟨h1, h2⟩ | ⟨h1, h2, h3⟩
  · rw [decide_eq_true (show v.2 ≠ 0 by omega), iteO_true]
    rw [if_neg]
    rcases h1 with h1 | h1
    · simp [rightD, h1]
    · simp [rightD, h1]
  · rw [decide_eq_false (show ¬ v.2 ≠ 0 by omega), iteO_false]
    by_cases c1 : d.next.length < 1
    · rw [show decide (((d.next.length : Nat) : Int) < 1) = true from decide_eq_true (by omega), iteO_true, if_neg]
      simp only [rightD, Bool.and_eq_true, decide_eq_true_eq]; omega
    rw [show decide (((d.next.length : Nat) : Int) < 1) = false from decide_eq_false (by omega), iteO_false]
    by_cases c2 : 1024 < d.next.length
    · rw [show decide (1024 < ((d.next.length : Nat) : Int)) = true from decide_eq_true (by omega), iteO_true, if_neg]
      simp only [rightD, Bool.and_eq_true, decide_eq_true_eq]; omega
    rw [show decide (1024 < ((d.next.length : Nat) : Int)) = false from decide_eq_false (by omega), iteO_false]
    by_cases c3 : d.fin.length = d.next.length
    · rw [show decide (((d.fin.length : Nat) : Int) ≠ ((d.next.length : Nat) : Int)) = false from decide_eq_false (by omega), iteO_false]
      obtain ⟨r, hr, hr2⟩ := chk_out d v
      rw [hr]
      have e : rightD d = d.next.all (goodR d.next.length v.1.length) := by
        simp only [rightD, h1, h2, c3, decide_true, Bool.true_and, Bool.and_true]
        rw [show decide (1 ≤ d.next.length ∧ d.next.length ≤ 1024) = true from decide_eq_true (by omega), Bool.and_true]
      rw [e]
      rcases hr2 with ⟨h4, h5⟩ | ⟨h4, h5⟩
      · rw [h4, h5, if_pos rfl]
      · rw [h4, h5, if_neg (by simp)]
    · rw [show decide (((d.fin.length : Nat) : Int) ≠ ((d.next.length : Nat) : Int)) = true from decide_eq_true (by omega), iteO_true, if_neg]
      simp only [rightD, Bool.and_eq_true, decide_eq_true_eq]; omega
theorem cnt_mem : ∀ (l : List Int) (j m : Nat), l.foldl cntS (some j) = some m → j ≤ m ∧ ∀ n ∈ l, 0 ≤ n ∧ n < (m : Int)
  | [], j, m, h => by cases h; simp
  | n :: l, j, m, h => by
    rw [List.foldl_cons] at h
    by_cases hc : n < 0 ∨ (j : Int) < n
    · rw [show cntS (some j) n = none by simp [cntS, hc], cntS_none] at h; cases h
    · rw [show cntS (some j) n = some (if n = j then j + 1 else j) by simp [cntS, hc]] at h
      obtain ⟨h1, h2⟩ := cnt_mem l _ m h
      refine ⟨by split at h1 <;> omega, fun k hk => ?_⟩
      rcases List.mem_cons.1 hk with rfl | hk
      · split at h1 <;> omega
      · exact h2 k hk
def okS (d : Dfa) (s : Int) : Prop := 0 ≤ s ∧ s < (d.next.length : Int)
/-- The state behind a state, by a byte. -/
def dlt (d : Dfa) (s : Int) (b : UInt8) : Int := nth (nth d.next s.toNat ([] : List Int)) ((nth d.cls b.toNat (0 : Int)).toNat) (0 : Int)
theorem nth_memD {α : Type} {l : List α} {i : Nat} (hi : i < l.length) (d : α) : nth l i d ∈ l := List.mem_of_getElem? (getD_some l hi d)
structure DltOk (d : Dfa) (s : Int) (b : UInt8) : Prop where
  cl : b.toNat < d.cls.length
  c : 0 ≤ nth d.cls b.toNat (0 : Int) ∧ nth d.cls b.toNat (0 : Int) < ((nth d.next s.toNat ([] : List Int)).length : Int)
  nx : okS d (dlt d s b)
  f : 0 ≤ dlt d s b ∧ dlt d s b < (d.fin.length : Int)
theorem ok0 {d : Dfa} (h : rightD d = true) : okS d 0 := by
  simp only [rightD, Bool.and_eq_true, decide_eq_true_eq] at h
  exact ⟨by omega, by omega⟩
end Go.Proofs.YtcfjjckencjjeaaGreatDoor
end

/- RatP -/
section
/- Automatons as transducers: the program. Plain lemmas, no condition. -/
set_option linter.unusedVariables false
set_option linter.unusedSimpArgs false
namespace Go.Proofs.YtcfjjckencjjeaaGreatDoor
open Go Go.E
set_option maxRecDepth 100000

/-! ### What is put together -/
def growSt (g : Grow) (x : Tip) : Grow := if g.over = true ∨ 1024 ≤ g.f.starts.length ∨ 1024 < x.out.length then ⟨g.f, true⟩ else ⟨⟨g.f.states, g.f.starts ++ [x], g.f.ends, g.f.arcs⟩, false⟩
def growEn (g : Grow) (x : Tip) : Grow := if g.over = true ∨ 1024 ≤ g.f.ends.length ∨ 1024 < x.out.length then ⟨g.f, true⟩ else ⟨⟨g.f.states, g.f.starts, g.f.ends ++ [x], g.f.arcs⟩, false⟩
def growAr (g : Grow) (x : Arc) : Grow := if g.over = true ∨ 16384 ≤ g.f.arcs.length ∨ 1024 < x.out.length then ⟨g.f, true⟩ else ⟨⟨g.f.states, g.f.starts, g.f.ends, g.f.arcs ++ [x]⟩, false⟩
def lookG (g : Grow) : Fst × Int := if g.over = true ∨ 1024 < g.f.states then (⟨0, [], [], []⟩, 2) else (g.f, 0)
theorem start_eq (g : Grow) (x : Tip) : rat_grow_start g x = some (growSt g x) := by
  unfold rat_grow_start growSt
  obtain ⟨⟨n, S, E, A⟩, o⟩ := g
  cases o with
  | true => rw [if_pos (.inl rfl)]; rfl
  | false =>
    dsimp only
    rw [iteO_false]
    by_cases h1 : 1024 ≤ S.length
    · rw [iteO_dt (by omega), if_pos (.inr (.inl h1))]
    · rw [iteO_df (by omega)]
      by_cases h2 : 1024 < x.out.length
      · rw [iteO_dt (by omega), if_pos (.inr (.inr h2))]
      · rw [iteO_df (by omega), grd_mk (by simp only [List.length_singleton]; omega), if_neg (by simp; omega)]
theorem end_eq (g : Grow) (x : Tip) : rat_grow_end g x = some (growEn g x) := by
  unfold rat_grow_end growEn
  obtain ⟨⟨n, S, E, A⟩, o⟩ := g
  cases o with
  | true => rw [if_pos (.inl rfl)]; rfl
  | false =>
    dsimp only
    rw [iteO_false]
    by_cases h1 : 1024 ≤ E.length
    · rw [iteO_dt (by omega), if_pos (.inr (.inl h1))]
    · rw [iteO_df (by omega)]
      by_cases h2 : 1024 < x.out.length
      · rw [iteO_dt (by omega), if_pos (.inr (.inr h2))]
      · rw [iteO_df (by omega), grd_mk (by simp only [List.length_singleton]; omega), if_neg (by simp; omega)]
theorem arc_eq (g : Grow) (x : Arc) : rat_grow_arc g x = some (growAr g x) := by
  unfold rat_grow_arc growAr
  obtain ⟨⟨n, S, E, A⟩, o⟩ := g
  cases o with
  | true => rw [if_pos (.inl rfl)]; rfl
  | false =>
    dsimp only
    rw [iteO_false]
    by_cases h1 : 16384 ≤ A.length
    · rw [iteO_dt (by omega), if_pos (.inr (.inl h1))]
    · rw [iteO_df (by omega)]
      by_cases h2 : 1024 < x.out.length
      · rw [iteO_dt (by omega), if_pos (.inr (.inr h2))]
      · rw [iteO_df (by omega), grd_mk (by simp only [List.length_singleton]; omega), if_neg (by simp; omega)]
theorem look_eq (g : Grow) : rat_grow_look g = some (lookG g) := by
  unfold rat_grow_look lookG
  obtain ⟨⟨n, S, E, A⟩, o⟩ := g
  cases o with
  | true => rw [if_pos (.inl rfl)]; rfl
  | false =>
    dsimp only
    rw [iteO_false]
    by_cases h : 1024 < n
    · rw [iteO_dt h, if_pos (.inr h)]
    · rw [iteO_df h, if_neg (by simp; omega)]

/-! ### The way back -/
theorem cls_run {S : Type} {B : S → Int × BSet → Option (Nat × S)} {x1 : List BSet} (I : Nat → S → Prop) (hB : ∀ k l, k < x1.length → I k l → ∃ l', B l (((k : Nat) : Int), nth x1 k BSet.zero) = some (0, l') ∧ I (k + 1) l') {l0 : S} (h0 : I 0 l0) :
    ∃ l, dfa_classes_1 (stepY B) (0, l0) x1 = some (0, l) ∧ I x1.length l := by
  unfold dfa_classes_1
  obtain ⟨r, h1, l, h2, h3⟩ := iter_up (step := fun q : Nat × (Nat × S) => dfa_classes_1_b1 x1 (stepY B) q.1 q.2) (fun (s : S) k => (k, (0, s))) x1.length I (fun r => ∃ l, r = (0, l) ∧ I x1.length l)
    (fun k l hk hI => by
      obtain ⟨l', h1, h2⟩ := hB k l hk hI
      refine .inl ⟨l', ?_, h2⟩
      show dfa_classes_1_b1 x1 (stepY B) k (0, l) = _
      unfold dfa_classes_1_b1
      rw [iteO_dt (by omega)]
      have hs : stepY B (0, l) (((k : Nat) : Int), nth x1 k BSet.zero) = some ((0, l'), true) := by
        unfold stepY
        rw [if_pos rfl, h1]; rfl
      rw [bnd_some hs]; rfl)
    (fun l hI => ⟨(0, l), by
      show dfa_classes_1_b1 x1 (stepY B) x1.length (0, l) = _
      unfold dfa_classes_1_b1
      rw [iteO_df (by omega)]; rfl, l, rfl, hI⟩) h0
  exact ⟨l, by rw [h1, h2], h3⟩
/-- What is known of a right automaton's row at a byte. -/
structure RowOk (d : Dfa) (m s b : Nat) : Prop where
  cl : b < d.cls.length
  c0 : 0 ≤ nth d.cls b (0 : Int)
  c1 : nth d.cls b (0 : Int) < ((m : Nat) : Int)
  n0 : 0 ≤ nth (nth d.next s ([] : List Int)) (nth d.cls b (0 : Int)).toNat (0 : Int)
  n1 : nth (nth d.next s ([] : List Int)) (nth d.cls b (0 : Int)).toNat (0 : Int) < ((d.next.length : Nat) : Int)
theorem right_parts {d : Dfa} (h : rightD d = true) : ∃ m, cntF d.cls = some m ∧ d.cls.length = 256 ∧ 1 ≤ d.next.length ∧ d.next.length ≤ 1024 ∧ d.fin.length = d.next.length ∧ (∀ s, s < d.next.length → (nth d.next s ([] : List Int)).length = m ∧ ∀ c, c < m → 0 ≤ nth (nth d.next s ([] : List Int)) c (0 : Int) ∧ nth (nth d.next s ([] : List Int)) c (0 : Int) < ((d.next.length : Nat) : Int)) := by
  simp only [rightD, Bool.and_eq_true, decide_eq_true_eq] at h
  obtain ⟨⟨⟨h1, h2⟩, h3⟩, h4⟩ := h
  cases hm : cntF d.cls with
  | none => rw [hm] at h2; cases h2
  | some m =>
    rw [hm] at h2
    refine ⟨m, rfl, h1, h3.1, h3.2, h4, fun s hs => ?_⟩
    have hrow := List.all_eq_true.1 h2 _ (nth_memD (l := d.next) (i := s) hs [])
    simp only [goodR, Bool.and_eq_true, decide_eq_true_eq] at hrow
    refine ⟨hrow.1, fun c hc => ?_⟩
    have hx := List.all_eq_true.1 hrow.2 _ (nth_memD (l := nth d.next s []) (i := c) (by omega) 0)
    simp only [goodS, Bool.and_eq_true, decide_eq_true_eq] at hx
    exact hx
theorem row_ok {d : Dfa} {m : Nat} (h : rightD d = true) (hm : cntF d.cls = some m) {s b : Nat} (hs : s < d.next.length) (hb : b < 256) : RowOk d m s b := by
  obtain ⟨m', h1, h2, h3, h4, h5, h6⟩ := right_parts h
  rw [hm] at h1; cases h1
  have hcl : b < d.cls.length := by omega
  have hc := (cnt_mem d.cls 0 m hm).2 _ (nth_memD hcl 0)
  obtain ⟨-, h7⟩ := h6 s hs
  have h8 := h7 (nth d.cls b (0 : Int)).toNat (by omega)
  exact ⟨hcl, hc.1, hc.2, h8.1, h8.2⟩
theorem toS_far {d : Dfa} (h : rightD d = true) {s z : Nat} (hs : s < d.next.length) (hz : d.next.length ≤ z) : toS d s z = BSet.zero := by
  obtain ⟨m, hm, -⟩ := right_parts h
  unfold toS
  rw [← BSet.make_zero]
  refine BSet.make_congr fun b hb => decide_eq_false ?_
  have := (row_ok h hm hs hb).n1
  omega
theorem backR_snoc (d : Dfa) (s m : Nat) : backR d s (m + 1) = backR d s m ++ (if toS d s m = BSet.zero then [] else [⟨((s : Nat) : Int), ((m : Nat) : Int), toS d s m⟩]) := by
  unfold backR
  rw [List.range_succ, List.flatMap_append]; simp
theorem backR_far {d : Dfa} (h : rightD d = true) {s : Nat} (hs : s < d.next.length) : ∀ j, backR d s (d.next.length + j) = backR d s d.next.length
  | 0 => rfl
  | j + 1 => by rw [← Nat.add_assoc, backR_snoc, toS_far h hs (by omega), if_pos rfl, List.append_nil, backR_far h hs j]
theorem backE_snoc (d : Dfa) (m : Nat) : backE d (m + 1) = backE d m ++ backR d m d.next.length := by
  unfold backE
  rw [List.range_succ, List.flatMap_append]; simp
theorem endsN_snoc (d : Dfa) (m : Nat) : endsN d (m + 1) = endsN d m ++ (if nth d.fin m false = true then [((m : Nat) : Int)] else []) := by
  unfold endsN
  rw [List.range_succ, List.flatMap_append]; simp
/-- The sets by which a state goes on, of the classes so far. -/
structure ByI (d : Dfa) (s k : Nat) (l : List BSet) : Prop where
  len : l.length = 1024
  at_ : ∀ z, z < 1024 → nth l z BSet.zero = BSet.make fun b => decide (nth d.cls b (0 : Int) < ((k : Nat) : Int)) && decide (nth (nth d.next s ([] : List Int)) (nth d.cls b (0 : Int)).toNat (0 : Int) = ((z : Nat) : Int))
theorem by_step {d : Dfa} {m s k : Nat} {l : List BSet} (h : rightD d = true) (hm : cntF d.cls = some m) (hs : s < d.next.length) (hk : k < m) (hI : ByI d s k l) :
    ∃ l', dfa_Back_r64 d s l ((k : Nat) : Int) (clsS d.cls k) = some (0, l') ∧ ByI d s (k + 1) l' := by
  obtain ⟨m', h1, h2, h3, h4, h5, h6⟩ := right_parts h
  rw [hm] at h1; cases h1
  obtain ⟨h7, h8⟩ := h6 s hs
  have h9 := h8 k hk
  have hz : (nth (nth d.next s ([] : List Int)) k (0 : Int)).toNat < l.length := by rw [hI.len]; omega
  refine ⟨l.set (nth (nth d.next s ([] : List Int)) k (0 : Int)).toNat (BSet.make fun b => (nth l (nth (nth d.next s ([] : List Int)) k (0 : Int)).toNat BSet.zero).has b || (clsS d.cls k).has b), ?_, ⟨by rw [List.length_set]; exact hI.len, fun z hz2 => ?_⟩⟩
  · unfold dfa_Back_r64
    rw [show ((k : Nat) : Int).toNat = k from Int.toNat_natCast k]
    have q1 : 0 ≤ ((k : Nat) : Int) ∧ ((k : Nat) : Int) < (((nth d.next s ([] : List Int)).length : Nat) : Int) := ⟨by omega, by omega⟩
    have q2 : 0 ≤ nth (nth d.next s ([] : List Int)) k (0 : Int) ∧ nth (nth d.next s ([] : List Int)) k (0 : Int) < 1024 := ⟨h9.1, by omega⟩
    first | rw [grd_mk hs, grd_mk q1, grd_mk hs, grd_mk q1, grd_mk q2, bnd_some (any_eq _ _), grd_mk q2] | rw [grd_mk q1, grd_mk q1, grd_mk q2, bnd_some (any_eq _ _), grd_mk q2]
  · rw [nth_set' _ _ _ _ _ hz]
    split
    · rename_i e
      subst e
      rw [hI.at_ _ hz2]
      refine BSet.make_congr fun b hb => ?_
      have hr := row_ok h hm hs hb
      rw [BSet.make_has _ hb]
      unfold clsS
      rw [BSet.make_has _ hb]
      by_cases e1 : nth d.cls b (0 : Int) = ((k : Nat) : Int)
      · rw [e1, Int.toNat_natCast]
        simp; omega
      · rw [decide_eq_false e1, Bool.or_false]
        congr 1
        rw [decide_eq_decide]; omega
    · rename_i e
      rw [hI.at_ _ hz2]
      refine BSet.make_congr fun b hb => ?_
      have hr := row_ok h hm hs hb
      by_cases e1 : nth d.cls b (0 : Int) = ((k : Nat) : Int)
      · rw [e1, Int.toNat_natCast, decide_eq_false (show ¬ nth (nth d.next s ([] : List Int)) k (0 : Int) = ((z : Nat) : Int) by omega)]; simp
      · congr 1
        rw [decide_eq_decide]; omega
theorem by_all {d : Dfa} {m s : Nat} {l : List BSet} (h : rightD d = true) (hm : cntF d.cls = some m) (hs : s < d.next.length) (hI : ByI d s m l) : l.length = 1024 ∧ ∀ z, z < 1024 → nth l z BSet.zero = toS d s z :=
  ⟨hI.len, fun z hz => by
    rw [hI.at_ z hz]
    unfold toS
    refine BSet.make_congr fun b hb => ?_
    rw [decide_eq_true (row_ok h hm hs hb).c1, Bool.true_and]⟩
theorem nth_rep {α : Type} (n i : Nat) (x : α) : nth (List.replicate n x) i x = x := by
  unfold nth
  rw [List.getD_eq_getElem?_getD, List.getElem?_replicate]
  split <;> rfl
theorem by_run {d : Dfa} {v6 : List BSet × Int} {s : Nat} (h : rightD d = true) (hm : cntF d.cls = some v6.1.length) (hsets : ∀ c, c < v6.1.length → nth v6.1 c BSet.zero = clsS d.cls c) (hs : s < d.next.length) :
    ∃ l, dfa_classes_1 (stepY (fun (q : (List BSet)) (x : Int × BSet) => dfa_Back_r64 d s q x.1 x.2)) (0, (List.replicate 1024 BSet.zero)) v6.1 = some (0, l) ∧ l.length = 1024 ∧ ∀ z, z < 1024 → nth l z BSet.zero = toS d s z := by
  obtain ⟨l, h1, h2⟩ := cls_run (B := fun (q : (List BSet)) (x : Int × BSet) => dfa_Back_r64 d s q x.1 x.2) (x1 := v6.1) (ByI d s) (fun k l hk hI => by
    dsimp only
    rw [hsets k hk]; exact by_step h hm hs hk hI) (l0 := List.replicate 1024 BSet.zero) ⟨List.length_replicate, fun z _ => by
      rw [nth_rep, ← BSet.make_zero]
      refine BSet.make_congr fun b hb => ?_
      have := (row_ok h hm hs hb).c0
      rw [decide_eq_false (by omega), Bool.false_and]⟩
  exact ⟨l, h1, by_all h hm hs h2⟩
theorem back_in {d : Dfa} {s : Nat} {l : List BSet} {E : List Int} {A0 : List Arrow} (h : rightD d = true) (hs : s < d.next.length) (hl : ∀ z, z < 1024 → nth l z BSet.zero = toS d s z) (hA : A0.length ≤ 20000) (hn : d.next.length ≤ 100) :
    iter (fun q : (List Arrow) × Nat => dfa_Back_b2 l s E q.1 q.2) (A0, 0) = some (.inl (E, A0 ++ backR d s d.next.length, s + 1)) := by
  obtain ⟨r, h1, rfl⟩ := iter_up (step := fun q : (List Arrow) × Nat => dfa_Back_b2 l s E q.1 q.2) (fun (A : List Arrow) k => (A, k)) 1024 (fun k A => A = A0 ++ backR d s k) (fun r => r = .inl (E, A0 ++ backR d s d.next.length, s + 1))
    (fun k A hk hI => by
      subst hI
      have hlen := backR_len d s k
      refine .inl ⟨A0 ++ backR d s (k + 1), ?_, rfl⟩
      show dfa_Back_b2 l s E _ k = _
      unfold dfa_Back_b2 dfa_Back_j2
      rw [iteO_dt (by omega), hl k hk]
      by_cases hz : toS d s k = BSet.zero
      · rw [iteO_df (by simpa using hz), backR_snoc, if_pos hz, List.append_nil]; rfl
      · rw [iteO_dt hz, grd_mk (by simp only [List.length_append, List.length_singleton]; omega), backR_snoc, if_neg hz, List.append_assoc]; rfl)
    (fun A hI => by
      subst hI
      have hlen := backR_len d s d.next.length
      have e := backR_far h hs (1024 - d.next.length)
      rw [show d.next.length + (1024 - d.next.length) = 1024 by omega] at e
      refine ⟨_, ?_, rfl⟩
      show dfa_Back_b2 l s E _ 1024 = _
      unfold dfa_Back_b2
      rw [iteO_df (by omega), e, iteO_df (by simp only [List.length_append]; omega)]; rfl) (s0 := A0) (by simp [backR])
  exact h1
theorem dback_eq {d : Dfa} (hn : d.next.length ≤ 100) : dfa_Back d = some (if rightD d = true then (backN d, 0) else (⟨0, [], [], []⟩, 1)) := by
  unfold dfa_Back
  obtain ⟨v6, hv, hp⟩ := partSets_full d.cls
  rw [bnd_some hv]
  by_cases h : rightD d = true
  · rw [if_pos h]
    obtain ⟨m, hm, h2, h3, h4, h5, h6⟩ := right_parts h
    rcases hp with ⟨hp, -⟩ | ⟨-, hc, h0, hsets, -⟩
    · rcases hp with hp | hp
      · exact absurd h2 hp
      · rw [hm] at hp; cases hp
    rw [iteO_df (by omega), dcheck_eq, bnd_mk, if_pos h, iteO_df (by simp)]
    have hm2 : m = v6.1.length := by rw [hm] at hc; exact Option.some.inj hc
    subst hm2
    obtain ⟨r, h7, rfl⟩ := iter_up (step := fun q : (List Int) × (List Arrow) × Nat => dfa_Back_b1 d v6 q.1 q.2.1 q.2.2) (fun (s : List Int × List Arrow) k => (s.1, s.2, k)) d.next.length (fun k s => s = (endsN d k, backE d k)) (fun r => r = (backN d, 0))
      (fun k s hk hI => by
        subst hI
        have e1 := endsN_len d k
        have e2 := backE_len d k
        have e3 := Nat.mul_le_mul (show k ≤ 100 by omega) hn
        obtain ⟨l, q1, q2, q3⟩ := by_run h hm hsets hk
        refine .inl ⟨(endsN d (k + 1), backE d (k + 1)), ?_, rfl⟩
        show dfa_Back_b1 d v6 _ _ k = _
        have hj : ∀ E : List Int, dfa_Back_j1 v6 d k (backE d k) E = some (.inl (E, backE d (k + 1), k + 1)) := fun E => by
          unfold dfa_Back_j1 dfa_classes
          rw [bnd_mk, bnd_some q1]
          show dfa_Back_k64 k E (backE d k) 0 l = _
          unfold dfa_Back_k64
          show iter _ _ = _
          rw [back_in h hk q3 (by omega) hn, backE_snoc]
        unfold dfa_Back_b1
        rw [iteO_dt (by omega), grd_mk (by omega), endsN_snoc]
        by_cases hf : nth d.fin k false = true
        · rw [hf, iteO_true, if_pos rfl, grd_mk (by simp only [List.length_singleton]; omega), hj]
        · simp only [Bool.not_eq_true] at hf
          rw [hf, iteO_false, if_neg (by simp), List.append_nil, hj])
      (fun s hI => by
        subst hI
        refine ⟨_, ?_, rfl⟩
        show dfa_Back_b1 d v6 _ _ d.next.length = _
        unfold dfa_Back_b1
        rw [iteO_df (by omega)]; rfl) (s0 := ([], [])) (by simp [endsN, backE])
    exact h7
  · rw [if_neg h, dcheck_eq]
    by_cases hv2 : v6.2 = 0
    · rw [iteO_df (by omega), bnd_mk, if_neg h, iteO_dt (by simp)]
    · rw [iteO_dt hv2]

/-! ### The transducer -/
theorem gstarts_run {v5 : Nfa × Int} {x1 : List UInt8} {x2 : Bool} {n : Int} {R : Fst × Int} (hs : v5.1.starts = [0])
    (hnext : iter (fun q : Int × (List Tip) × (List Tip) × (List Arc) × Bool × Nat => rat_back_b2 v5 x1 x2 q.1 q.2.1 q.2.2.1 q.2.2.2.1 q.2.2.2.2.1 q.2.2.2.2.2) (n, [⟨0, []⟩], [], [], false, 0) = some R) :
    iter (fun q : Int × (List Tip) × (List Tip) × (List Arc) × Bool × Nat => rat_back_b1 v5 x1 x2 q.1 q.2.1 q.2.2.1 q.2.2.2.1 q.2.2.2.2.1 q.2.2.2.2.2) (n, [], [], [], false, 0) = some R := by
  have h1 : rat_back_b1 v5 x1 x2 n [] [] [] false 0 = some (.inl (n, [⟨0, []⟩], [], [], false, 1)) := by
    unfold rat_back_b1
    rw [hs, iteO_dt (by simp), start_eq, bnd_mk]; rfl
  refine iter_next (s' := (n, [⟨0, []⟩], [], [], false, 1)) h1 (iter_done ?_)
  show rat_back_b1 v5 x1 x2 n [⟨0, []⟩] [] [] false 1 = _
  unfold rat_back_b1
  rw [hs, iteO_df (by simp)]
  show fin _ = _
  rw [hnext]; rfl
theorem ratBack_eq {d : Dfa} (hn : d.next.length ≤ 100) (out : List UInt8) (c : Bool) (ho : out.length ≤ 1024) : rat_back d out c = some (if rightD d = true then (mkF d out c, 0) else (⟨0, [], [], []⟩, 1)) := by
  unfold rat_back
  rw [grd_mk (by omega), dback_eq hn, bnd_mk]
  by_cases h : rightD d = true
  · rw [if_pos h, if_pos h]
    dsimp only
    rw [iteO_df (by simp)]
    have e1 := endsN_len d d.next.length
    have e2 := backE_len d d.next.length
    have e3 := Nat.mul_le_mul hn hn
    refine gstarts_run (v5 := (backN d, 0)) rfl ?_
    obtain ⟨r, h1, rfl⟩ := iter_up (step := fun q : Int × (List Tip) × (List Tip) × (List Arc) × Bool × Nat => rat_back_b2 (backN d, 0) out c q.1 q.2.1 q.2.2.1 q.2.2.2.1 q.2.2.2.2.1 q.2.2.2.2.2) (fun (E : List Tip) k => (((d.next.length : Nat) : Int), [⟨0, []⟩], E, [], false, k)) (endsN d d.next.length).length
      (fun k E => E = ((endsN d d.next.length).take k).map fun s => ⟨s, out⟩) (fun r => r = (mkF d out c, 0))
      (fun k E hk hI => by
        subst hI
        refine .inl ⟨_, ?_, rfl⟩
        show rat_back_b2 (backN d, 0) out c _ _ _ _ _ k = _
        unfold rat_back_b2
        show iteO (decide (((k : Nat) : Int) < (((endsN d d.next.length).length : Nat) : Int))) _ _ = _
        rw [iteO_dt (by omega), end_eq, bnd_mk]
        unfold growEn
        rw [if_neg (by simp only [Bool.false_eq_true, false_or, List.length_map, List.length_take]; omega)]
        rw [List.take_add_one, getD_some _ hk 0, Option.toList_some, List.map_append]; rfl)
      (fun E hI => by
        subst hI
        rw [List.take_length]
        refine ⟨_, ?_, rfl⟩
        show rat_back_b2 (backN d, 0) out c _ _ _ _ _ (endsN d d.next.length).length = _
        unfold rat_back_b2
        show iteO (decide ((((endsN d d.next.length).length : Nat) : Int) < (((endsN d d.next.length).length : Nat) : Int))) _ _ = _
        rw [iteO_df (by omega)]
        obtain ⟨r, h1, rfl⟩ := iter_up (step := fun q : Int × (List Tip) × (List Tip) × (List Arc) × Bool × Nat => rat_back_b3 (backN d, 0) c q.1 q.2.1 q.2.2.1 q.2.2.2.1 q.2.2.2.2.1 q.2.2.2.2.2) (fun (A : List Arc) k => (((d.next.length : Nat) : Int), [⟨0, []⟩], (endsN d d.next.length).map (fun s => (⟨s, out⟩ : Tip)), A, false, k)) (backE d d.next.length).length
          (fun k A => A = ((backE d d.next.length).take k).map fun x => ⟨x.frm, x.to, x.set, [], c⟩) (fun r => r = (mkF d out c, 0))
          (fun k A hk hI => by
            subst hI
            refine .inl ⟨_, ?_, rfl⟩
            show rat_back_b3 (backN d, 0) c _ _ _ _ _ k = _
            unfold rat_back_b3
            show iteO (decide (((k : Nat) : Int) < (((backE d d.next.length).length : Nat) : Int))) _ _ = _
            rw [iteO_dt (by omega), arc_eq, bnd_mk]
            unfold growAr
            rw [if_neg (by simp only [Bool.false_eq_true, false_or, List.length_map, List.length_take, List.length_nil]; omega)]
            rw [List.take_add_one, getD_some _ hk Arrow.zero, Option.toList_some, List.map_append]; rfl)
          (fun A hI => by
            subst hI
            rw [List.take_length]
            refine ⟨_, ?_, rfl⟩
            show rat_back_b3 (backN d, 0) c _ _ _ _ _ (backE d d.next.length).length = _
            unfold rat_back_b3
            show iteO (decide ((((backE d d.next.length).length : Nat) : Int) < (((backE d d.next.length).length : Nat) : Int))) _ _ = _
            rw [iteO_df (by omega), look_eq, bnd_mk]
            unfold lookG
            rw [if_neg (by simp only [Bool.false_eq_true, false_or]; omega)]; rfl) (s0 := []) (by simp)
        show fin (iter _ _) = _
        rw [h1]; rfl) (s0 := []) (by simp)
    exact h1
  · rw [if_neg h, if_neg h]; rfl
theorem same16_eq {d : Dfa} (hn : d.next.length ≤ 100) : rat_Same d = some (if rightD d = true then (mkF d [] true, 0) else (⟨0, [], [], []⟩, 1)) := by
  unfold rat_Same
  rw [dcheck_eq, bnd_mk]
  by_cases h : rightD d = true
  · rw [if_pos h, if_pos h, iteO_df (by simp), ratBack_eq hn [] true (by simp), bnd_mk, if_pos h]
  · rw [if_neg h, if_neg h, iteO_dt (by simp)]
theorem cross_eq {d : Dfa} (hn : d.next.length ≤ 100) (out : List UInt8) (ho : out.length ≤ 281474976710656) : rat_Cross d out = some (if rightD d = true then (if 1024 < out.length then (⟨0, [], [], []⟩, 2) else (mkF d out false, 0)) else (⟨0, [], [], []⟩, 1)) := by
  unfold rat_Cross
  rw [grd_mk ho, dcheck_eq, bnd_mk]
  by_cases h : rightD d = true
  · rw [if_pos h, if_pos h, iteO_df (by simp)]
    by_cases h2 : 1024 < out.length
    · rw [iteO_dt (by omega), if_pos h2]
    · rw [iteO_df (by omega), if_neg h2, ratBack_eq hn out false (by omega), bnd_mk, if_pos h]
  · rw [if_neg h, if_neg h, iteO_dt (by simp)]
end Go.Proofs.YtcfjjckencjjeaaGreatDoor
end

/- M2 -/
section
/- Decompiled: the reference's automatons as transducers. -/
set_option linter.unusedVariables false
set_option linter.unusedSimpArgs false
namespace Go.Proofs.YtcfjjckencjjeaaGreatDoor
open Go Go.E Go.E.OpVal Go.E.OpOk Go.Proofs.Tryz
set_option maxRecDepth 100000
private theorem ag23 : Go.E.aggOf Tryz.prog 23 = some false := by kernel_rfl
private theorem ag24 : Go.E.aggOf Tryz.prog 24 = some false := by kernel_rfl
private theorem ag26 : Go.E.aggOf Tryz.prog 26 = some true := by kernel_rfl
private theorem by4 : Go.E.byOf Tryz.prog 4 = some 1 := by kernel_rfl
private theorem by58 : Go.E.byOf Tryz.prog 58 = some 32 := by kernel_rfl
private theorem by62 : Go.E.byOf Tryz.prog 62 = some 24 := by kernel_rfl
private theorem fo26_0 : Go.E.foOf Tryz.prog 26 0 = some 0 := by kernel_rfl
private theorem fo26_1 : Go.E.foOf Tryz.prog 26 1 = some 1 := by kernel_rfl
private theorem fo26_2 : Go.E.foOf Tryz.prog 26 2 = some 2 := by kernel_rfl
private theorem pf24 : Go.E.plainF Tryz.prog 24 = true := by kernel_rfl
private theorem pf43 : Go.E.plainF Tryz.prog 43 = true := by kernel_rfl
private theorem pf44 : Go.E.plainF Tryz.prog 44 = true := by kernel_rfl
private theorem pf45 : Go.E.plainF Tryz.prog 45 = true := by kernel_rfl
private theorem pf57 : Go.E.plainF Tryz.prog 57 = true := by kernel_rfl
private theorem pf58 : Go.E.plainF Tryz.prog 58 = true := by kernel_rfl
private theorem pf59 : Go.E.plainF Tryz.prog 59 = true := by kernel_rfl
private theorem pl31 : Go.E.plOf Tryz.prog 31 = some #[(0, 1), (1, 1), (2, 1), (3, 1)] := by kernel_rfl
private theorem pl60 : Go.E.plOf Tryz.prog 60 = some #[(0, 1), (1, 1), (2, 4), (6, 1), (7, 1)] := by kernel_rfl
private theorem pl62 : Go.E.plOf Tryz.prog 62 = some #[(0, 1), (1, 1)] := by kernel_rfl
private theorem sz22 : Go.E.szOf Tryz.prog 22 = some 1 := by kernel_rfl
private theorem sz26 : Go.E.szOf Tryz.prog 26 = some 3 := by kernel_rfl
private theorem sz28 : Go.E.szOf Tryz.prog 28 = some 1 := by kernel_rfl
private theorem ze31 : Go.E.zeroOf Tryz.prog 31 = some (.agg #[.int .i64 0, .slice none 0 0, .slice none 0 0, .slice none 0 0]) := by kernel_rfl
private theorem ze4 : Go.E.zeroOf Tryz.prog 4 = some (.bool false) := by kernel_rfl
theorem make_conL (σ : Store) (a : Option Addr) (c : Nat) (l : List Bool) (h256 : l.length = 256) :
  Con Tryz.prog 58 #[.slice a l.length c] σ [Res.rowS 4 1 encB (.slice a l.length c) l] (PureP (setV (BSet.make fun i => nth l i false)) σ) := by
 rw [h256]; exact make_con σ a c l h256
theorem make_conN {σ : Store} {a : Option Addr} {c N : Nat} {l : List Bool} (hn : l.length = N) (h256 : N = 256) :
  Con Tryz.prog 58 #[.slice a N c] σ [Res.rowS 4 1 encB (.slice a N c) l] (PureP (setV (BSet.make fun i => nth l i false)) σ) := by
 subst hn; exact make_conL σ a c l h256

noncomputable def whittleref02_Sets_b3 (x0 : List Int) (k126 : Nat) (l123 : List BSet) (l139 : List Bool) (k141 : Nat) : Option (((List Bool) × Nat) ⊕ (((List BSet) × Nat) ⊕ ((List BSet) × Int))) :=
 iteO (decide (((k141 : Nat) : Int) < 256)) (grd (k141 < x0.length) (grd (k141 < l139.length) (nxt ((l139.set k141 (decide ((nth x0 k141 (0 : Int)) = ((k126 : Nat) : Int)))), (k141 + 1))))) (fin (grd ((List.replicate 256 false).length = 256) (grd ((l123.length + [(BSet.make fun i => nth l139 i false)].length) * 32 ≤ 140737488355328) (grd (k126 + 1 ≤ 9223372036854775807) (nxt ((l123 ++ [(BSet.make fun i => nth l139 i false)]), (k126 + 1)))))))
noncomputable def whittleref02_Sets_b2 (i106 : Int) (x0 : List Int) (l123 : List BSet) (k126 : Nat) : Option (((List BSet) × Nat) ⊕ ((List BSet) × Int)) :=
 iteO (decide (((k126 : Nat) : Int) ≤ i106)) (iter (fun q : (List Bool) × Nat => whittleref02_Sets_b3 x0 k126 l123 q.1 q.2) ((List.replicate 256 false), 0)) (fin (some (l123, 0)))
noncomputable def whittleref02_Sets_b1 (x0 : List Int) (i106 : Int) (k107 : Nat) : Option ((Int × Nat) ⊕ ((List BSet) × Int)) :=
 iteO (decide (((k107 : Nat) : Int) < 256)) (grd (k107 < x0.length) (iteO (decide ((nth x0 k107 (0 : Int)) < 0)) (fin (some (([] : List BSet), 1))) (grd (k107 < x0.length) (iteO (decide ((IntKind.i64.wrap (i106 + 1)) < (nth x0 k107 (0 : Int)))) (fin (some (([] : List BSet), 1))) (grd (k107 < x0.length) (nxt ((max i106 (nth x0 k107 (0 : Int))), (k107 + 1)))))))) (fin (iter (fun q : (List BSet) × Nat => whittleref02_Sets_b2 i106 x0 q.1 q.2) (([] : List BSet), 0)))
noncomputable def whittleref02_Sets (x0 : List Int) : Option ((List BSet) × Int) :=
 iteO (decide (((x0.length : Nat) : Int) ≠ 256)) (some (([] : List BSet), 1)) (iter (fun q : Int × Nat => whittleref02_Sets_b1 x0 q.1 q.2) ((-1), 0))
def whittleref02_Sets_P (σ : Store) (r : (List BSet) × Int) : Value → Store → List Res → Prop := fun v σ' H' =>
 ∃ (a1 : Option Addr), ∃ (c1 : Nat),  v = .tuple #[.slice a1 r.1.length c1, .int .i64 r.2] ∧ RS σ' 4 encSet (.slice a1 r.1.length c1) r.1 ∧ H' = []
theorem whittleref02_Sets_con {σ : Store} {x0 : List Int} {a0_0 : Option Addr} {c0_0 : Nat} (f0_0 : RS σ 1 Go.E.encI (.slice a0_0 x0.length c0_0) x0) {r : (List BSet) × Int} (hh : whittleref02_Sets x0 = some r) :
  Con Tryz.prog 57 #[.slice a0_0 x0.length c0_0] σ [] (whittleref02_Sets_P σ r) := by
 dsimp only [whittleref02_Sets] at hh
 have f0_0b := f0_0.rv.big
 refine Con.mk (n := 62) Tryz.func57 z z z (fun w0 => ?_)
 refine TC.a (TL.s z z (TL.i z z (TL.en (TC.seq (TC.a (TL.s z z (TL.w z (lenC z underlying22 z) (TL.w z (OpVal.neq z z z) (TL.en (TC.cD z hh (fun h101 hh => ?_) (fun h101 hh => ?_)))))))))))
 ·refine TC.a (TL.s z z (TL.i z z (TL.en (TC.ret (S.r ?_)))))
  obtain rfl := so hh
  exact rq [2, 3] ⟨none, 0, z, (RS.nilF _ encSet encSet_len), z⟩
 ·refine TC.skip (S.n (TC.a (TL.i z z (TL.en (TC.seq (TC.a (TL.i z z (TL.en (TC.block (TC.loopG (α := (Int × Nat) × (Unit)) (rgs [(2, 4), (13, 24)]) (fun g => [(4, .int .i64 g.1.1), (5, .int .i64 ((g.1.2 : Nat) : Int))]) (fun g => []) (fun g => σ) (fun g => iter (fun q : Int × Nat => whittleref02_Sets_b1 x0 q.1 q.2) g.1 = some r) (fun g => rounds (fun q : Int × Nat => whittleref02_Sets_b1 x0 q.1 q.2) g.1) (((-1), 0), ()) (Sub.pre 0 z) z (by repeat (first | exact trivial | refine ⟨z, ?_⟩)) hh (fun g1 j1 hg1 => ?_)))))))))))
  obtain ⟨⟨i106, k107⟩, _⟩ := g1
  have hh := hg1; clear hg1
  try dsimp only
  obtain ⟨z1, hh, hR1⟩ := iter_e hh
  dsimp only [whittleref02_Sets_b1] at hh
  refine TC.seq (TC.a (TL.i z z (TL.w z (OpVal.lss z z z) (TL.en (TC.cD z hh (fun h108 hh => ?_) (fun h108 hh => ?_))))))
  ·refine TC.skip (S.n (TC.seq (TC.block (TC.seq (TC.a (TL.s z z (TL.i z z ?_)))))))
   have u14 := grd_c hh
   replace hh := grd_t hh
   refine TL.w z (indexN z underlying22 sz3 z z f0_0.rv.sl (by omega)) (TL.w z (loadS1 (0 : Int) z ag3 z f0_0 (by omega) z) (TL.w z (OpVal.lss z z z) (TL.j z z (TL.split 22 z (fun h109 => ?_) (fun h109 => ?_)))))
   ·replace hh := iteO_t h109 hh
    replace h109 := of_decide_eq_true h109
    refine TL.f z (TL.f z (TL.f z (TL.f z (TL.f z (TL.f z (TL.f z (TL.w z (pickTB z z z) (TL.en (TC.t z (TC.a (TL.s z z (TL.i z z (TL.en (TC.ret (S.r ?_)))))))))))))))
    refine B.r (S.r (S.r ?_))
    replace hh := fin_x hR1 hh
    refine B.r (S.r ?_)
    obtain rfl := so hh
    exact rq [2, 3] ⟨none, 0, z, (RS.nilF _ encSet encSet_len), z⟩
   ·replace hh := iteO_f h109 hh
    replace h109 := of_decide_eq_false h109
    refine TL.g z (moveSl (.inl z) z) (TL.g z (moveI (.inl z) z) ?_)
    have u20 := grd_c hh
    replace hh := grd_t hh
    refine TL.g z (indexN z underlying22 sz3 z z f0_0.rv.sl (by omega)) (TL.g z (loadS1 (0 : Int) z ag3 z f0_0 (by omega) z) (TL.g z (moveI (.inl z) z) (TL.g z (addW z z z) (TL.g z (OpVal.gtr z z z) (TL.w z (pickFB z z z) (TL.en (TC.cD z hh (fun h110 hh => ?_) (fun h110 hh => ?_))))))))
    ·refine TC.a (TL.s z z (TL.i z z (TL.en (TC.ret (S.r (B.r (S.r (S.r ?_))))))))
     replace hh := fin_x hR1 hh
     refine B.r (S.r ?_)
     obtain rfl := so hh
     exact rq [2, 3] ⟨none, 0, z, (RS.nilF _ encSet encSet_len), z⟩
    ·refine TC.skip (S.n (TC.region (TL.i z z (TL.s z z (TL.i z z ?_)))))
     have u31 := grd_c hh
     replace hh := grd_t hh
     refine TL.w z (indexN z underlying22 sz3 z z f0_0.rv.sl (by omega)) (TL.w z (loadS1 (0 : Int) z ag3 z f0_0 (by omega) z) (TL.w z (maxI z z z) (TL.i z z (TL.nil (B.n (S.n (TC.region (TL.i z z (TL.w z (OpVal.succ z z z (by omega)) (TL.i z z (TL.en ?_)))))))))))
     obtain ⟨hh, hlt111⟩ := nxt_x hR1 hh
     exact lf (((max i106 (nth x0 k107 (0 : Int))), (k107 + 1)), ()) hlt111 hh (Sub.pre 0 z)
  ·refine TC.exit (S.x (S.x ?_))
   replace hh := fin_x hR1 hh
   refine TC.exitHere (S.n (TC.a (TL.s z z (TL.en (TC.seq (TC.a (TL.i z z (TL.en (TC.block (TC.nilS 58 4 encSet (TC.loopG (α := ((List BSet) × Nat) × ((Option Addr) × Nat)) (rgs [(6, 4), (37, 24)]) (fun g => [(6, .slice g.2.1 g.1.1.length g.2.2), (7, .int .i64 ((g.1.2 : Nat) : Int))]) (fun g => [Res.rowS 58 4 encSet (.slice g.2.1 g.1.1.length g.2.2) g.1.1]) (fun g => σ) (fun g => iter (fun q : (List BSet) × Nat => whittleref02_Sets_b2 i106 x0 q.1 q.2) g.1 = some r) (fun g => rounds (fun q : (List BSet) × Nat => whittleref02_Sets_b2 i106 x0 q.1 q.2) g.1) ((([] : List BSet), 0), (none, 0)) (Sub.pre 1 z) z (by repeat (first | exact trivial | refine ⟨z, ?_⟩)) hh (fun g2 j2 hg2 => ?_))))))))))))
   obtain ⟨⟨l123, k126⟩, ⟨a124, c125⟩⟩ := g2
   have hh := hg2; clear hg2
   try dsimp only
   obtain ⟨z1, hh, hR1⟩ := iter_e hh
   dsimp only [whittleref02_Sets_b2] at hh
   refine TC.isSl (i := 0) z (fun _ hb128 _ => ?_)
   refine TC.seq (TC.a (TL.i z z (TL.i z z (TL.w z (OpVal.leq z z z) (TL.en (TC.cD z hh (fun h129 hh => ?_) (fun h129 hh => ?_)))))))
   ·refine TC.skip (S.n (TC.seq (TC.block (TC.a (TL.op z (makeS2 (m := 256) (enc := encB) false z underlying24 sz4 by4 ze4 z z z z (by omega) (by decide) encB_len (by decide) z encB_one (fun a130 c131 => ?_)))))))
    refine TL.s z z (TL.en (TC.seq (TC.a (TL.i z z (TL.en (TC.block (TC.loopG (α := ((List Bool) × Nat) × (Unit)) (rgs [(9, 1), (43, 13)]) (fun g => [(9, .int .i64 ((g.1.2 : Nat) : Int))]) (fun g => [Res.rowS 58 4 encSet (.slice a124 l123.length c125) l123, Res.rowS 4 1 encB (.slice a130 (List.replicate 256 false).length c131) g.1.1]) (fun g => σ) (fun g => iter (fun q : (List Bool) × Nat => whittleref02_Sets_b3 x0 k126 l123 q.1 q.2) g.1 = some z1 ∧ g.1.1.length = (List.replicate 256 false).length) (fun g => rounds (fun q : (List Bool) × Nat => whittleref02_Sets_b3 x0 k126 l123 q.1 q.2) g.1) (((List.replicate 256 false), 0), ()) (Sub.f [1] 2) z (by repeat (first | exact trivial | refine ⟨z, ?_⟩)) ⟨hh, z⟩ (fun g3 j3 hg3 => ?_))))))))
    obtain ⟨⟨l139, k141⟩, _⟩ := g3
    obtain ⟨hh, hn140⟩ := hg3
    try dsimp only at hn140 ⊢
    obtain ⟨z2, hh, hR2⟩ := iter_e hh
    dsimp only [whittleref02_Sets_b3] at hh
    have hn140b := hn140
    refine TC.isSl (i := 0) z (fun _ hb142 _ => ?_)
    refine TC.isSl (i := 1) z (fun _ hb143 _ => ?_)
    refine TC.seq (TC.a (TL.i z z (TL.w z (OpVal.lss z z z) (TL.en (TC.cD z hh (fun h144 hh => ?_) (fun h144 hh => ?_))))))
    ·refine TC.skip (S.n (TC.seq (TC.block (TC.region (TL.s z z (TL.i z z (TL.s z z (TL.i z z ?_))))))))
     have u52 := grd_c hh
     replace hh := grd_t hh
     refine TL.w z (indexN z underlying22 sz3 z z f0_0.rv.sl (by omega)) (TL.w z (loadS1 (0 : Int) z ag3 z f0_0 (by omega) z) (TL.i z z (TL.w z (OpVal.eql z z z) ?_)))
     have u56 := grd_c hh
     replace hh := grd_t hh
     refine TL.isSl (i := 1) z (fun hs145 _ _ => ?_)
     refine TL.w z (indexN z underlying24 sz4 z z hs145 (by omega)) (TL.front 1 z z ?_)
     have hn146 : (l139.set k141 (decide ((nth x0 k141 (0 : Int)) = ((k126 : Nat) : Int)))).length = (List.replicate 256 false).length := by rw [List.length_set]; exact hn140
     refine TL.op z (storeS (decide ((nth x0 k141 (0 : Int)) = ((k126 : Nat) : Int))) z sz4 z z z z encB_len encB_one (by omega) (by omega) ?_)
     refine TL.nil (B.n (S.n (TC.region (TL.i z z (TL.w z (OpVal.succ z z z (by omega)) (TL.i z z (TL.en ?_)))))))
     obtain ⟨hh, hlt147⟩ := nxt_x hR2 hh
     exact lf (((l139.set k141 (decide ((nth x0 k141 (0 : Int)) = ((k126 : Nat) : Int)))), (k141 + 1)), ()) hlt147 ⟨hh, hn146⟩ (Sub.f [1] 2)
    ·refine TC.exit (S.x (S.x ?_))
     replace hh := fin_x hR2 hh
     refine TC.exitHere (S.n (TC.region (TL.s z z (TL.s z z (TL.front 1 z z ?_)))))
     have u63 := grd_c hh
     replace hh := grd_t hh
     refine TL.op z (callT (make_conN hn140 u63) z z pf58 z z z z ?_)
     refine TL.op z (OpOk.lit (enc := encSet) [(BSet.make fun i => nth l139 i false)] z underlying81 sz58 ze58 z z z encSet_len (by decide) (by decide) BSet.zero z (by decide) z (by decide) encSet_one (fun a148 c149 => ?_))
     refine TL.front 1 z z ?_
     have u65 := grd_c hh
     replace hh := grd_t hh
     refine TL.op z (appendS z z underlying81 sz58 by58 ze58 z z (by decide) z z z (.inr ⟨_, 0, z⟩) (by simpa using u65) (by decide) (fun a151 c152 => ?_))
     refine TL.s z z (TL.nil (B.n (S.n (TC.region (TL.i z z ?_)))))
     have u68 := grd_c hh
     replace hh := grd_t hh
     refine TL.w z (OpVal.succ z z z (by omega)) (TL.i z z (TL.en ?_))
     obtain ⟨hh, hlt153⟩ := nxt_x hR1 hh
     exact lf (((l123 ++ [(BSet.make fun i => nth l139 i false)]), (k126 + 1)), (a151, c152)) hlt153 hh (Sub.pre 1 z)
   ·refine TC.exit (S.x (S.x ?_))
    replace hh := fin_x hR1 hh
    refine TC.exitHere (S.n (TC.a (TL.s z z (TL.s z z (TL.i z z (TL.en (TC.sealS encSet_len (fun τ156 hle155 hr154 => ?_))))))))
    have hr154b := hr154.rv.big
    refine TC.ret ?_
    obtain rfl := so hh
    exact rq [2, 3] ⟨a124, c125, z, hr154, z⟩

noncomputable def whittleref11_Right_b2 (v5 : (List BSet) × Int) (x0 : Dfa) (k110 : Nat) (k116 : Nat) : Option ((Nat) ⊕ ((Nat) ⊕ (Bool))) :=
 iteO (decide (((k116 : Nat) : Int) < ((v5.1.length : Nat) : Int))) (grd (k116 < (nth x0.next k110 ([] : List Int)).length) (iteO (decide ((nth (nth x0.next k110 ([] : List Int)) k116 (0 : Int)) < 0)) (fin (fin (some false))) (grd (k116 < (nth x0.next k110 ([] : List Int)).length) (iteO (decide (((x0.next.length : Nat) : Int) ≤ (nth (nth x0.next k110 ([] : List Int)) k116 (0 : Int)))) (fin (fin (some false))) (nxt (k116 + 1)))))) (fin (nxt (k110 + 1)))
noncomputable def whittleref11_Right_b1 (x0 : Dfa) (v5 : (List BSet) × Int) (k110 : Nat) : Option ((Nat) ⊕ (Bool)) :=
 iteO (decide (((k110 : Nat) : Int) < ((x0.next.length : Nat) : Int))) (iteO (decide ((((nth x0.next k110 ([] : List Int)).length : Nat) : Int) ≠ ((v5.1.length : Nat) : Int))) (fin (some false)) (iter (fun q : Nat => whittleref11_Right_b2 v5 x0 k110 q) 0)) (fin (some true))
noncomputable def whittleref11_Right (x0 : Dfa) : Option (Bool) :=
 bnd (whittleref02_Sets x0.cls) (fun v5 => iteO (decide (v5.2 ≠ 0)) (some false) (iteO (decide (((x0.next.length : Nat) : Int) < 1)) (some false) (iteO (decide (1024 < ((x0.next.length : Nat) : Int))) (some false) (iteO (decide (((x0.fin.length : Nat) : Int) ≠ ((x0.next.length : Nat) : Int))) (some false) (iter (fun q : Nat => whittleref11_Right_b1 x0 v5 q) 0)))))
theorem whittleref11_Right_con {σ : Store} {x0 : Dfa} {a0_0 : Option Addr} {c0_0 : Nat} {a0_1 : Option Addr} {c0_1 : Nat} {a0_2 : Option Addr} {c0_2 : Nat} (f0_0 : RS σ 1 Go.E.encI (.slice a0_0 x0.cls.length c0_0) x0.cls) (f0_1 : RZ σ (pkSl 1 Go.E.encI Go.E.encI_len) (.slice a0_1 x0.next.length c0_1) x0.next) (f0_2 : RS σ 1 encB (.slice a0_2 x0.fin.length c0_2) x0.fin) {r : Bool} (hh : whittleref11_Right x0 = some r) :
  Con Tryz.prog 43 #[.agg #[.slice a0_0 x0.cls.length c0_0, .slice a0_1 x0.next.length c0_1, .slice a0_2 x0.fin.length c0_2]] σ [] (PureP (.bool r) σ) := by
 dsimp only [whittleref11_Right] at hh
 have f0_0b := f0_0.rv.big
 have f0_1b := f0_1.big
 have f0_2b := f0_2.rv.big
 refine Con.mk (n := 75) Tryz.func43 z z z (fun w0 => ?_)
 refine TC.a (TL.op z (boxA z z z z (fun b101 => ?_)))
 refine TL.j z z (TL.en (TC.a (TL.w z (fieldLoc z fo26_0 z) (TL.w z (loadLoc z ag22 z (i := 0) z z) ?_))))
 obtain ⟨v5, u5, hh⟩ := bnd_e hh
 refine TL.op z (OpOk.call (whittleref02_Sets_con f0_0 u5) z z pf57 z z z z ?_)
 rintro _ τ103 _ hle103 ⟨a103_1, c103_1, rfl, hr103_0, rfl⟩
 replace f0_1 := f0_1.mono hle103
 have hr103_0b := hr103_0.rv.big
 refine TL.w z (moveT (.inl z) z) (TL.w z (OpVal.extract z z z) (TL.w z (OpVal.extract z z z) (TL.s z z (TL.i z z (TL.en (TC.a (TL.w z (fieldLoc z fo26_1 z) (TL.w z (loadLoc z ag23 z (i := 0) z z) (TL.w z (lenC z underlying23 z) (TL.i z z (TL.en (TC.seq (TC.a (TL.i z z (TL.w z (OpVal.neq z z z) ?_)))))))))))))))
 refine TL.j z z (TL.split 19 z (fun h104 => ?_) (fun h104 => ?_))
 ·replace hh := iteO_t h104 hh
  replace h104 := of_decide_eq_true h104
  refine TL.f z (TL.f z (TL.w z (pickTB z z z) (TL.j z z (TL.f z (TL.f z (TL.w z (pickTB z z z) (TL.j z z (TL.f z (TL.f z (TL.f z (TL.f z (TL.f z (TL.w z (pickTB z z z) (TL.en (TC.t z ?_)))))))))))))))
  refine TC.a (TL.j z z (TL.en (TC.ofSub (Sub.pre 0 z) (TC.back (TC.ret (S.r ?_))))))
  obtain rfl := so hh
  exact rq [2] ⟨z, z, z⟩
 ·replace hh := iteO_f h104 hh
  replace h104 := of_decide_eq_false h104
  refine TL.g z (moveI (.inl z) z) (TL.g z (OpVal.lss z z z) (TL.w z (pickFB z z z) (TL.j z z (TL.split 23 z (fun h105 => ?_) (fun h105 => ?_)))))
  ·replace hh := iteO_t h105 hh
   replace h105 := of_decide_eq_true h105
   refine TL.f z (TL.f z (TL.w z (pickTB z z z) (TL.j z z (TL.f z (TL.f z (TL.f z (TL.f z (TL.f z (TL.w z (pickTB z z z) (TL.en (TC.t z (TC.a (TL.j z z (TL.en (TC.ofSub (Sub.pre 0 z) ?_)))))))))))))))
   refine TC.back (TC.ret (S.r ?_))
   obtain rfl := so hh
   exact rq [2] ⟨z, z, z⟩
  ·replace hh := iteO_f h105 hh
   replace h105 := of_decide_eq_false h105
   refine TL.g z (moveI (.inl z) z) (TL.g z (OpVal.gtr z z z) (TL.w z (pickFB z z z) (TL.j z z (TL.split 27 z (fun h106 => ?_) (fun h106 => ?_)))))
   ·replace hh := iteO_t h106 hh
    replace h106 := of_decide_eq_true h106
    refine TL.f z (TL.f z (TL.f z (TL.f z (TL.f z (TL.w z (pickTB z z z) (TL.en (TC.t z (TC.a (TL.j z z (TL.en (TC.ofSub (Sub.pre 0 z) (TC.back (TC.ret (S.r ?_))))))))))))))
    obtain rfl := so hh
    exact rq [2] ⟨z, z, z⟩
   ·replace hh := iteO_f h106 hh
    replace h106 := of_decide_eq_false h106
    refine TL.g z (fieldLoc z fo26_2 z) (TL.g z (loadLoc z ag24 z (i := 0) z z) (TL.g z (lenC z underlying24 z) (TL.g z (moveI (.inl z) z) (TL.g z (OpVal.neq z z z) (TL.w z (pickFB z z z) (TL.en (TC.cD z hh (fun h107 hh => ?_) (fun h107 hh => ?_))))))))
    ·refine TC.a (TL.j z z (TL.en (TC.ofSub (Sub.pre 0 z) (TC.back (TC.ret (S.r ?_))))))
     obtain rfl := so hh
     exact rq [2] ⟨z, z, z⟩
    ·refine TC.skip (S.n (TC.seq (TC.a (TL.i z z (TL.en (TC.block (TC.loopG (α := (Nat) × (Unit)) (rgs [(2, 1), (6, 2), (34, 41)]) (fun g => [(6, .int .i64 ((g.1 : Nat) : Int))]) (fun g => [Res.cells b101 #[.slice a0_0 x0.cls.length c0_0, .slice a0_1 x0.next.length c0_1, .slice a0_2 x0.fin.length c0_2] 26]) (fun g => τ103) (fun g => iter (fun q : Nat => whittleref11_Right_b1 x0 v5 q) g.1 = some r) (fun g => rounds (fun q : Nat => whittleref11_Right_b1 x0 v5 q) g.1) (0, ()) (Sub.pre 1 z) z (by repeat (first | exact trivial | refine ⟨z, ?_⟩)) hh (fun g1 j1 hg1 => ?_))))))))
     obtain ⟨k110, _⟩ := g1
     have hh := hg1; clear hg1
     try dsimp only
     obtain ⟨z1, hh, hR1⟩ := iter_e hh
     dsimp only [whittleref11_Right_b1] at hh
     refine TC.seq (TC.a (TL.i z z (TL.i z z (TL.w z (OpVal.lss z z z) (TL.en (TC.cD z hh (fun h111 hh => ?_) (fun h111 hh => ?_)))))))
     ·refine TC.skip (S.n (TC.seq (TC.block (TC.seq (TC.a (TL.w z (fieldLoc z fo26_1 z) (TL.w z (loadLoc z ag23 z (i := 0) z z) (TL.i z z (TL.w z (indexN z underlying23 sz22 z z f0_1.isSl (by omega)) ?_)))))))))
      obtain ⟨p112, hk112, hg112⟩ := RZ.seg f0_1 k110 (by omega)
      replace hk112 : RS _ 1 Go.E.encI (.slice p112.1 (nth x0.next k110 ([] : List Int)).length p112.2) (nth x0.next k110 ([] : List Int)) := hk112
      have hk112b := hk112.rv.big
      refine TL.w z (OpVal.of (loadSeg0 z ag22 z hg112 z) (v' := .slice p112.1 ((nth x0.next k110 ([] : List Int)).length) p112.2) z) (TL.w z (lenC z underlying22 z) (TL.s z z (TL.w z (lenC z underlying81 z) (TL.w z (OpVal.neq z z z) (TL.en (TC.cD z hh (fun h113 hh => ?_) (fun h113 hh => ?_)))))))
      ·refine TC.a (TL.j z z (TL.en (TC.ofSub (Sub.pre 0 z) (TC.back (TC.ret (S.r (B.r (S.r (S.r ?_)))))))))
       replace hh := fin_x hR1 hh
       refine B.r (S.r ?_)
       obtain rfl := so hh
       exact rq [2] ⟨z, z, z⟩
      ·refine TC.skip (S.n (TC.a (TL.i z z (TL.en (TC.block (TC.loopG (α := (Nat) × (Unit)) (rgs [(2, 1), (7, 1), (48, 27)]) (fun g => [(7, .int .i64 ((g.1 : Nat) : Int))]) (fun g => [Res.cells b101 #[.slice a0_0 x0.cls.length c0_0, .slice a0_1 x0.next.length c0_1, .slice a0_2 x0.fin.length c0_2] 26]) (fun g => τ103) (fun g => iter (fun q : Nat => whittleref11_Right_b2 v5 x0 k110 q) g.1 = some z1) (fun g => rounds (fun q : Nat => whittleref11_Right_b2 v5 x0 k110 q) g.1) (0, ()) (Sub.pre 1 z) z (by repeat (first | exact trivial | refine ⟨z, ?_⟩)) hh (fun g2 j2 hg2 => ?_)))))))
       obtain ⟨k116, _⟩ := g2
       have hh := hg2; clear hg2
       try dsimp only
       obtain ⟨z2, hh, hR2⟩ := iter_e hh
       dsimp only [whittleref11_Right_b2] at hh
       refine TC.seq (TC.a (TL.i z z (TL.s z z (TL.w z (lenC z underlying81 z) (TL.w z (OpVal.lss z z z) (TL.en (TC.cD z hh (fun h117 hh => ?_) (fun h117 hh => ?_))))))))
       ·refine TC.skip (S.n (TC.seq (TC.block (TC.a (TL.w z (fieldLoc z fo26_1 z) (TL.w z (loadLoc z ag23 z (i := 0) z z) (TL.i z z (TL.w z (indexN z underlying23 sz22 z z f0_1.isSl (by omega)) ?_))))))))
        obtain ⟨p118, hk118, hg118⟩ := RZ.seg f0_1 k110 (by omega)
        replace hk118 : RS _ 1 Go.E.encI (.slice p118.1 (nth x0.next k110 ([] : List Int)).length p118.2) (nth x0.next k110 ([] : List Int)) := hk118
        have hk118b := hk118.rv.big
        refine TL.w z (OpVal.of (loadSeg0 z ag22 z hg118 z) (v' := .slice p118.1 ((nth x0.next k110 ([] : List Int)).length) p118.2) z) (TL.i z z ?_)
        have u58 := grd_c hh
        replace hh := grd_t hh
        refine TL.w z (indexN z underlying22 sz3 z z hk118.rv.sl (by omega)) (TL.w z (loadS1 (0 : Int) z ag3 z hk118 (by omega) z) (TL.w z (OpVal.lss z z z) (TL.j z z (TL.split 63 z (fun h119 => ?_) (fun h119 => ?_)))))
        ·replace hh := iteO_t h119 hh
         replace h119 := of_decide_eq_true h119
         refine TL.f z (TL.f z (TL.f z (TL.f z (TL.f z (TL.f z (TL.f z (TL.f z (TL.f z (TL.f z (TL.w z (pickTB z z z) (TL.en (TC.t z (TC.a (TL.j z z (TL.en ?_)))))))))))))))
         refine TC.ofSub (Sub.pre 0 z) (TC.back (TC.ret (B.r (S.r (S.r ?_)))))
         replace hh := fin_x hR2 hh
         refine B.r (B.r (S.r (S.r ?_)))
         replace hh := fin_x hR1 hh
         refine B.r (S.r ?_)
         obtain rfl := so hh
         exact rq [2] ⟨z, z, z⟩
        ·replace hh := iteO_f h119 hh
         replace h119 := of_decide_eq_false h119
         refine TL.g z (fieldLoc z fo26_1 z) (TL.g z (loadLoc z ag23 z (i := 0) z z) (TL.g z (moveI (.inl z) z) (TL.g z (indexN z underlying23 sz22 z z f0_1.isSl (by omega)) ?_)))
         obtain ⟨p120, hk120, hg120⟩ := RZ.seg f0_1 k110 (by omega)
         replace hk120 : RS _ 1 Go.E.encI (.slice p120.1 (nth x0.next k110 ([] : List Int)).length p120.2) (nth x0.next k110 ([] : List Int)) := hk120
         have hk120b := hk120.rv.big
         refine TL.g z (OpVal.of (loadSeg0 z ag22 z hg120 z) (v' := .slice p120.1 ((nth x0.next k110 ([] : List Int)).length) p120.2) z) (TL.g z (moveI (.inl z) z) ?_)
         have u68 := grd_c hh
         replace hh := grd_t hh
         refine TL.g z (indexN z underlying22 sz3 z z hk120.rv.sl (by omega)) (TL.g z (loadS1 (0 : Int) z ag3 z hk120 (by omega) z) (TL.g z (moveI (.inl z) z) (TL.g z (OpVal.geq z z z) (TL.w z (pickFB z z z) (TL.en (TC.cD z hh (fun h121 hh => ?_) (fun h121 hh => ?_)))))))
         ·refine TC.a (TL.j z z (TL.en (TC.ofSub (Sub.pre 0 z) (TC.back (TC.ret (B.r (S.r (S.r ?_))))))))
          replace hh := fin_x hR2 hh
          refine B.r (B.r (S.r (S.r ?_)))
          replace hh := fin_x hR1 hh
          refine B.r (S.r ?_)
          obtain rfl := so hh
          exact rq [2] ⟨z, z, z⟩
         ·refine TC.skip (B.n (S.n (TC.region (TL.i z z (TL.w z (OpVal.succ z z z (by omega)) (TL.i z z (TL.en ?_)))))))
          obtain ⟨hh, hlt122⟩ := nxt_x hR2 hh
          exact lf ((k116 + 1), ()) hlt122 hh (Sub.pre 1 z)
       ·refine TC.exit (S.x (S.x ?_))
        replace hh := fin_x hR2 hh
        refine TC.exitHere (B.n (S.n (TC.region (TL.i z z (TL.w z (OpVal.succ z z z (by omega)) (TL.i z z (TL.en ?_)))))))
        obtain ⟨hh, hlt123⟩ := nxt_x hR1 hh
        exact lf ((k110 + 1), ()) hlt123 hh (Sub.pre 1 z)
     ·refine TC.exit (S.x (S.x ?_))
      replace hh := fin_x hR1 hh
      refine TC.exitHere (S.n (TC.a (TL.j z z (TL.en (TC.ofSub (Sub.pre 0 z) (TC.back (TC.ret ?_)))))))
      obtain rfl := so hh
      exact rq [2] ⟨z, z, z⟩

noncomputable def whittleref11_Few_j1 (x0 : Dfa) : Option (Bool) :=
 iteO (decide (((x0.next.length : Nat) : Int) ≤ 40)) (some (decide (((x0.cls.length : Nat) : Int) ≤ 300))) (some false)
noncomputable def whittleref11_Few_b1 (x0 : Dfa) (k105 : Nat) : Option ((Nat) ⊕ (Bool)) :=
 iteO (decide (((k105 : Nat) : Int) < ((x0.next.length : Nat) : Int))) (iteO (decide (((x0.next.length : Nat) : Int) ≤ 40)) (iteO (decide (20 < (((nth x0.next k105 ([] : List Int)).length : Nat) : Int))) (fin (some false)) (nxt (k105 + 1))) (fin (whittleref11_Few_j1 x0))) (fin (whittleref11_Few_j1 x0))
noncomputable def whittleref11_Few (x0 : Dfa) : Option (Bool) :=
 iter (fun q : Nat => whittleref11_Few_b1 x0 q) 0
theorem whittleref11_Few_con {σ : Store} {x0 : Dfa} {a0_0 : Option Addr} {c0_0 : Nat} {a0_1 : Option Addr} {c0_1 : Nat} {a0_2 : Option Addr} {c0_2 : Nat} (f0_0 : RS σ 1 Go.E.encI (.slice a0_0 x0.cls.length c0_0) x0.cls) (f0_1 : RZ σ (pkSl 1 Go.E.encI Go.E.encI_len) (.slice a0_1 x0.next.length c0_1) x0.next) (f0_2 : RS σ 1 encB (.slice a0_2 x0.fin.length c0_2) x0.fin) {r : Bool} (hh : whittleref11_Few x0 = some r) :
  Con Tryz.prog 6 #[.agg #[.slice a0_0 x0.cls.length c0_0, .slice a0_1 x0.next.length c0_1, .slice a0_2 x0.fin.length c0_2]] σ [] (PureP (.bool r) σ) := by
 dsimp only [whittleref11_Few] at hh
 have f0_0b := f0_0.rv.big
 have f0_1b := f0_1.big
 have f0_2b := f0_2.rv.big
 refine Con.mk (n := 34) Tryz.func6 z z z (fun w0 => ?_)
 refine TC.a (TL.op z (boxA z z z z (fun b101 => ?_)))
 refine TL.j z z (TL.en (TC.cutG (α := (Unit) × (Unit)) (rgs [(2, 22)]) (fun g => []) (fun g => [Res.cells b101 #[.slice a0_0 x0.cls.length c0_0, .slice a0_1 x0.next.length c0_1, .slice a0_2 x0.fin.length c0_2] 26]) (fun g => σ) (fun g => whittleref11_Few_j1 x0 = some r) ?_ (fun g j hg => ?_)))
 ·skip
  refine TC.a (TL.i z z (TL.en (TC.block (TC.loopG (α := (Nat) × (Unit)) (rgs [(2, 22)]) (fun g => [(3, .int .i64 ((g.1 : Nat) : Int))]) (fun g => [Res.cells b101 #[.slice a0_0 x0.cls.length c0_0, .slice a0_1 x0.next.length c0_1, .slice a0_2 x0.fin.length c0_2] 26]) (fun g => σ) (fun g => iter (fun q : Nat => whittleref11_Few_b1 x0 q) g.1 = some r) (fun g => rounds (fun q : Nat => whittleref11_Few_b1 x0 q) g.1) (0, ()) (Sub.pre 1 z) z (by repeat (first | exact trivial | refine ⟨z, ?_⟩)) hh (fun g1 j1 hg1 => ?_)))))
  obtain ⟨k105, _⟩ := g1
  have hh := hg1; clear hg1
  try dsimp only
  obtain ⟨z1, hh, hR1⟩ := iter_e hh
  dsimp only [whittleref11_Few_b1] at hh
  refine TC.seq (TC.a (TL.i z z (TL.w z (fieldLoc z fo26_1 z) (TL.w z (loadLoc z ag23 z (i := 0) z z) (TL.w z (lenC z underlying23 z) (TL.w z (OpVal.lss z z z) (TL.j z z (TL.split 9 z (fun h106 => ?_) (fun h106 => ?_)))))))))
  ·replace hh := iteO_t h106 hh
   replace h106 := of_decide_eq_true h106
   refine TL.g z (fieldLoc z fo26_1 z) (TL.g z (loadLoc z ag23 z (i := 0) z z) (TL.g z (lenC z underlying23 z) (TL.g z (OpVal.leq z z z) (TL.w z (pickTB z z z) (TL.en (TC.cD z hh (fun h107 hh => ?_) (fun h107 hh => ?_)))))))
   ·refine TC.skip (S.n (TC.seq (TC.block (TC.a (TL.w z (fieldLoc z fo26_1 z) (TL.w z (loadLoc z ag23 z (i := 0) z z) (TL.i z z (TL.w z (indexN z underlying23 sz22 z z f0_1.isSl (by omega)) ?_))))))))
    obtain ⟨p108, hk108, hg108⟩ := RZ.seg f0_1 k105 (by omega)
    replace hk108 : RS _ 1 Go.E.encI (.slice p108.1 (nth x0.next k105 ([] : List Int)).length p108.2) (nth x0.next k105 ([] : List Int)) := hk108
    have hk108b := hk108.rv.big
    refine TL.w z (OpVal.of (loadSeg0 z ag22 z hg108 z) (v' := .slice p108.1 ((nth x0.next k105 ([] : List Int)).length) p108.2) z) (TL.w z (lenC z underlying22 z) (TL.w z (OpVal.gtr z z z) (TL.en (TC.cD z hh (fun h109 hh => ?_) (fun h109 hh => ?_)))))
    ·refine TC.a (TL.j z z (TL.en (TC.rt 0 (B.r (S.r (S.r ?_))))))
     replace hh := fin_x hR1 hh
     refine B.r (S.r ?_)
     obtain rfl := so hh
     exact rq [2] ⟨z, z, z⟩
    ·refine TC.skip (B.n (S.n (TC.region (TL.i z z (TL.w z (OpVal.succ z z z (by omega)) (TL.i z z (TL.en ?_)))))))
     obtain ⟨hh, hlt110⟩ := nxt_x hR1 hh
     exact lf ((k105 + 1), ()) hlt110 hh (Sub.pre 1 z)
   ·refine TC.exit (S.x (S.x ?_))
    replace hh := fin_x hR1 hh
    exact TC.exitHere (S.n (cf ((), ()) hh (Sub.pre 1 z)))
  ·replace hh := iteO_f h106 hh
   replace h106 := of_decide_eq_false h106
   refine TL.f z (TL.f z (TL.f z (TL.f z (TL.w z (pickFB z z z) (TL.en (TC.f z (TC.exit (S.x (S.x ?_)))))))))
   replace hh := fin_x hR1 hh
   exact TC.exitHere (S.n (cf ((), ()) hh (Sub.pre 1 z)))
 ·skip
  obtain ⟨_, _⟩ := g
  have hh := hg; clear hg
  try dsimp only
  dsimp only [whittleref11_Few_j1] at hh
  refine TC.a (TL.w z (fieldLoc z fo26_1 z) (TL.w z (loadLoc z ag23 z (i := 0) z z) (TL.w z (lenC z underlying23 z) (TL.w z (OpVal.leq z z z) (TL.j z z (TL.split 28 z (fun h111 => ?_) (fun h111 => ?_)))))))
  ·replace hh := iteO_t h111 hh
   replace h111 := of_decide_eq_true h111
   refine TL.g z (fieldLoc z fo26_0 z) (TL.g z (loadLoc z ag22 z (i := 0) z z) (TL.g z (lenC z underlying22 z) (TL.g z (OpVal.leq z z z) (TL.w z (pickTB z z z) (TL.j z z (TL.en (TC.rt 0 ?_)))))))
   obtain rfl := so hh
   exact rq [2] ⟨z, z, z⟩
  ·replace hh := iteO_f h111 hh
   replace h111 := of_decide_eq_false h111
   refine TL.f z (TL.f z (TL.f z (TL.f z (TL.w z (pickFB z z z) (TL.j z z (TL.en (TC.rt 0 ?_)))))))
   obtain rfl := so hh
   exact rq [2] ⟨z, z, z⟩

noncomputable def whittleref11_Back_j3 (l186 : List Bool) (k189 : Nat) (x0 : Dfa) (k137 : Nat) (k167 : Nat) (t196 : Bool) : Option (((List Bool) × Bool × Nat) ⊕ (((List Arrow) × Nat) ⊕ (((List Int) × (List Arrow) × Nat) ⊕ (Nfa × Int)))) :=
 nxt ((l186.set k189 (decide ((nth (nth x0.next k137 ([] : List Int)) ((nth x0.cls k189 (0 : Int)).toNat) (0 : Int)) = ((k167 : Nat) : Int)))), t196, (k189 + 1))
noncomputable def whittleref11_Back_j2 (k167 : Nat) (l172 : List Arrow) : Option (((List Arrow) × Nat) ⊕ (((List Int) × (List Arrow) × Nat) ⊕ (Nfa × Int))) :=
 nxt (l172, (k167 + 1))
noncomputable def whittleref11_Back_b3 (x0 : Dfa) (k137 : Nat) (k167 : Nat) (l164 : List Arrow) (l186 : List Bool) (t188 : Bool) (k189 : Nat) : Option (((List Bool) × Bool × Nat) ⊕ (((List Arrow) × Nat) ⊕ (((List Int) × (List Arrow) × Nat) ⊕ (Nfa × Int)))) :=
 iteO (decide (((k189 : Nat) : Int) < 256)) (grd (k189 < x0.cls.length) (grd (0 ≤ (nth x0.cls k189 (0 : Int)) ∧ (nth x0.cls k189 (0 : Int)) < ((nth x0.next k137 ([] : List Int)).length : Int)) (grd (k189 < l186.length) (iteO t188 (whittleref11_Back_j3 l186 k189 x0 k137 k167 true) (grd (k189 < (l186.set k189 (decide ((nth (nth x0.next k137 ([] : List Int)) ((nth x0.cls k189 (0 : Int)).toNat) (0 : Int)) = ((k167 : Nat) : Int)))).length) (whittleref11_Back_j3 l186 k189 x0 k137 k167 (nth (l186.set k189 (decide ((nth (nth x0.next k137 ([] : List Int)) ((nth x0.cls k189 (0 : Int)).toNat) (0 : Int)) = ((k167 : Nat) : Int)))) k189 false))))))) (fin (iteO t188 (grd ((List.replicate 256 false).length = 256) (grd ((l164.length + [(⟨((k137 : Nat) : Int), ((k167 : Nat) : Int), (BSet.make fun i => nth l186 i false)⟩ : Arrow)].length) * 48 ≤ 140737488355328) (whittleref11_Back_j2 k167 (l164 ++ [(⟨((k137 : Nat) : Int), ((k167 : Nat) : Int), (BSet.make fun i => nth l186 i false)⟩ : Arrow)])))) (whittleref11_Back_j2 k167 l164)))
noncomputable def whittleref11_Back_b2 (x0 : Dfa) (k137 : Nat) (l144 : List Int) (l164 : List Arrow) (k167 : Nat) : Option (((List Arrow) × Nat) ⊕ (((List Int) × (List Arrow) × Nat) ⊕ (Nfa × Int))) :=
 iteO (decide (((k167 : Nat) : Int) < ((x0.next.length : Nat) : Int))) (iter (fun q : (List Bool) × Bool × Nat => whittleref11_Back_b3 x0 k137 k167 l164 q.1 q.2.1 q.2.2) ((List.replicate 256 false), false, 0)) (fin (nxt (l144, l164, (k137 + 1))))
noncomputable def whittleref11_Back_j1 (x0 : Dfa) (k137 : Nat) (l134 : List Arrow) (l144 : List Int) : Option (((List Int) × (List Arrow) × Nat) ⊕ (Nfa × Int)) :=
 iter (fun q : (List Arrow) × Nat => whittleref11_Back_b2 x0 k137 l144 q.1 q.2) (l134, 0)
noncomputable def whittleref11_Back_b1 (x0 : Dfa) (l130 : List Int) (l134 : List Arrow) (k137 : Nat) : Option (((List Int) × (List Arrow) × Nat) ⊕ (Nfa × Int)) :=
 iteO (decide (((k137 : Nat) : Int) < ((x0.next.length : Nat) : Int))) (grd (k137 < x0.fin.length) (iteO (nth x0.fin k137 false) (grd ((l130.length + [((k137 : Nat) : Int)].length) * 8 ≤ 140737488355328) (whittleref11_Back_j1 x0 k137 l134 (l130 ++ [((k137 : Nat) : Int)]))) (whittleref11_Back_j1 x0 k137 l134 l130))) (fin (iteO (decide (65536 < ((l134.length : Nat) : Int))) (some ((⟨0, ([] : List Int), ([] : List Int), ([] : List Arrow)⟩ : Nfa), 2)) (some ((⟨((x0.next.length : Nat) : Int), [0], l130, l134⟩ : Nfa), 0))))
noncomputable def whittleref11_Back (x0 : Dfa) : Option (Nfa × Int) :=
 bnd (whittleref11_Right x0) (fun v5 => iteO (!v5) (some ((⟨0, ([] : List Int), ([] : List Int), ([] : List Arrow)⟩ : Nfa), 1)) (iter (fun q : (List Int) × (List Arrow) × Nat => whittleref11_Back_b1 x0 q.1 q.2.1 q.2.2) (([] : List Int), ([] : List Arrow), 0)))
def whittleref11_Back_P (σ : Store) (r : Nfa × Int) : Value → Store → List Res → Prop := fun v σ' H' =>
 ∃ (a1 : Option Addr), ∃ (c1 : Nat), ∃ (a2 : Option Addr), ∃ (c2 : Nat), ∃ (a3 : Option Addr), ∃ (c3 : Nat),  v = .tuple #[.agg #[.int .i64 r.1.states, .slice a1 r.1.starts.length c1, .slice a2 r.1.ends.length c2, .slice a3 r.1.edges.length c3], .int .i64 r.2] ∧ RS σ' 1 Go.E.encI (.slice a1 r.1.starts.length c1) r.1.starts ∧ RS σ' 1 Go.E.encI (.slice a2 r.1.ends.length c2) r.1.ends ∧ RS σ' 6 encE (.slice a3 r.1.edges.length c3) r.1.edges ∧ H' = []
theorem whittleref11_Back_con {σ : Store} {x0 : Dfa} {a0_0 : Option Addr} {c0_0 : Nat} {a0_1 : Option Addr} {c0_1 : Nat} {a0_2 : Option Addr} {c0_2 : Nat} (f0_0 : RS σ 1 Go.E.encI (.slice a0_0 x0.cls.length c0_0) x0.cls) (f0_1 : RZ σ (pkSl 1 Go.E.encI Go.E.encI_len) (.slice a0_1 x0.next.length c0_1) x0.next) (f0_2 : RS σ 1 encB (.slice a0_2 x0.fin.length c0_2) x0.fin) {r : Nfa × Int} (hh : whittleref11_Back x0 = some r) :
  Con Tryz.prog 44 #[.agg #[.slice a0_0 x0.cls.length c0_0, .slice a0_1 x0.next.length c0_1, .slice a0_2 x0.fin.length c0_2]] σ [] (whittleref11_Back_P σ r) := by
 dsimp only [whittleref11_Back] at hh
 have f0_0b := f0_0.rv.big
 have f0_1b := f0_1.big
 have f0_2b := f0_2.rv.big
 refine Con.mk (n := 90) Tryz.func44 z z z (fun w0 => ?_)
 refine TC.a (TL.op z (boxA z z z z (fun b101 => ?_)))
 refine TL.op z (OpOk.alloc z ze86 z z (fun b103 => ?_))
 refine TL.i z z (TL.en (TC.seq (TC.a (TL.w z (loadAll z ag26 sz26 z (i := 1) z z) ?_))))
 obtain ⟨v5, u5, hh⟩ := bnd_e hh
 refine TL.op z (callP (whittleref11_Right_con (x0 := x0) f0_0 f0_1 f0_2 u5) z z pf43 z z z ?_)
 refine TL.w z (OpVal.not z z) (TL.en (TC.cB z hh (fun h105 hh => ?_) (fun h105 hh => ?_)))
 ·refine TC.a (TL.w z (buildL z pl86 ze86 z) (TL.op z (storeAll z sz86 z z z z z z ?_)))
  refine TL.i z z (TL.en (TC.rt 1 (S.r ?_)))
  obtain rfl := so hh
  exact ro [] z (RVs.agg ag86 sz86 z (i := 0) z z (RVs.tmp z RVs.nil)) ⟨none, 0, none, 0, none, 0, z, (RS.nilF _ Go.E.encI Go.E.encI_len), (RS.nilF _ Go.E.encI Go.E.encI_len), (RS.nilF _ encE encE_len), z⟩
 ·refine TC.skip (S.n (TC.a (TL.w z (fieldLoc z fo26_1 z) (TL.w z (loadLoc z ag23 z (i := 1) z z) (TL.w z (lenC z underlying23 z) (TL.op z (OpOk.lit (enc := Go.E.encI) [0] z underlying22 sz3 ze3 z z z Go.E.encI_len (by decide) (by decide) (0 : Int) z (by decide) z (by decide) Go.E.encI_one (fun a106 c107 => ?_))))))))
  refine TL.w z (buildL z pl86 ze86 z) (TL.op z (OpOk.alloc z ze86 z z (fun b109 => ?_)))
  refine TL.op z (storeAll z sz86 z z z z z z ?_)
  refine TL.en (TC.seq (TC.a (TL.i z z (TL.en (TC.block (TC.nilS 3 1 Go.E.encI (TC.nilS 90 6 encE (TC.loopG (α := ((List Int) × (List Arrow) × Nat) × ((Option Addr) × Nat × (Option Addr) × Nat)) (rgs [(5, 5), (19, 65)]) (fun g => [(5, .int .i64 ((g.1.2.2 : Nat) : Int))]) (fun g => [Res.cells b101 #[.slice a0_0 x0.cls.length c0_0, .slice a0_1 x0.next.length c0_1, .slice a0_2 x0.fin.length c0_2] 26, Res.cells b103 #[.int .i64 0, .slice none 0 0, .slice none 0 0, .slice none 0 0] 86, Res.cells b109 #[.int .i64 ((x0.next.length : Nat) : Int), .slice a106 [0].length c107, .slice g.2.1 g.1.1.length g.2.2.1, .slice g.2.2.2.1 g.1.2.1.length g.2.2.2.2] 86, Res.rowS 3 1 Go.E.encI (.slice a106 [0].length c107) [0], Res.rowS 3 1 Go.E.encI (.slice g.2.1 g.1.1.length g.2.2.1) g.1.1, Res.rowS 90 6 encE (.slice g.2.2.2.1 g.1.2.1.length g.2.2.2.2) g.1.2.1]) (fun g => σ) (fun g => iter (fun q : (List Int) × (List Arrow) × Nat => whittleref11_Back_b1 x0 q.1 q.2.1 q.2.2) g.1 = some r) (fun g => rounds (fun q : (List Int) × (List Arrow) × Nat => whittleref11_Back_b1 x0 q.1 q.2.1 q.2.2) g.1) ((([] : List Int), ([] : List Arrow), 0), (none, 0, none, 0)) (Sub.f [1, 3, 3, 4, 5] 6) z (by repeat (first | exact trivial | refine ⟨z, ?_⟩)) hh (fun g1 j1 hg1 => ?_)))))))))
  obtain ⟨⟨l130, l134, k137⟩, ⟨a131, c132, a135, c136⟩⟩ := g1
  have hh := hg1; clear hg1
  try dsimp only
  obtain ⟨z1, hh, hR1⟩ := iter_e hh
  dsimp only [whittleref11_Back_b1] at hh
  refine TC.isSl (i := 3) z (fun _ hb140 _ => ?_)
  refine TC.isSl (i := 4) z (fun _ hb141 _ => ?_)
  refine TC.isSl (i := 5) z (fun _ hb142 _ => ?_)
  refine TC.seq (TC.a (TL.i z z (TL.w z (fieldLoc z fo26_1 z) (TL.w z (loadLoc z ag23 z (i := 0) z z) (TL.w z (lenC z underlying23 z) (TL.w z (OpVal.lss z z z) (TL.en (TC.cD z hh (fun h143 hh => ?_) (fun h143 hh => ?_)))))))))
  ·refine TC.skip (S.n (TC.seq (TC.block (TC.cutG (α := ((List Int)) × ((Option Addr) × Nat)) (rgs [(26, 11)]) (fun g => []) (fun g => [Res.cells b101 #[.slice a0_0 x0.cls.length c0_0, .slice a0_1 x0.next.length c0_1, .slice a0_2 x0.fin.length c0_2] 26, Res.cells b103 #[.int .i64 0, .slice none 0 0, .slice none 0 0, .slice none 0 0] 86, Res.cells b109 #[.int .i64 ((x0.next.length : Nat) : Int), .slice a106 [0].length c107, .slice g.2.1 g.1.length g.2.2, .slice a135 l134.length c136] 86, Res.rowS 3 1 Go.E.encI (.slice a106 [0].length c107) [0], Res.rowS 3 1 Go.E.encI (.slice g.2.1 g.1.length g.2.2) g.1, Res.rowS 90 6 encE (.slice a135 l134.length c136) l134]) (fun g => σ) (fun g => whittleref11_Back_j1 x0 k137 l134 g.1 = some z1) ?_ (fun g j hg => ?_)))))
   ·skip
    refine TC.a (TL.w z (fieldLoc z fo26_2 z) (TL.w z (loadLoc z ag24 z (i := 0) z z) (TL.i z z ?_)))
    have u26 := grd_c hh
    replace hh := grd_t hh
    refine TL.w z (indexN z underlying24 sz4 z z f0_2.rv.sl (by omega)) (TL.w z (loadS1 false z ag4 z f0_2 (by omega) z) (TL.en (TC.cB z hh (fun h147 hh => ?_) (fun h147 hh => ?_))))
    ·refine TC.region (TL.w z (fieldLoc z fo86_2 z) (TL.w z (loadLoc z ag22 z (i := 2) z z) (TL.i z z (TL.op z (OpOk.lit (enc := Go.E.encI) [((k137 : Nat) : Int)] z underlying22 sz3 ze3 z z z Go.E.encI_len (by decide) (by decide) (0 : Int) z (by decide) z (by decide) Go.E.encI_one (fun a148 c149 => ?_))))))
     refine TL.front 5 z z ?_
     have u32 := grd_c hh
     replace hh := grd_t hh
     refine TL.op z (appendS z z underlying22 sz3 by3 ze3 z z (by decide) z z z (.inr ⟨_, 0, z⟩) (by simpa using u32) (by decide) (fun a151 c152 => ?_))
     refine TL.w z (fieldLoc z fo86_2 z) (TL.front 4 z z (TL.op z (storeSl z sz22 z z z z z ?_)))
     exact TL.en (cf ((l130 ++ [((k137 : Nat) : Int)]), (a151, c152)) hh (Sub.f [6, 2, 6, 3, 6, 6] 6))
    ·exact TC.skip (S.n (cf (l130, (a131, c132)) hh (Sub.f [5, 5, 5, 5, 5, 5] 6)))
   ·skip
    obtain ⟨l144, ⟨a145, c146⟩⟩ := g
    have hh := hg; clear hg
    try dsimp only
    dsimp only [whittleref11_Back_j1] at hh
    refine TC.isSl (i := 3) z (fun _ hb153 _ => ?_)
    refine TC.isSl (i := 4) z (fun _ hb154 _ => ?_)
    refine TC.isSl (i := 5) z (fun _ hb155 _ => ?_)
    refine TC.a (TL.i z z (TL.en (TC.block (TC.loopG (α := ((List Arrow) × Nat) × ((Option Addr) × Nat)) (rgs [(6, 4), (37, 47)]) (fun g => [(6, .int .i64 ((g.1.2 : Nat) : Int))]) (fun g => [Res.cells b101 #[.slice a0_0 x0.cls.length c0_0, .slice a0_1 x0.next.length c0_1, .slice a0_2 x0.fin.length c0_2] 26, Res.cells b103 #[.int .i64 0, .slice none 0 0, .slice none 0 0, .slice none 0 0] 86, Res.cells b109 #[.int .i64 ((x0.next.length : Nat) : Int), .slice a106 [0].length c107, .slice a145 l144.length c146, .slice g.2.1 g.1.1.length g.2.2] 86, Res.rowS 3 1 Go.E.encI (.slice a106 [0].length c107) [0], Res.rowS 3 1 Go.E.encI (.slice a145 l144.length c146) l144, Res.rowS 90 6 encE (.slice g.2.1 g.1.1.length g.2.2) g.1.1]) (fun g => σ) (fun g => iter (fun q : (List Arrow) × Nat => whittleref11_Back_b2 x0 k137 l144 q.1 q.2) g.1 = some z1) (fun g => rounds (fun q : (List Arrow) × Nat => whittleref11_Back_b2 x0 k137 l144 q.1 q.2) g.1) ((l134, 0), (a135, c136)) (Sub.f [5, 5, 5, 5, 5, 5] 6) z (by repeat (first | exact trivial | refine ⟨z, ?_⟩)) hh (fun g2 j2 hg2 => ?_)))))
    obtain ⟨⟨l164, k167⟩, ⟨a165, c166⟩⟩ := g2
    have hh := hg2; clear hg2
    try dsimp only
    obtain ⟨z2, hh, hR2⟩ := iter_e hh
    dsimp only [whittleref11_Back_b2] at hh
    refine TC.isSl (i := 3) z (fun _ hb168 _ => ?_)
    refine TC.isSl (i := 4) z (fun _ hb169 _ => ?_)
    refine TC.isSl (i := 5) z (fun _ hb170 _ => ?_)
    refine TC.seq (TC.a (TL.i z z (TL.w z (fieldLoc z fo26_1 z) (TL.w z (loadLoc z ag23 z (i := 0) z z) (TL.w z (lenC z underlying23 z) (TL.w z (OpVal.lss z z z) (TL.en (TC.cD z hh (fun h171 hh => ?_) (fun h171 hh => ?_)))))))))
    ·refine TC.skip (S.n (TC.cutG (α := ((List Arrow)) × ((Option Addr) × Nat)) (rgs [(7, 3), (44, 40)]) (fun g => []) (fun g => [Res.cells b101 #[.slice a0_0 x0.cls.length c0_0, .slice a0_1 x0.next.length c0_1, .slice a0_2 x0.fin.length c0_2] 26, Res.cells b103 #[.int .i64 0, .slice none 0 0, .slice none 0 0, .slice none 0 0] 86, Res.cells b109 #[.int .i64 ((x0.next.length : Nat) : Int), .slice a106 [0].length c107, .slice a145 l144.length c146, .slice g.2.1 g.1.length g.2.2] 86, Res.rowS 3 1 Go.E.encI (.slice a106 [0].length c107) [0], Res.rowS 3 1 Go.E.encI (.slice a145 l144.length c146) l144, Res.rowS 90 6 encE (.slice g.2.1 g.1.length g.2.2) g.1]) (fun g => σ) (fun g => whittleref11_Back_j2 k167 g.1 = some z2) ?_ (fun g j hg => ?_)))
     ·skip
      refine TC.block (TC.a (TL.op z (makeS2 (m := 256) (enc := encB) false z underlying24 sz4 by4 ze4 z z z z (by omega) (by decide) encB_len (by decide) z encB_one (fun a175 c176 => ?_))))
      refine TL.s z z (TL.en (TC.a (TL.j z z (TL.en (TC.seq (TC.a (TL.i z z (TL.en (TC.block (TC.loopG (α := ((List Bool) × Bool × Nat) × (Unit)) (rgs [(8, 2), (45, 28)]) (fun g => [(8, .bool g.1.2.1), (9, .int .i64 ((g.1.2.2 : Nat) : Int))]) (fun g => [Res.cells b101 #[.slice a0_0 x0.cls.length c0_0, .slice a0_1 x0.next.length c0_1, .slice a0_2 x0.fin.length c0_2] 26, Res.cells b103 #[.int .i64 0, .slice none 0 0, .slice none 0 0, .slice none 0 0] 86, Res.cells b109 #[.int .i64 ((x0.next.length : Nat) : Int), .slice a106 [0].length c107, .slice a145 l144.length c146, .slice a165 l164.length c166] 86, Res.rowS 3 1 Go.E.encI (.slice a106 [0].length c107) [0], Res.rowS 3 1 Go.E.encI (.slice a145 l144.length c146) l144, Res.rowS 90 6 encE (.slice a165 l164.length c166) l164, Res.rowS 4 1 encB (.slice a175 (List.replicate 256 false).length c176) g.1.1]) (fun g => σ) (fun g => iter (fun q : (List Bool) × Bool × Nat => whittleref11_Back_b3 x0 k137 k167 l164 q.1 q.2.1 q.2.2) g.1 = some z2 ∧ g.1.1.length = (List.replicate 256 false).length) (fun g => rounds (fun q : (List Bool) × Bool × Nat => whittleref11_Back_b3 x0 k137 k167 l164 q.1 q.2.1 q.2.2) g.1) (((List.replicate 256 false), false, 0), ()) (Sub.f [6, 6, 6, 6, 6, 6] 7) z (by repeat (first | exact trivial | refine ⟨z, ?_⟩)) ⟨hh, z⟩ (fun g3 j3 hg3 => ?_)))))))))))
      obtain ⟨⟨l186, t188, k189⟩, _⟩ := g3
      obtain ⟨hh, hn187⟩ := hg3
      try dsimp only at hn187 ⊢
      obtain ⟨z3, hh, hR3⟩ := iter_e hh
      dsimp only [whittleref11_Back_b3] at hh
      have hn187b := hn187
      refine TC.isSl (i := 3) z (fun _ hb190 _ => ?_)
      refine TC.isSl (i := 4) z (fun _ hb191 _ => ?_)
      refine TC.isSl (i := 5) z (fun _ hb192 _ => ?_)
      refine TC.isSl (i := 6) z (fun _ hb193 _ => ?_)
      refine TC.seq (TC.a (TL.i z z (TL.w z (OpVal.lss z z z) (TL.en (TC.cD z hh (fun h194 hh => ?_) (fun h194 hh => ?_))))))
      ·refine TC.skip (S.n (TC.cutG (α := (Bool) × (Unit)) (rgs [(8, 1), (49, 24)]) (fun g => [(8, .bool g.1)]) (fun g => [Res.cells b101 #[.slice a0_0 x0.cls.length c0_0, .slice a0_1 x0.next.length c0_1, .slice a0_2 x0.fin.length c0_2] 26, Res.cells b103 #[.int .i64 0, .slice none 0 0, .slice none 0 0, .slice none 0 0] 86, Res.cells b109 #[.int .i64 ((x0.next.length : Nat) : Int), .slice a106 [0].length c107, .slice a145 l144.length c146, .slice a165 l164.length c166] 86, Res.rowS 3 1 Go.E.encI (.slice a106 [0].length c107) [0], Res.rowS 3 1 Go.E.encI (.slice a145 l144.length c146) l144, Res.rowS 90 6 encE (.slice a165 l164.length c166) l164, Res.rowS 4 1 encB (.slice a175 (List.replicate 256 false).length c176) (l186.set k189 (decide ((nth (nth x0.next k137 ([] : List Int)) ((nth x0.cls k189 (0 : Int)).toNat) (0 : Int)) = ((k167 : Nat) : Int))))]) (fun g => σ) (fun g => whittleref11_Back_j3 l186 k189 x0 k137 k167 g.1 = some z3 ∧ (l186.set k189 (decide ((nth (nth x0.next k137 ([] : List Int)) ((nth x0.cls k189 (0 : Int)).toNat) (0 : Int)) = ((k167 : Nat) : Int)))).length = (List.replicate 256 false).length) ?_ (fun g j hg => ?_)))
       ·skip
        refine TC.block (TC.seq ?_)
        have u57 := grd_c hh
        replace hh := grd_t hh
        have u59 := grd_c hh
        replace hh := grd_t hh
        have u63 := grd_c hh
        replace hh := grd_t hh
        refine TC.draw [17] (by kernel_rfl) (TA.a 0 z (moveSl (.inl z) z) z (TA.a 1 z (moveI (.inl z) z) z (TA.a 2 z (fieldLoc z fo26_1 z) z (TA.b 3 z (loadLoc z ag23 z (i := 0) z z) z (TA.a 4 z (moveI (.inl z) z) z (TA.b 5 z (indexN z underlying23 sz22 z z f0_1.isSl (by omega)) z ?_))))))
        obtain ⟨p200, hk200, hg200⟩ := RZ.seg f0_1 k137 (by omega)
        replace hk200 : RS _ 1 Go.E.encI (.slice p200.1 (nth x0.next k137 ([] : List Int)).length p200.2) (nth x0.next k137 ([] : List Int)) := hk200
        have hk200b := hk200.rv.big
        refine TA.b 6 z (OpVal.of (loadSeg0 z ag22 z hg200 z) (v' := .slice p200.1 ((nth x0.next k137 ([] : List Int)).length) p200.2) z) z (TA.a 7 z (fieldLoc z fo26_0 z) z (TA.b 8 z (loadLoc z ag22 z (i := 0) z z) z (TA.a 9 z (moveI (.inl z) z) z (TA.b 10 z (indexN z underlying22 sz3 z z f0_0.rv.sl (by omega)) z (TA.b 11 z (loadS1 (0 : Int) z ag3 z f0_0 (by omega) z) z (TA.b 12 z (OpVal.index z underlying22 sz3 z z hk200.rv.sl u59.1 u59.2) z (TA.b 13 z (loadS1 (0 : Int) z ag3 z hk200 (by omega) z) z (TA.a 14 z (moveI (.inl z) z) z (TA.a 15 z (OpVal.eql z z z) z (TA.isSl (i := 6) z (fun hs201 _ _ => ?_)))))))))))
        refine TA.b 16 z (indexN z underlying24 sz4 z z hs201 (by omega)) z (TA.front 6 z z ?_)
        have hn202 : (l186.set k189 (decide ((nth (nth x0.next k137 ([] : List Int)) ((nth x0.cls k189 (0 : Int)).toNat) (0 : Int)) = ((k167 : Nat) : Int)))).length = (List.replicate 256 false).length := by rw [List.length_set]; exact hn187
        refine TA.last 17 (by kernel_rfl) z z z (storeS (decide ((nth (nth x0.next k137 ([] : List Int)) ((nth x0.cls k189 (0 : Int)).toNat) (0 : Int)) = ((k167 : Nat) : Int))) z sz4 z z z z encB_len encB_one (by omega) (by omega) ?_)
        refine TZ.done (by kernel_rfl) (S.n (TC.region (TL.j z z (TL.j z z (TL.split 67 z (fun h203 => ?_) (fun h203 => ?_))))))
        ·replace hh := iteO_t h203 hh
         exact TL.f z (TL.f z (TL.f z (TL.f z (TL.w z (pickTB z z z) (TL.j z z (TL.nil (B.n (S.n (cf (true, ()) ⟨hh, hn202⟩ (Sub.f [6, 6, 6, 6, 6, 6] 7))))))))))
        ·replace hh := iteO_f h203 hh
         refine TL.g z (moveSl (.inl z) z) (TL.g z (moveI (.inl z) z) ?_)
         have u69 := grd_c hh
         replace hh := grd_t hh
         refine TL.isSl (i := 0) z (fun hs204 _ _ => ?_)
         exact TL.g z (indexN z underlying24 sz4 z z hs204 (by omega)) (TL.g z (loadO1 false z ag4 z (q := 0) z encB_len (by omega) z) (TL.w z (pickFB z z z) (TL.j z z (TL.nil (B.n (S.n (cf ((nth (l186.set k189 (decide ((nth (nth x0.next k137 ([] : List Int)) ((nth x0.cls k189 (0 : Int)).toNat) (0 : Int)) = ((k167 : Nat) : Int)))) k189 false), ()) ⟨hh, hn202⟩ (Sub.f [6, 6, 6, 6, 6, 6] 7))))))))
       ·skip
        obtain ⟨t196, _⟩ := g
        obtain ⟨hh, hn195⟩ := hg
        try dsimp only at hn195 ⊢
        dsimp only [whittleref11_Back_j3] at hh
        have hn195b := hn195
        refine TC.isSl (i := 3) z (fun _ hb205 _ => ?_)
        refine TC.isSl (i := 4) z (fun _ hb206 _ => ?_)
        refine TC.isSl (i := 5) z (fun _ hb207 _ => ?_)
        refine TC.isSl (i := 6) z (fun _ hb208 _ => ?_)
        refine TC.region (TL.i z z (TL.w z (OpVal.succ z z z (by omega)) (TL.i z z (TL.en ?_))))
        obtain ⟨hh, hlt209⟩ := nxt_x hR3 hh
        exact lf (((l186.set k189 (decide ((nth (nth x0.next k137 ([] : List Int)) ((nth x0.cls k189 (0 : Int)).toNat) (0 : Int)) = ((k167 : Nat) : Int)))), t196, (k189 + 1)), ()) hlt209 ⟨hh, hn195⟩ (Sub.f [6, 6, 6, 6, 6, 6, 6] 7)
      ·refine TC.exit (S.x (S.x ?_))
       replace hh := fin_x hR3 hh
       refine TC.exitHere (S.n (TC.a (TL.j z z (TL.en (TC.cB z hh (fun h210 hh => ?_) (fun h210 hh => ?_))))))
       ·have u82 := grd_c hh
        replace hh := grd_t hh
        have u85 := grd_c hh
        replace hh := grd_t hh
        refine TC.drawR (Hr := [Res.cells b101 #[.slice a0_0 x0.cls.length c0_0, .slice a0_1 x0.next.length c0_1, .slice a0_2 x0.fin.length c0_2] 26, Res.cells b103 #[.int .i64 0, .slice none 0 0, .slice none 0 0, .slice none 0 0] 86, Res.rowS 3 1 Go.E.encI (.slice a106 [0].length c107) [0], Res.rowS 3 1 Go.E.encI (.slice a145 l144.length c146) l144]) (fun r hr => mem_pick [0, 1, 3, 4] z hr) [] (by kernel_rfl) (TA.a 0 z (fieldLoc z fo86_3 z) z (TA.a 2 z (moveI (.inl z) z) z (TA.a 3 z (moveI (.inl z) z) z (TA.a 4 z (moveSl (.inl z) z) z (TA.actN [1, 5] (by kernel_rfl) (an z z (OpVal.ok (loadLoc z ag84 z (i := 2) z z) z z ⟨(fun w h => sees_of (Store.le.refl _) (fun r hr => mem_pick [0, 1, 3, 4] z hr) w h), ?_⟩) (an z z (OpOk.front 6 z z (callT (make_conN hn187 u82) z z pf58 z z z z ⟨(fun w h => sees_of (Store.le.refl _) (fun r hr => mem_pick [0, 1, 3, 4] z hr) w h), ?_⟩)) (True.intro))))))))
        ·skip
         refine TA.front 6 z z (TA.ac 5 z (callT (make_conN hn187 u82) z z pf58 z z z z ⟨(fun w h => sees_of (Store.le.refl _) (fun r hr => mem_pick [0, 1, 3, 4] z hr) w h), ?_⟩))
         refine TA.a 6 z (buildL z pl90 ze90 z) z (TA.ac 7 z (OpOk.lit (enc := encE) [(⟨((k137 : Nat) : Int), ((k167 : Nat) : Int), (BSet.make fun i => nth l186 i false)⟩ : Arrow)] z underlying84 sz90 ze90 z z z encE_len (by decide) (by decide) Arrow.zero z (by decide) z (by decide) encE_one (fun a216 c217 => ⟨(fun w h => sees_of (Store.le.refl _) (fun r hr => mem_pick [1, 2, 4, 5] z hr) w h), ?_⟩)))
         refine TA.front 6 z z (TA.ac 8 z (appendS z z underlying84 sz90 by90 ze90 z z (by decide) z z z (.inr ⟨_, 0, z⟩) (by simpa using u85) (by decide) (fun a219 c220 => ⟨(fun w h => sees_of (Store.le.refl _) (fun r hr => mem_pick [2, 3, 5, 6] z hr) w h), ?_⟩)))
         refine TA.a 9 z (fieldLoc z fo86_3 z) z (TA.front 4 z z (TA.ac 10 z (storeSl z sz84 z z z z z (k3 ?_))))
         exact TA.dn (B.n (S.n (cf ((l164 ++ [(⟨((k137 : Nat) : Int), ((k167 : Nat) : Int), (BSet.make fun i => nth l186 i false)⟩ : Arrow)]), (a219, c220)) hh (Sub.f [1, 6, 6, 3, 6, 6] 6))))
        ·skip
         refine TA.a 6 z (buildL z pl90 ze90 z) z (TA.actN [1, 7] (by kernel_rfl) (an z z (OpVal.ok (loadLoc z ag84 z (i := 2) z z) z z ⟨(fun w h => sees_of (Store.le.refl _) (fun r hr => mem_pick [0, 1, 3, 4] z hr) w h), ?_⟩) (an z z (OpOk.lit (enc := encE) [(⟨((k137 : Nat) : Int), ((k167 : Nat) : Int), (BSet.make fun i => nth l186 i false)⟩ : Arrow)] z underlying84 sz90 ze90 z z z encE_len (by decide) (by decide) Arrow.zero z (by decide) z (by decide) encE_one (fun a221 c222 => ⟨(fun w h => sees_of (Store.le.refl _) (fun r hr => mem_pick [1, 2, 4, 5] z hr) w h), ?_⟩)) (True.intro))))
         ·skip
          refine TA.ac 7 z (OpOk.lit (enc := encE) [(⟨((k137 : Nat) : Int), ((k167 : Nat) : Int), (BSet.make fun i => nth l186 i false)⟩ : Arrow)] z underlying84 sz90 ze90 z z z encE_len (by decide) (by decide) Arrow.zero z (by decide) z (by decide) encE_one (fun a224 c225 => ⟨(fun w h => sees_of (Store.le.refl _) (fun r hr => mem_pick [1, 2, 4, 5] z hr) w h), ?_⟩))
          refine TA.front 6 z z (TA.ac 8 z (appendS z z underlying84 sz90 by90 ze90 z z (by decide) z z z (.inr ⟨_, 0, z⟩) (by simpa using u85) (by decide) (fun a227 c228 => ⟨(fun w h => sees_of (Store.le.refl _) (fun r hr => mem_pick [2, 3, 5, 6] z hr) w h), ?_⟩)))
          refine TA.a 9 z (fieldLoc z fo86_3 z) z (TA.front 4 z z (TA.ac 10 z (storeSl z sz84 z z z z z (k3 ?_))))
          exact TA.dn (B.n (S.n (cf ((l164 ++ [(⟨((k137 : Nat) : Int), ((k167 : Nat) : Int), (BSet.make fun i => nth l186 i false)⟩ : Arrow)]), (a227, c228)) hh (Sub.f [1, 6, 6, 3, 6, 6] 6))))
         ·skip
          refine TA.ac 1 z (OpVal.ok (loadLoc z ag84 z (i := 3) z z) z z ⟨(fun w h => sees_of (Store.le.refl _) (fun r hr => mem_pick [1, 2, 4, 5] z hr) w h), ?_⟩)
          refine TA.front 6 z z (TA.ac 8 z (appendS z z underlying84 sz90 by90 ze90 z z (by decide) z z z (.inr ⟨_, 0, z⟩) (by simpa using u85) (by decide) (fun a229 c230 => ⟨(fun w h => sees_of (Store.le.refl _) (fun r hr => mem_pick [2, 3, 5, 6] z hr) w h), ?_⟩)))
          refine TA.a 9 z (fieldLoc z fo86_3 z) z (TA.front 4 z z (TA.ac 10 z (storeSl z sz84 z z z z z (k3 ?_))))
          exact TA.dn (B.n (S.n (cf ((l164 ++ [(⟨((k137 : Nat) : Int), ((k167 : Nat) : Int), (BSet.make fun i => nth l186 i false)⟩ : Arrow)]), (a229, c230)) hh (Sub.f [1, 6, 6, 3, 6, 6] 6))))
       ·exact TC.skip (B.n (S.n (cf (l164, (a165, c166)) hh (Sub.f [5, 5, 5, 5, 5, 5] 6))))
     ·skip
      obtain ⟨l172, ⟨a173, c174⟩⟩ := g
      have hh := hg; clear hg
      try dsimp only
      dsimp only [whittleref11_Back_j2] at hh
      refine TC.isSl (i := 3) z (fun _ hb231 _ => ?_)
      refine TC.isSl (i := 4) z (fun _ hb232 _ => ?_)
      refine TC.isSl (i := 5) z (fun _ hb233 _ => ?_)
      refine TC.region (TL.i z z (TL.w z (OpVal.succ z z z (by omega)) (TL.i z z (TL.en ?_))))
      obtain ⟨hh, hlt234⟩ := nxt_x hR2 hh
      exact lf ((l172, (k167 + 1)), (a173, c174)) hlt234 hh (Sub.f [5, 5, 5, 5, 5, 5] 6)
    ·refine TC.exit (S.x (S.x ?_))
     replace hh := fin_x hR2 hh
     refine TC.exitHere (B.n (S.n (TC.region (TL.i z z (TL.w z (OpVal.succ z z z (by omega)) (TL.i z z (TL.en ?_)))))))
     obtain ⟨hh, hlt235⟩ := nxt_x hR1 hh
     exact lf ((l144, l164, (k137 + 1)), (a145, c146, a165, c166)) hlt235 hh (Sub.f [5, 5, 5, 5, 5, 5] 6)
  ·refine TC.exit (S.x (S.x ?_))
   replace hh := fin_x hR1 hh
   refine TC.exitHere (S.n (TC.seq (TC.a (TL.w z (fieldLoc z fo86_3 z) (TL.w z (loadLoc z ag84 z (i := 2) z z) (TL.w z (lenC z underlying84 z) (TL.w z (OpVal.gtr z z z) (TL.en (TC.cD z hh (fun h236 hh => ?_) (fun h236 hh => ?_))))))))))
   ·refine TC.a (TL.w z (buildL z pl86 ze86 z) (TL.front 1 z z (TL.op z (storeAll z sz86 z z z z z z ?_))))
    refine TL.i z z (TL.en (TC.rt 1 (S.r ?_)))
    obtain rfl := so hh
    exact ro [] z (RVs.agg ag86 sz86 z (i := 0) z z (RVs.tmp z RVs.nil)) ⟨none, 0, none, 0, none, 0, z, (RS.nilF _ Go.E.encI Go.E.encI_len), (RS.nilF _ Go.E.encI Go.E.encI_len), (RS.nilF _ encE encE_len), z⟩
   ·refine TC.skip (S.n (TC.a (TL.w z (loadAll z ag86 sz86 z (i := 2) z z) (TL.front 1 z z (TL.op z (storeAll z sz86 z z z z z z ?_))))))
    refine TL.i z z (TL.en (TC.front 3 z z (TC.sealS Go.E.encI_len (fun τ239 hle238 hr237 => ?_))))
    have hr237b := hr237.rv.big
    refine TC.front 3 z z (TC.sealS Go.E.encI_len (fun τ242 hle241 hr240 => ?_))
    replace hr237 := hr237.mono hle241
    have hr240b := hr240.rv.big
    refine TC.front 3 z z (TC.sealS encE_len (fun τ245 hle244 hr243 => ?_))
    replace hr237 := hr237.mono hle244
    replace hr240 := hr240.mono hle244
    have hr243b := hr243.rv.big
    refine TC.rt 1 ?_
    obtain rfl := so hh
    exact ro [] z (RVs.agg ag86 sz86 z (i := 0) z z (RVs.tmp z RVs.nil)) ⟨a106, c107, a131, c132, a135, c136, z, hr237, hr240, hr243, z⟩

noncomputable def whittleref16_end (x0 : Fst) : Option (Fst × Int) :=
 bnd (whittleref15_Right x0) (fun v5 => iteO (!v5) (some ((⟨0, ([] : List Tip), ([] : List Tip), ([] : List Arc)⟩ : Fst), 2)) (some (x0, 0)))
def whittleref16_end_P (σ : Store) (r : Fst × Int) : Value → Store → List Res → Prop := fun v σ' H' =>
 ∃ (a1 : Option Addr), ∃ (c1 : Nat), ∃ (a2 : Option Addr), ∃ (c2 : Nat), ∃ (a3 : Option Addr), ∃ (c3 : Nat),  v = .tuple #[.agg #[.int .i64 r.1.states, .slice a1 r.1.starts.length c1, .slice a2 r.1.ends.length c2, .slice a3 r.1.arcs.length c3], .int .i64 r.2] ∧ RS σ' 2 encTip (.slice a1 r.1.starts.length c1) r.1.starts ∧ RS σ' 2 encTip (.slice a2 r.1.ends.length c2) r.1.ends ∧ RS σ' 8 encArc (.slice a3 r.1.arcs.length c3) r.1.arcs ∧ H' = []
theorem whittleref16_end_con {σ : Store} {x0 : Fst} {a0_0 : Option Addr} {c0_0 : Nat} {a0_1 : Option Addr} {c0_1 : Nat} {a0_2 : Option Addr} {c0_2 : Nat} (f0_0 : RS σ 2 encTip (.slice a0_0 x0.starts.length c0_0) x0.starts) (f0_1 : RS σ 2 encTip (.slice a0_1 x0.ends.length c0_1) x0.ends) (f0_2 : RS σ 8 encArc (.slice a0_2 x0.arcs.length c0_2) x0.arcs) {r : Fst × Int} (hh : whittleref16_end x0 = some r) :
  Con Tryz.prog 45 #[.agg #[.int .i64 x0.states, .slice a0_0 x0.starts.length c0_0, .slice a0_1 x0.ends.length c0_1, .slice a0_2 x0.arcs.length c0_2]] σ [] (whittleref16_end_P σ r) := by
 dsimp only [whittleref16_end] at hh
 have f0_0b := f0_0.rv.big
 have f0_1b := f0_1.rv.big
 have f0_2b := f0_2.rv.big
 refine Con.mk (n := 9) Tryz.func45 z z z (fun w0 => ?_)
 refine TC.a (TL.op z (boxA z z z z (fun b101 => ?_)))
 refine TL.op z (OpOk.alloc z ze31 z z (fun b103 => ?_))
 refine TL.i z z (TL.en (TC.seq (TC.a (TL.w z (loadAll z ag31 sz31 z (i := 1) z z) ?_))))
 obtain ⟨v5, u5, hh⟩ := bnd_e hh
 refine TL.op z (callP (whittleref15_Right_con (x0 := x0) f0_0 f0_1 f0_2 u5) z z pf59 z z z ?_)
 refine TL.w z (OpVal.not z z) (TL.en (TC.cB z hh (fun h105 hh => ?_) (fun h105 hh => ?_)))
 ·refine TC.a (TL.w z (buildL z pl31 ze31 z) (TL.op z (storeAll z sz31 z z z z z z ?_)))
  refine TL.i z z (TL.en (TC.rt 1 (S.r ?_)))
  obtain rfl := so hh
  exact ro [] z (RVs.agg ag31 sz31 z (i := 0) z z (RVs.tmp z RVs.nil)) ⟨none, 0, none, 0, none, 0, z, (RS.nilF _ encTip encTip_len), (RS.nilF _ encTip encTip_len), (RS.nilF _ encArc encArc_len), z⟩
 ·refine TC.skip (S.n (TC.a (TL.w z (loadAll z ag31 sz31 z (i := 1) z z) (TL.op z (storeAll z sz31 z z z z z z ?_)))))
  refine TL.i z z (TL.en (TC.rt 1 ?_))
  obtain rfl := so hh
  exact ro [] z (RVs.agg ag31 sz31 z (i := 0) z z (RVs.tmp z RVs.nil)) ⟨a0_0, c0_0, a0_1, c0_1, a0_2, c0_2, z, f0_0, f0_1, f0_2, z⟩

noncomputable def whittleref16_of_b2 (v17 : Nfa × Int) (x2 : Bool) (l127 : List Tip) (l157 : List Arc) (k160 : Nat) : Option (((List Arc) × Nat) ⊕ (Fst × Int)) :=
 iteO (decide (((k160 : Nat) : Int) < ((v17.1.edges.length : Nat) : Int))) (grd ((l157.length + [(⟨(nth v17.1.edges k160 Arrow.zero).frm, (nth v17.1.edges k160 Arrow.zero).to, (nth v17.1.edges k160 Arrow.zero).set, ([] : List UInt8), x2⟩ : Arc)].length) * 72 ≤ 140737488355328) (nxt ((l157 ++ [(⟨(nth v17.1.edges k160 Arrow.zero).frm, (nth v17.1.edges k160 Arrow.zero).to, (nth v17.1.edges k160 Arrow.zero).set, ([] : List UInt8), x2⟩ : Arc)]), (k160 + 1)))) (fin (bnd (whittleref16_end (⟨v17.1.states, [(⟨0, ([] : List UInt8)⟩ : Tip)], l127, l157⟩ : Fst)) (fun v90 => some (v90.1, v90.2))))
noncomputable def whittleref16_of_b1 (v17 : Nfa × Int) (x1 : List UInt8) (x2 : Bool) (l127 : List Tip) (k130 : Nat) : Option (((List Tip) × Nat) ⊕ (Fst × Int)) :=
 iteO (decide (((k130 : Nat) : Int) < ((v17.1.ends.length : Nat) : Int))) (grd ((l127.length + [(⟨(nth v17.1.ends k130 (0 : Int)), x1⟩ : Tip)].length) * 24 ≤ 140737488355328) (nxt ((l127 ++ [(⟨(nth v17.1.ends k130 (0 : Int)), x1⟩ : Tip)]), (k130 + 1)))) (fin (iter (fun q : (List Arc) × Nat => whittleref16_of_b2 v17 x2 l127 q.1 q.2) (([] : List Arc), 0)))
noncomputable def whittleref16_of (x0 : Dfa) (x1 : List UInt8) (x2 : Bool) : Option (Fst × Int) :=
 grd (x1.length ≤ 281474976710656) (bnd (whittleref11_Right x0) (fun v5 => iteO (!v5) (some ((⟨0, ([] : List Tip), ([] : List Tip), ([] : List Arc)⟩ : Fst), 1)) (iteO (decide (1024 < ((x1.length : Nat) : Int))) (some ((⟨0, ([] : List Tip), ([] : List Tip), ([] : List Arc)⟩ : Fst), 2)) (bnd (whittleref11_Back x0) (fun v17 => iteO (decide (v17.2 ≠ 0)) (some ((⟨0, ([] : List Tip), ([] : List Tip), ([] : List Arc)⟩ : Fst), v17.2)) (iter (fun q : (List Tip) × Nat => whittleref16_of_b1 v17 x1 x2 q.1 q.2) (([] : List Tip), 0)))))))
def whittleref16_of_P (σ : Store) (r : Fst × Int) : Value → Store → List Res → Prop := fun v σ' H' =>
 ∃ (a1 : Option Addr), ∃ (c1 : Nat), ∃ (a2 : Option Addr), ∃ (c2 : Nat), ∃ (a3 : Option Addr), ∃ (c3 : Nat),  v = .tuple #[.agg #[.int .i64 r.1.states, .slice a1 r.1.starts.length c1, .slice a2 r.1.ends.length c2, .slice a3 r.1.arcs.length c3], .int .i64 r.2] ∧ RS σ' 2 encTip (.slice a1 r.1.starts.length c1) r.1.starts ∧ RS σ' 2 encTip (.slice a2 r.1.ends.length c2) r.1.ends ∧ RS σ' 8 encArc (.slice a3 r.1.arcs.length c3) r.1.arcs ∧ H' = []
theorem whittleref16_of_con {σ : Store} {x0 : Dfa} {a0_0 : Option Addr} {c0_0 : Nat} {a0_1 : Option Addr} {c0_1 : Nat} {a0_2 : Option Addr} {c0_2 : Nat} {x1 : List UInt8} {x2 : Bool} (f0_0 : RS σ 1 Go.E.encI (.slice a0_0 x0.cls.length c0_0) x0.cls) (f0_1 : RZ σ (pkSl 1 Go.E.encI Go.E.encI_len) (.slice a0_1 x0.next.length c0_1) x0.next) (f0_2 : RS σ 1 encB (.slice a0_2 x0.fin.length c0_2) x0.fin) {r : Fst × Int} (hh : whittleref16_of x0 x1 x2 = some r) :
  Con Tryz.prog 24 #[.agg #[.slice a0_0 x0.cls.length c0_0, .slice a0_1 x0.next.length c0_1, .slice a0_2 x0.fin.length c0_2], .string (bs x1), .bool x2] σ [] (whittleref16_of_P σ r) := by
 dsimp only [whittleref16_of] at hh
 have f0_0b := f0_0.rv.big
 have f0_1b := f0_1.big
 have f0_2b := f0_2.rv.big
 refine Con.mk (n := 84) Tryz.func24 z z z (fun w0 => ?_)
 have x1b := grd_c hh
 replace hh := grd_t hh
 refine TC.a (TL.op z (boxA z z z z (fun b101 => ?_)))
 refine TL.op z (OpOk.alloc z ze31 z z (fun b103 => ?_))
 refine TL.i z z (TL.en (TC.seq (TC.a (TL.w z (loadAll z ag26 sz26 z (i := 1) z z) ?_))))
 obtain ⟨v5, u5, hh⟩ := bnd_e hh
 refine TL.op z (callP (whittleref11_Right_con (x0 := x0) f0_0 f0_1 f0_2 u5) z z pf43 z z z ?_)
 refine TL.w z (OpVal.not z z) (TL.en (TC.cB z hh (fun h105 hh => ?_) (fun h105 hh => ?_)))
 ·refine TC.a (TL.w z (buildL z pl31 ze31 z) (TL.op z (storeAll z sz31 z z z z z z ?_)))
  refine TL.i z z (TL.en (TC.rt 1 (S.r ?_)))
  obtain rfl := so hh
  exact ro [] z (RVs.agg ag31 sz31 z (i := 0) z z (RVs.tmp z RVs.nil)) ⟨none, 0, none, 0, none, 0, z, (RS.nilF _ encTip encTip_len), (RS.nilF _ encTip encTip_len), (RS.nilF _ encArc encArc_len), z⟩
 ·refine TC.skip (S.n (TC.seq (TC.a (TL.w z (moveStr (.inl z) z) (TL.w z (lenBs z underlying9 z) (TL.w z (OpVal.gtr z z z) (TL.en (TC.cD z hh (fun h106 hh => ?_) (fun h106 hh => ?_)))))))))
  ·refine TC.a (TL.w z (buildL z pl31 ze31 z) (TL.op z (storeAll z sz31 z z z z z z ?_)))
   refine TL.i z z (TL.en (TC.rt 1 (S.r ?_)))
   obtain rfl := so hh
   exact ro [] z (RVs.agg ag31 sz31 z (i := 0) z z (RVs.tmp z RVs.nil)) ⟨none, 0, none, 0, none, 0, z, (RS.nilF _ encTip encTip_len), (RS.nilF _ encTip encTip_len), (RS.nilF _ encArc encArc_len), z⟩
  ·refine TC.skip (S.n (TC.a (TL.w z (loadAll z ag26 sz26 z (i := 1) z z) ?_)))
   obtain ⟨v17, u17, hh⟩ := bnd_e hh
   refine TL.op z (OpOk.call (whittleref11_Back_con (x0 := x0) f0_0 f0_1 f0_2 u17) z z pf44 z z z z ?_)
   rintro _ τ107 _ hle107 ⟨a107_1, c107_1, a107_2, c107_2, a107_3, c107_3, rfl, hr107_0, hr107_1, hr107_2, rfl⟩
   have hr107_0b := hr107_0.rv.big
   have hr107_1b := hr107_1.rv.big
   have hr107_2b := hr107_2.rv.big
   refine TL.w z (moveT (.inl z) z) (TL.w z (OpVal.extract z z z) (TL.w z (OpVal.extract z z z) (TL.op z (OpOk.alloc z ze86 z z (fun b108 => ?_)))))
   refine TL.op z (storeAll z sz86 z z z z z z ?_)
   refine TL.i z z (TL.en (TC.seq (TC.a (TL.i z z (TL.w z (OpVal.neq z z z) (TL.en (TC.cD z hh (fun h110 hh => ?_) (fun h110 hh => ?_))))))))
   ·refine TC.a (TL.w z (buildL z pl31 ze31 z) (TL.i z z (TL.front 1 z z (TL.op z (storeAll z sz31 z z z z z z ?_)))))
    refine TL.i z z (TL.en (TC.rt 1 (S.r ?_)))
    obtain rfl := so hh
    exact ro [] z (RVs.agg ag31 sz31 z (i := 0) z z (RVs.tmp z RVs.nil)) ⟨none, 0, none, 0, none, 0, z, (RS.nilF _ encTip encTip_len), (RS.nilF _ encTip encTip_len), (RS.nilF _ encArc encArc_len), z⟩
   ·refine TC.skip (S.n (TC.a (TL.w z (fieldLoc z fo86_0 z) (TL.w z (loadLoc z ag3 z (i := 0) z z) (TL.w z (buildL z pl62 ze62 z) (TL.op z (OpOk.lit (enc := encTip) [(⟨0, ([] : List UInt8)⟩ : Tip)] z underlying28 sz62 ze62 z z z encTip_len (by decide) (by decide) Tip.zero z (by decide) z (by decide) encTip_one (fun a111 c112 => ?_))))))))
    refine TL.w z (buildL z pl31 ze31 z) (TL.op z (OpOk.alloc z ze31 z z (fun b114 => ?_)))
    refine TL.op z (storeAll z sz31 z z z z z z ?_)
    refine TL.en (TC.seq (TC.a (TL.i z z (TL.en (TC.block (TC.nilS 62 2 encTip (TC.loopG (α := ((List Tip) × Nat) × ((Option Addr) × Nat)) (rgs [(11, 1), (36, 19)]) (fun g => [(11, .int .i64 ((g.1.2 : Nat) : Int))]) (fun g => [Res.cells b103 #[.int .i64 0, .slice none 0 0, .slice none 0 0, .slice none 0 0] 31, Res.cells b108 #[.int .i64 v17.1.states, .slice a107_1 v17.1.starts.length c107_1, .slice a107_2 v17.1.ends.length c107_2, .slice a107_3 v17.1.edges.length c107_3] 86, Res.cells b114 #[.int .i64 v17.1.states, .slice a111 ([(⟨0, ([] : List UInt8)⟩ : Tip)].length) c112, .slice g.2.1 g.1.1.length g.2.2, .slice none 0 0] 31, Res.rowS 62 2 encTip (.slice a111 [(⟨0, ([] : List UInt8)⟩ : Tip)].length c112) [(⟨0, ([] : List UInt8)⟩ : Tip)], Res.rowS 62 2 encTip (.slice g.2.1 g.1.1.length g.2.2) g.1.1]) (fun g => τ107) (fun g => iter (fun q : (List Tip) × Nat => whittleref16_of_b1 v17 x1 x2 q.1 q.2) g.1 = some r) (fun g => rounds (fun q : (List Tip) × Nat => whittleref16_of_b1 v17 x1 x2 q.1 q.2) g.1) ((([] : List Tip), 0), (none, 0)) (Sub.f [2, 2, 3, 4] 5) z (by repeat (first | exact trivial | refine ⟨z, ?_⟩)) hh (fun g1 j1 hg1 => ?_))))))))
    obtain ⟨⟨l127, k130⟩, ⟨a128, c129⟩⟩ := g1
    have hh := hg1; clear hg1
    try dsimp only
    obtain ⟨z1, hh, hR1⟩ := iter_e hh
    dsimp only [whittleref16_of_b1] at hh
    refine TC.isSl (i := 3) z (fun _ hb132 _ => ?_)
    refine TC.isSl (i := 4) z (fun _ hb133 _ => ?_)
    refine TC.seq (TC.a (TL.i z z (TL.w z (fieldLoc z fo86_2 z) (TL.w z (loadLoc z ag22 z (i := 1) z z) (TL.w z (lenC z underlying22 z) (TL.w z (OpVal.lss z z z) (TL.en (TC.cD z hh (fun h134 hh => ?_) (fun h134 hh => ?_)))))))))
    ·refine TC.skip (S.n (TC.seq (TC.block ?_)))
     have u53 := grd_c hh
     replace hh := grd_t hh
     refine TC.draw [10, 11, 12] (by kernel_rfl) (TA.a 0 z (fieldLoc z fo31_2 z) z (TA.b 1 z (loadLoc z ag28 z (i := 2) z z) z (TA.a 2 z (fieldLoc z fo86_2 z) z (TA.b 3 z (loadLoc z ag22 z (i := 1) z z) z (TA.a 4 z (moveI (.inl z) z) z (TA.b 5 z (indexN z underlying22 sz3 z z hr107_1.rv.sl (by omega)) z (TA.b 6 z (loadS1 (0 : Int) z ag3 z hr107_1 (by omega) z) z (TA.a 7 z (moveStr (.inl z) z) z (TA.a 8 z (buildL z pl62 ze62 z) z (TA.ac 9 z (OpOk.lit (enc := encTip) [(⟨(nth v17.1.ends k130 (0 : Int)), x1⟩ : Tip)] z underlying28 sz62 ze62 z z z encTip_len (by decide) (by decide) Tip.zero z (by decide) z (by decide) encTip_one (fun a140 c141 => (k1 ?_)))))))))))))
     refine TA.front 5 z z (TA.last 10 (by kernel_rfl) z z z (appendS z z underlying28 sz62 by62 ze62 z z (by decide) z z z (.inr ⟨_, 0, z⟩) (by simpa using u53) (by decide) (fun a143 c144 => ?_)))
     refine TZ.v 11 (by kernel_rfl) z z z (fieldLoc z fo31_2 z) z z (TZ.front 4 z z (TZ.last 12 (by kernel_rfl) z z z (storeSl z sz28 z z z z z ?_)))
     refine TZ.done (by kernel_rfl) (B.n (S.n (TC.region (TL.i z z (TL.w z (OpVal.succ z z z (by omega)) (TL.i z z (TL.en ?_)))))))
     obtain ⟨hh, hlt145⟩ := nxt_x hR1 hh
     exact lf (((l127 ++ [(⟨(nth v17.1.ends k130 (0 : Int)), x1⟩ : Tip)]), (k130 + 1)), (a143, c144)) hlt145 hh (Sub.f [1, 5, 2, 5, 5] 5)
    ·refine TC.exit (S.x (S.x ?_))
     replace hh := fin_x hR1 hh
     refine TC.exitHere (S.n (TC.seq (TC.a (TL.i z z (TL.en (TC.block (TC.nilS 60 8 encArc (TC.loopG (α := ((List Arc) × Nat) × ((Option Addr) × Nat)) (rgs [(12, 2), (55, 25)]) (fun g => [(12, .int .i64 ((g.1.2 : Nat) : Int))]) (fun g => [Res.cells b103 #[.int .i64 0, .slice none 0 0, .slice none 0 0, .slice none 0 0] 31, Res.cells b108 #[.int .i64 v17.1.states, .slice a107_1 v17.1.starts.length c107_1, .slice a107_2 v17.1.ends.length c107_2, .slice a107_3 v17.1.edges.length c107_3] 86, Res.cells b114 #[.int .i64 v17.1.states, .slice a111 ([(⟨0, ([] : List UInt8)⟩ : Tip)].length) c112, .slice a128 l127.length c129, .slice g.2.1 g.1.1.length g.2.2] 31, Res.rowS 62 2 encTip (.slice a111 [(⟨0, ([] : List UInt8)⟩ : Tip)].length c112) [(⟨0, ([] : List UInt8)⟩ : Tip)], Res.rowS 62 2 encTip (.slice a128 l127.length c129) l127, Res.rowS 60 8 encArc (.slice g.2.1 g.1.1.length g.2.2) g.1.1]) (fun g => τ107) (fun g => iter (fun q : (List Arc) × Nat => whittleref16_of_b2 v17 x2 l127 q.1 q.2) g.1 = some r) (fun g => rounds (fun q : (List Arc) × Nat => whittleref16_of_b2 v17 x2 l127 q.1 q.2) g.1) ((([] : List Arc), 0), (none, 0)) (Sub.f [5, 5, 5, 5, 5] 6) z (by repeat (first | exact trivial | refine ⟨z, ?_⟩)) hh (fun g2 j2 hg2 => ?_)))))))))
     obtain ⟨⟨l157, k160⟩, ⟨a158, c159⟩⟩ := g2
     have hh := hg2; clear hg2
     try dsimp only
     obtain ⟨z1, hh, hR1⟩ := iter_e hh
     dsimp only [whittleref16_of_b2] at hh
     refine TC.isSl (i := 3) z (fun _ hb162 _ => ?_)
     refine TC.isSl (i := 4) z (fun _ hb163 _ => ?_)
     refine TC.isSl (i := 5) z (fun _ hb164 _ => ?_)
     refine TC.seq (TC.a (TL.i z z (TL.w z (fieldLoc z fo86_3 z) (TL.w z (loadLoc z ag84 z (i := 1) z z) (TL.w z (lenC z underlying84 z) (TL.w z (OpVal.lss z z z) (TL.en (TC.cD z hh (fun h165 hh => ?_) (fun h165 hh => ?_)))))))))
     ·refine TC.skip (S.n (TC.seq (TC.block (TC.a (TL.w z (fieldLoc z fo86_3 z) (TL.w z (loadLoc z ag84 z (i := 1) z z) (TL.i z z (TL.w z (indexN z underlying84 sz90 z z hr107_2.rv.sl (by omega)) (TL.w z (loadSA Arrow.zero z ag90 sz90 z hr107_2 (by omega) (by omega)) (TL.op z (OpOk.alloc z ze90 z z (fun b166 => ?_))))))))))))
      refine TL.op z (storeAll z sz90 z z z z z z ?_)
      refine TL.en (TC.region (TL.w z (fieldLoc z fo31_3 z) (TL.w z (loadLoc z ag29 z (i := 3) z z) (TL.w z (fieldLoc z fo90_0 z) (TL.w z (loadLoc z ag3 z (i := 0) z z) (TL.w z (fieldLoc z fo90_1 z) (TL.w z (loadLoc z ag3 z (i := 0) z z) (TL.w z (fieldLoc z fo90_2 z) (TL.w z (loadLocA z ag58 sz58 z (i := 0) z z z) (TL.j z z (TL.w z (buildL z pl60 ze60 z) (TL.op z (OpOk.lit (enc := encArc) [(⟨(nth v17.1.edges k160 Arrow.zero).frm, (nth v17.1.edges k160 Arrow.zero).to, (nth v17.1.edges k160 Arrow.zero).set, ([] : List UInt8), x2⟩ : Arc)] z underlying29 sz60 ze60 z z z encArc_len (by decide) (by decide) Arc.zero z (by decide) z (by decide) encArc_one (fun a168 c169 => ?_))))))))))))))
      refine TL.front 7 z z ?_
      have u83 := grd_c hh
      replace hh := grd_t hh
      refine TL.op z (appendS z z underlying29 sz60 by60 ze60 z z (by decide) z z z (.inr ⟨_, 0, z⟩) (by simpa using u83) (by decide) (fun a171 c172 => ?_))
      refine TL.w z (fieldLoc z fo31_3 z) (TL.front 5 z z (TL.op z (storeSl z sz29 z z z z z ?_)))
      refine TL.nil (B.n (S.n (TC.region (TL.i z z (TL.w z (OpVal.succ z z z (by omega)) (TL.i z z (TL.en ?_)))))))
      obtain ⟨hh, hlt173⟩ := nxt_x hR1 hh
      exact lf (((l157 ++ [(⟨(nth v17.1.edges k160 Arrow.zero).frm, (nth v17.1.edges k160 Arrow.zero).to, (nth v17.1.edges k160 Arrow.zero).set, ([] : List UInt8), x2⟩ : Arc)]), (k160 + 1)), (a171, c172)) hlt173 hh (Sub.f [1, 7, 7, 3, 7, 7] 6)
     ·refine TC.exit (S.x (S.x ?_))
      replace hh := fin_x hR1 hh
      refine TC.exitHere (S.n (TC.a (TL.w z (loadAll z ag31 sz31 z (i := 2) z z) (TL.front 3 z z (TL.sealS encTip_len (fun τ176 hle175 hr174 => ?_))))))
      have hr174b := hr174.rv.big
      refine TL.front 3 z z (TL.sealS encTip_len (fun τ179 hle178 hr177 => ?_))
      replace hr174 := hr174.mono hle178
      have hr177b := hr177.rv.big
      refine TL.front 3 z z (TL.sealS encArc_len (fun τ182 hle181 hr180 => ?_))
      replace hr174 := hr174.mono hle181
      replace hr177 := hr177.mono hle181
      have hr180b := hr180.rv.big
      obtain ⟨v90, u90, hh⟩ := bnd_e hh
      refine TL.op z (OpOk.call (whittleref16_end_con (x0 := (⟨v17.1.states, [(⟨0, ([] : List UInt8)⟩ : Tip)], l127, l157⟩ : Fst)) hr174 hr177 hr180 u90) z z pf45 z z z z ?_)
      rintro _ τ183 _ hle183 ⟨a183_1, c183_1, a183_2, c183_2, a183_3, c183_3, rfl, hr183_0, hr183_1, hr183_2, rfl⟩
      have hr183_0b := hr183_0.rv.big
      have hr183_1b := hr183_1.rv.big
      have hr183_2b := hr183_2.rv.big
      refine TL.w z (OpVal.extract z z z) (TL.w z (OpVal.extract z z z) (TL.op z (storeAll z sz31 z z z z z z ?_)))
      refine TL.i z z (TL.en (TC.rt 1 ?_))
      obtain rfl := so hh
      exact ro [] z (RVs.agg ag31 sz31 z (i := 0) z z (RVs.tmp z RVs.nil)) ⟨a183_1, c183_1, a183_2, c183_2, a183_3, c183_3, z, hr183_0, hr183_1, hr183_2, z⟩

noncomputable def whittleref16_Same (x0 : Dfa) : Option (Fst × Int) :=
 bnd (whittleref16_of x0 ([] : List UInt8) true) (fun v5 => some (v5.1, v5.2))
def whittleref16_Same_P (σ : Store) (r : Fst × Int) : Value → Store → List Res → Prop := fun v σ' H' =>
 ∃ (a1 : Option Addr), ∃ (c1 : Nat), ∃ (a2 : Option Addr), ∃ (c2 : Nat), ∃ (a3 : Option Addr), ∃ (c3 : Nat),  v = .tuple #[.agg #[.int .i64 r.1.states, .slice a1 r.1.starts.length c1, .slice a2 r.1.ends.length c2, .slice a3 r.1.arcs.length c3], .int .i64 r.2] ∧ RS σ' 2 encTip (.slice a1 r.1.starts.length c1) r.1.starts ∧ RS σ' 2 encTip (.slice a2 r.1.ends.length c2) r.1.ends ∧ RS σ' 8 encArc (.slice a3 r.1.arcs.length c3) r.1.arcs ∧ H' = []
theorem whittleref16_Same_con {σ : Store} {x0 : Dfa} {a0_0 : Option Addr} {c0_0 : Nat} {a0_1 : Option Addr} {c0_1 : Nat} {a0_2 : Option Addr} {c0_2 : Nat} (f0_0 : RS σ 1 Go.E.encI (.slice a0_0 x0.cls.length c0_0) x0.cls) (f0_1 : RZ σ (pkSl 1 Go.E.encI Go.E.encI_len) (.slice a0_1 x0.next.length c0_1) x0.next) (f0_2 : RS σ 1 encB (.slice a0_2 x0.fin.length c0_2) x0.fin) {r : Fst × Int} (hh : whittleref16_Same x0 = some r) :
  Con Tryz.prog 8 #[.agg #[.slice a0_0 x0.cls.length c0_0, .slice a0_1 x0.next.length c0_1, .slice a0_2 x0.fin.length c0_2]] σ [] (whittleref16_Same_P σ r) := by
 dsimp only [whittleref16_Same] at hh
 have f0_0b := f0_0.rv.big
 have f0_1b := f0_1.big
 have f0_2b := f0_2.rv.big
 refine Con.mk (n := 8) Tryz.func8 z z z (fun w0 => ?_)
 refine TC.a (TL.op z (boxA z z z z (fun b101 => ?_)))
 refine TL.op z (OpOk.alloc z ze31 z z (fun b103 => ?_))
 refine TL.i z z (TL.en (TC.a (TL.w z (loadAll z ag26 sz26 z (i := 1) z z) ?_)))
 obtain ⟨v5, u5, hh⟩ := bnd_e hh
 refine TL.op z (OpOk.call (whittleref16_of_con (x0 := x0) f0_0 f0_1 f0_2 u5) z z pf24 z z z z ?_)
 rintro _ τ105 _ hle105 ⟨a105_1, c105_1, a105_2, c105_2, a105_3, c105_3, rfl, hr105_0, hr105_1, hr105_2, rfl⟩
 have hr105_0b := hr105_0.rv.big
 have hr105_1b := hr105_1.rv.big
 have hr105_2b := hr105_2.rv.big
 refine TL.w z (OpVal.extract z z z) (TL.w z (OpVal.extract z z z) (TL.op z (storeAll z sz31 z z z z z z ?_)))
 refine TL.i z z (TL.en (TC.rt 1 ?_))
 obtain rfl := so hh
 exact ro [] z (RVs.agg ag31 sz31 z (i := 0) z z (RVs.tmp z RVs.nil)) ⟨a105_1, c105_1, a105_2, c105_2, a105_3, c105_3, z, hr105_0, hr105_1, hr105_2, z⟩

noncomputable def whittleref16_Cross (x0 : Dfa) (x1 : List UInt8) : Option (Fst × Int) :=
 grd (x1.length ≤ 281474976710656) (bnd (whittleref16_of x0 x1 false) (fun v6 => some (v6.1, v6.2)))
def whittleref16_Cross_P (σ : Store) (r : Fst × Int) : Value → Store → List Res → Prop := fun v σ' H' =>
 ∃ (a1 : Option Addr), ∃ (c1 : Nat), ∃ (a2 : Option Addr), ∃ (c2 : Nat), ∃ (a3 : Option Addr), ∃ (c3 : Nat),  v = .tuple #[.agg #[.int .i64 r.1.states, .slice a1 r.1.starts.length c1, .slice a2 r.1.ends.length c2, .slice a3 r.1.arcs.length c3], .int .i64 r.2] ∧ RS σ' 2 encTip (.slice a1 r.1.starts.length c1) r.1.starts ∧ RS σ' 2 encTip (.slice a2 r.1.ends.length c2) r.1.ends ∧ RS σ' 8 encArc (.slice a3 r.1.arcs.length c3) r.1.arcs ∧ H' = []
theorem whittleref16_Cross_con {σ : Store} {x0 : Dfa} {a0_0 : Option Addr} {c0_0 : Nat} {a0_1 : Option Addr} {c0_1 : Nat} {a0_2 : Option Addr} {c0_2 : Nat} {x1 : List UInt8} (f0_0 : RS σ 1 Go.E.encI (.slice a0_0 x0.cls.length c0_0) x0.cls) (f0_1 : RZ σ (pkSl 1 Go.E.encI Go.E.encI_len) (.slice a0_1 x0.next.length c0_1) x0.next) (f0_2 : RS σ 1 encB (.slice a0_2 x0.fin.length c0_2) x0.fin) {r : Fst × Int} (hh : whittleref16_Cross x0 x1 = some r) :
  Con Tryz.prog 10 #[.agg #[.slice a0_0 x0.cls.length c0_0, .slice a0_1 x0.next.length c0_1, .slice a0_2 x0.fin.length c0_2], .string (bs x1)] σ [] (whittleref16_Cross_P σ r) := by
 dsimp only [whittleref16_Cross] at hh
 have f0_0b := f0_0.rv.big
 have f0_1b := f0_1.big
 have f0_2b := f0_2.rv.big
 refine Con.mk (n := 11) Tryz.func10 z z z (fun w0 => ?_)
 have x1b := grd_c hh
 replace hh := grd_t hh
 refine TC.a (TL.op z (boxA z z z z (fun b101 => ?_)))
 refine TL.op z (OpOk.alloc z ze31 z z (fun b103 => ?_))
 refine TL.i z z (TL.en (TC.a (TL.w z (loadAll z ag26 sz26 z (i := 1) z z) (TL.w z (moveStr (.inl z) z) ?_))))
 obtain ⟨v6, u6, hh⟩ := bnd_e hh
 refine TL.op z (OpOk.call (whittleref16_of_con (x0 := x0) f0_0 f0_1 f0_2 u6) z z pf24 z z z z ?_)
 rintro _ τ105 _ hle105 ⟨a105_1, c105_1, a105_2, c105_2, a105_3, c105_3, rfl, hr105_0, hr105_1, hr105_2, rfl⟩
 have hr105_0b := hr105_0.rv.big
 have hr105_1b := hr105_1.rv.big
 have hr105_2b := hr105_2.rv.big
 refine TL.w z (OpVal.extract z z z) (TL.w z (OpVal.extract z z z) (TL.op z (storeAll z sz31 z z z z z z ?_)))
 refine TL.i z z (TL.en (TC.rt 1 ?_))
 obtain rfl := so hh
 exact ro [] z (RVs.agg ag31 sz31 z (i := 0) z z (RVs.tmp z RVs.nil)) ⟨a105_1, c105_1, a105_2, c105_2, a105_3, c105_3, z, hr105_0, hr105_1, hr105_2, z⟩

end Go.Proofs.YtcfjjckencjjeaaGreatDoor
end

/- DfR -/
section
/- Automatons that go one way: the reference's Right. Plain lemmas, no condition. -/
set_option linter.unusedVariables false
set_option linter.unusedSimpArgs false
namespace Go.Proofs.YtcfjjckencjjeaaGreatDoor
open Go Go.E
set_option maxRecDepth 100000
theorem sets02_in (cls : List Int) (h256 : cls.length = 256) (k : Nat) (out : List BSet) (hk : k < 1000) (ho : out.length < 1000) :
    ∃ x, iter (fun q : (List Bool) × Nat => whittleref02_Sets_b3 cls k out q.1 q.2) ((List.replicate 256 false), 0) = some (.inl (out ++ [x], k + 1)) := by
  obtain ⟨r, h1, x, rfl⟩ := iter_for (step := fun q : (List Bool) × Nat => whittleref02_Sets_b3 cls k out q.1 q.2) (fun s k => (s, k)) cls 0 (fun _ s => s.length = 256) (fun r => ∃ x, r = .inl (out ++ [x], k + 1))
    (fun j s hj hI => by
      refine .inl ⟨s.set j (decide ((nth cls j (0 : Int)) = ((k : Nat) : Int))), ?_, by simpa using hI⟩
      simp only [whittleref02_Sets_b3]
      rw [show decide (((j : Nat) : Int) < 256) = true from decide_eq_true (by omega), iteO_true, grd_mk hj, grd_mk (by omega)]; rfl)
    (fun s hI => ⟨_, by
      simp only [whittleref02_Sets_b3]
      rw [show decide (((cls.length : Nat) : Int) < 256) = false from decide_eq_false (by omega), iteO_false, grd_mk List.length_replicate, grd_mk (by simp; omega), grd_mk (by omega)]; rfl, _, rfl⟩) (s0 := List.replicate 256 false) List.length_replicate
  exact ⟨x, h1⟩
theorem sets02_out (cls : List Int) (h256 : cls.length = 256) (m : Nat) (hm : m ≤ 256) :
    ∃ r, iter (fun q : (List BSet) × Nat => whittleref02_Sets_b2 ((m : Int) - 1) cls q.1 q.2) (([] : List BSet), 0) = some r ∧ r.1.length = m ∧ r.2 = 0 := by
  obtain ⟨r, h1, h2⟩ := iter_for (step := fun q : (List BSet) × Nat => whittleref02_Sets_b2 ((m : Int) - 1) cls q.1 q.2) (fun s k => (s, k)) (List.replicate m ()) () (fun pre s => s.length = pre.length) (fun r => r.1.length = m ∧ r.2 = 0)
    (fun k s hk hI => by
      rw [List.length_replicate] at hk
      rw [List.length_take, List.length_replicate] at hI
      obtain ⟨x, hx⟩ := sets02_in cls h256 k s (by omega) (by omega)
      refine .inl ⟨s ++ [x], ?_, by simp [hI]⟩
      simp only [whittleref02_Sets_b2]
      rw [show decide (((k : Nat) : Int) ≤ (m : Int) - 1) = true from decide_eq_true (by omega), iteO_true]; exact hx)
    (fun s hI => by
      rw [List.length_replicate] at hI ⊢
      exact ⟨(s, 0), by simp only [whittleref02_Sets_b2]; rw [show decide (((m : Nat) : Int) ≤ (m : Int) - 1) = false from decide_eq_false (by omega), iteO_false]; rfl, hI, rfl⟩) (s0 := []) rfl
  exact ⟨r, h1, h2⟩
theorem sets02_ok (cls : List Int) : ∃ r, whittleref02_Sets cls = some r ∧ (((cls.length ≠ 256 ∨ cntF cls = none) ∧ r.2 = 1) ∨ (cls.length = 256 ∧ cntF cls = some r.1.length ∧ r.2 = 0)) := by
  unfold whittleref02_Sets
  by_cases h256 : cls.length = 256
  · rw [show decide (((cls.length : Nat) : Int) ≠ 256) = false from decide_eq_false (by omega), iteO_false]
    obtain ⟨r, h1, h2⟩ := iter_for (step := fun q : Int × Nat => whittleref02_Sets_b1 cls q.1 q.2) (fun s k => (s, k)) cls 0 (fun pre s => ∃ c, cntF pre = some c ∧ s = (c : Int) - 1) (fun r => (cntF cls = none ∧ r.2 = 1) ∨ (cntF cls = some r.1.length ∧ r.2 = 0))
      (fun k s hk ⟨c, hI, hs⟩ => by
        subst hs
        have hle := cntF_le _ _ _ hI
        rw [List.length_take, Nat.zero_add] at hle
        have hsp := take_split cls hk (0 : Int)
        have hstop : (nth cls k 0 < 0 ∨ (c : Int) < nth cls k 0) → cntF cls = none := fun hc => by
          rw [hsp, ← List.singleton_append, ← List.append_assoc]
          exact cntF_none (by rw [cntF_snoc, hI]; simp [cntS, hc])
        simp only [whittleref02_Sets_b1]
        rw [show decide (((k : Nat) : Int) < 256) = true from decide_eq_true (by omega), iteO_true, grd_mk hk]
        by_cases c1 : nth cls k 0 < 0
        · right; rw [decide_eq_true c1, iteO_true]; exact ⟨_, rfl, .inl ⟨hstop (.inl c1), rfl⟩⟩
        rw [decide_eq_false c1, iteO_false, grd_mk hk, wrap64_of (by omega) (by omega)]
        by_cases c2 : ((c : Int) - 1 + 1) < nth cls k 0
        · right; rw [decide_eq_true c2, iteO_true]; exact ⟨_, rfl, .inl ⟨hstop (.inr (by omega)), rfl⟩⟩
        rw [decide_eq_false c2, iteO_false, grd_mk hk]
        left
        refine ⟨_, rfl, if nth cls k 0 = (c : Int) then c + 1 else c, ?_, ?_⟩
        · rw [cntF_snoc, hI]
          simp only [cntS, Option.bind_some]
          rw [if_neg (by omega)]
        · split <;> omega)
      (fun s ⟨c, hI, hs⟩ => by
        subst hs
        have hle := cntF_le _ _ _ hI
        obtain ⟨r, h1, h2, h3⟩ := sets02_out cls h256 c (by omega)
        refine ⟨r, ?_, .inr ⟨by rw [hI, h2], h3⟩⟩
        simp only [whittleref02_Sets_b1]
        rw [show decide (((cls.length : Nat) : Int) < 256) = false from decide_eq_false (by omega), iteO_false, h1]; rfl) (s0 := -1) ⟨0, rfl, rfl⟩
    refine ⟨r, h1, ?_⟩
    rcases h2 with ⟨h2, h3⟩ | ⟨h2, h3⟩
    · exact .inl ⟨.inr h2, h3⟩
    · exact .inr ⟨h256, h2, h3⟩
  · rw [show decide (((cls.length : Nat) : Int) ≠ 256) = true from decide_eq_true (by omega), iteO_true]
    exact ⟨_, rfl, .inl ⟨.inl h256, rfl⟩⟩
theorem rgt_in (d : Dfa) (v : (List BSet) × Int) (k : Nat) (hv : (nth d.next k []).length = v.1.length) : ∃ r, iter (fun q : Nat => whittleref11_Right_b2 v d k q) 0 = some r ∧ (((nth d.next k []).all (goodS d.next.length) = true ∧ r = .inl (k + 1)) ∨ ((nth d.next k []).all (goodS d.next.length) = false ∧ r = .inr false)) :=
  iter_for (step := fun q : Nat => whittleref11_Right_b2 v d k q) (fun (_ : Unit) j => j) (nth d.next k []) 0 (fun pre _ => pre.all (goodS d.next.length) = true) (fun r => ((nth d.next k []).all (goodS d.next.length) = true ∧ r = .inl (k + 1)) ∨ ((nth d.next k []).all (goodS d.next.length) = false ∧ r = .inr false))
    (fun j s hj hI => by
      simp only [whittleref11_Right_b2]
      rw [show decide (((j : Nat) : Int) < ((v.1.length : Nat) : Int)) = true from decide_eq_true (by omega), iteO_true, grd_mk hj]
      by_cases c1 : nth (nth d.next k ([] : List Int)) j (0 : Int) < 0
      · right; rw [decide_eq_true c1, iteO_true]; exact ⟨_, rfl, .inr ⟨all_falseD hj 0 (by simp [goodS]; omega), rfl⟩⟩
      rw [decide_eq_false c1, iteO_false, grd_mk hj]
      by_cases c2 : ((d.next.length : Nat) : Int) ≤ nth (nth d.next k ([] : List Int)) j (0 : Int)
      · right; rw [decide_eq_true c2, iteO_true]; exact ⟨_, rfl, .inr ⟨all_falseD hj 0 (by simp [goodS]; omega), rfl⟩⟩
      rw [decide_eq_false c2, iteO_false]
      left
      exact ⟨(), rfl, by rw [all_snocD, hI]; simp [goodS]; omega⟩)
    (fun s hI => by
      simp only [whittleref11_Right_b2]
      rw [show decide ((((nth d.next k ([] : List Int)).length : Nat) : Int) < ((v.1.length : Nat) : Int)) = false from decide_eq_false (by omega), iteO_false]
      exact ⟨_, rfl, .inl ⟨hI, rfl⟩⟩) (s0 := ()) rfl
theorem rgt_out (d : Dfa) (v : (List BSet) × Int) : ∃ r, iter (fun q : Nat => whittleref11_Right_b1 d v q) 0 = some r ∧ r = d.next.all (goodR d.next.length v.1.length) :=
  iter_for (step := fun q : Nat => whittleref11_Right_b1 d v q) (fun (_ : Unit) j => j) d.next [] (fun pre _ => pre.all (goodR d.next.length v.1.length) = true) (fun r => r = d.next.all (goodR d.next.length v.1.length))
    (fun k s hk hI => by
      simp only [whittleref11_Right_b1]
      rw [show decide (((k : Nat) : Int) < ((d.next.length : Nat) : Int)) = true from decide_eq_true (by omega), iteO_true]
      by_cases c1 : (nth d.next k ([] : List Int)).length = v.1.length
      · rw [show decide ((((nth d.next k ([] : List Int)).length : Nat) : Int) ≠ ((v.1.length : Nat) : Int)) = false from decide_eq_false (by omega), iteO_false]
        obtain ⟨r, h1, h2 | h2⟩ := rgt_in d v k c1
        · left; rw [h1, h2.2]; exact ⟨(), rfl, by rw [all_snocD, hI]; simp [goodR, c1, h2.1]⟩
        · right; rw [h1, h2.2]; exact ⟨_, rfl, (all_falseD hk [] (by simp only [goodR, h2.1, Bool.and_false])).symm⟩
      · right
        rw [show decide ((((nth d.next k ([] : List Int)).length : Nat) : Int) ≠ ((v.1.length : Nat) : Int)) = true from decide_eq_true (by omega), iteO_true]
        exact ⟨_, rfl, (all_falseD hk [] (by simp [goodR, c1])).symm⟩)
    (fun s hI => by
      simp only [whittleref11_Right_b1]
      rw [show decide (((d.next.length : Nat) : Int) < ((d.next.length : Nat) : Int)) = false from decide_eq_false (by omega), iteO_false]
      exact ⟨_, rfl, hI.symm⟩) (s0 := ()) rfl
theorem dright_eq (d : Dfa) : whittleref11_Right d = some (rightD d) := by
  unfold whittleref11_Right
  obtain ⟨v, hv, h⟩ := sets02_ok d.cls
  rw [bnd_some hv]
  rcases h with ⟨h1, h2⟩ | ⟨h1, h2, h3⟩
  · rw [decide_eq_true (show v.2 ≠ 0 by omega), iteO_true]
    rcases h1 with h1 | h1
    · simp [rightD, h1]
    · simp [rightD, h1]
  · rw [decide_eq_false (show ¬ v.2 ≠ 0 by omega), iteO_false]
    by_cases c1 : d.next.length < 1
    · rw [show decide (((d.next.length : Nat) : Int) < 1) = true from decide_eq_true (by omega), iteO_true]
      congr 1; symm; rw [Bool.eq_false_iff]; simp only [rightD, Ne, Bool.and_eq_true, decide_eq_true_eq]; omega
    rw [show decide (((d.next.length : Nat) : Int) < 1) = false from decide_eq_false (by omega), iteO_false]
    by_cases c2 : 1024 < d.next.length
    · rw [show decide (1024 < ((d.next.length : Nat) : Int)) = true from decide_eq_true (by omega), iteO_true]
      congr 1; symm; rw [Bool.eq_false_iff]; simp only [rightD, Ne, Bool.and_eq_true, decide_eq_true_eq]; omega
    rw [show decide (1024 < ((d.next.length : Nat) : Int)) = false from decide_eq_false (by omega), iteO_false]
    by_cases c3 : d.fin.length = d.next.length
    · rw [show decide (((d.fin.length : Nat) : Int) ≠ ((d.next.length : Nat) : Int)) = false from decide_eq_false (by omega), iteO_false]
      obtain ⟨r, hr, hr2⟩ := rgt_out d v
      rw [hr, hr2]
      congr 1
      simp only [rightD, h1, h2, c3, decide_true, Bool.true_and, Bool.and_true]
      rw [show decide (1 ≤ d.next.length ∧ d.next.length ≤ 1024) = true from decide_eq_true (by omega), Bool.and_true]
    · rw [show decide (((d.fin.length : Nat) : Int) ≠ ((d.next.length : Nat) : Int)) = true from decide_eq_true (by omega), iteO_true]
      congr 1; symm; rw [Bool.eq_false_iff]; simp only [rightD, Ne, Bool.and_eq_true, decide_eq_true_eq]; omega
end Go.Proofs.YtcfjjckencjjeaaGreatDoor
end

/- RightP -/
section
/- The reference's Right and Check of a transducer. Plain lemmas, no condition. -/
set_option linter.unusedVariables false
set_option linter.unusedSimpArgs false
namespace Go.Proofs.YtcfjjckencjjeaaGreatDoor
open Go Go.E
set_option maxRecDepth 100000

/-! ### Right, by the reference -/
theorem tips_all (l : List Tip) (n : Int) : whittleref15_tips l n = some (tipsB l n) := by
  unfold whittleref15_tips tipsB
  rw [iter_all (y := decide ((l.length : Int) ≤ 1024)) (no := false) l Tip.zero (tipB n)]
  · cases l.all (tipB n) <;> simp
  · intro k hk hp
    simp only [tipB, Bool.and_eq_true, decide_eq_true_eq] at hp
    simp only [whittleref15_tips_b1, lt_dec hk, iteO_true]
    rw [decide_eq_false (by omega), iteO_false, decide_eq_false (by omega), iteO_false, decide_eq_false (by omega), iteO_false]; rfl
  · intro k hk hp
    simp only [whittleref15_tips_b1, lt_dec hk, iteO_true]
    by_cases h1 : (nth l k Tip.zero).state < 0
    · rw [decide_eq_true h1, iteO_true]; rfl
    rw [decide_eq_false h1, iteO_false]
    by_cases h2 : n ≤ (nth l k Tip.zero).state
    · rw [decide_eq_true h2, iteO_true]; rfl
    rw [decide_eq_false h2, iteO_false]
    simp only [tipB, decide_eq_true (show 0 ≤ (nth l k Tip.zero).state by omega), decide_eq_true (show (nth l k Tip.zero).state < n by omega), Bool.true_and, decide_eq_false_iff_not] at hp
    rw [decide_eq_true (by omega), iteO_true]; rfl
  · simp only [whittleref15_tips_b1, Int.lt_irrefl, decide_false, iteO_false]; rfl
theorem right_eq (t : Fst) : whittleref15_Right t = some (fstB t) := by
  unfold whittleref15_Right
  by_cases h1 : t.states < 0
  · rw [decide_eq_true h1, iteO_true]; simp [fstB, show ¬ 0 ≤ t.states by omega]
  rw [decide_eq_false h1, iteO_false]
  by_cases h2 : 1024 < t.states
  · rw [decide_eq_true h2, iteO_true]; simp [fstB, show ¬ t.states ≤ 1024 by omega]
  rw [decide_eq_false h2, iteO_false, tips_all, bnd, Option.bind_some]
  have e0 : fstB t = (decide ((t.arcs.length : Int) ≤ 16384) && tipsB t.starts t.states && tipsB t.ends t.states && t.arcs.all (arcB t.states)) := by
    simp only [fstB, decide_eq_true (show 0 ≤ t.states by omega), decide_eq_true (show t.states ≤ 1024 by omega), Bool.true_and]
  rw [e0]
  cases h4 : tipsB t.starts t.states
  · simp
  simp only [Bool.not_true, iteO_false, tips_all, bnd, Option.bind_some]
  cases h5 : tipsB t.ends t.states
  · simp
  simp only [Bool.not_true, iteO_false, Bool.and_true]
  by_cases h3 : (16384 : Int) < (t.arcs.length : Int)
  · rw [decide_eq_true h3, iteO_true, decide_eq_false (show ¬ (t.arcs.length : Int) ≤ 16384 by omega), Bool.false_and]
  rw [decide_eq_false h3, iteO_false, decide_eq_true (show (t.arcs.length : Int) ≤ 16384 by omega), Bool.true_and, iter_all (y := true) (no := false) t.arcs Arc.zero (arcB t.states)]
  · cases t.arcs.all (arcB t.states) <;> rfl
  · intro k hk hp
    obtain ⟨p1, p2, p3, p4⟩ := arcB_ok hp
    simp only [whittleref15_Right_b1, lt_dec hk, iteO_true]
    rw [decide_eq_false (by omega), iteO_false, decide_eq_false (by omega), iteO_false, decide_eq_false (by omega), iteO_false, decide_eq_false (by omega), iteO_false, decide_eq_false p3, iteO_false, decide_eq_false (by omega), iteO_false]; rfl
  · intro k hk hp
    simp only [whittleref15_Right_b1, lt_dec hk, iteO_true]
    by_cases q1 : (nth t.arcs k Arc.zero).frm < 0
    · rw [decide_eq_true q1, iteO_true]; rfl
    rw [decide_eq_false q1, iteO_false]
    by_cases q2 : t.states ≤ (nth t.arcs k Arc.zero).frm
    · rw [decide_eq_true q2, iteO_true]; rfl
    rw [decide_eq_false q2, iteO_false]
    by_cases q3 : (nth t.arcs k Arc.zero).to < 0
    · rw [decide_eq_true q3, iteO_true]; rfl
    rw [decide_eq_false q3, iteO_false]
    by_cases q4 : t.states ≤ (nth t.arcs k Arc.zero).to
    · rw [decide_eq_true q4, iteO_true]; rfl
    rw [decide_eq_false q4, iteO_false]
    by_cases q5 : (nth t.arcs k Arc.zero).set = BSet.zero
    · rw [decide_eq_true q5, iteO_true]; rfl
    rw [decide_eq_false q5, iteO_false]
    simp only [arcB, decide_eq_true (show 0 ≤ (nth t.arcs k Arc.zero).frm by omega), decide_eq_true (show (nth t.arcs k Arc.zero).frm < t.states by omega), decide_eq_true (show 0 ≤ (nth t.arcs k Arc.zero).to by omega), decide_eq_true (show (nth t.arcs k Arc.zero).to < t.states by omega), ne_eq, q5, not_false_eq_true, decide_true, Bool.true_and, decide_eq_false_iff_not] at hp
    rw [decide_eq_true (by omega), iteO_true]; rfl
  · simp only [whittleref15_Right_b1, Int.lt_irrefl, decide_false, iteO_false]; rfl
end Go.Proofs.YtcfjjckencjjeaaGreatDoor
end

/- RatR -/
section
/- Automatons as transducers: the reference. Plain lemmas, no condition. -/
set_option linter.unusedVariables false
set_option linter.unusedSimpArgs false
namespace Go.Proofs.YtcfjjckencjjeaaGreatDoor
open Go Go.E
set_option maxRecDepth 100000

/-- Does a state go on to another one by a byte? -/
def goB (d : Dfa) (s z b : Nat) : Bool := decide (nth (nth d.next s ([] : List Int)) (nth d.cls b (0 : Int)).toNat (0 : Int) = ((z : Nat) : Int))
structure InI (d : Dfa) (s z k : Nat) (q : List Bool × Bool) : Prop where
  len : q.1.length = 256
  at_ : ∀ b, b < k → nth q.1 b false = goB d s z b
  any_ : q.2 = (List.range k).any (goB d s z)
theorem any_snoc (p : Nat → Bool) (k : Nat) : (List.range (k + 1)).any p = ((List.range k).any p || p k) := by
  rw [List.range_succ, List.any_append]; simp
theorem toS_goB (d : Dfa) (s z : Nat) : toS d s z = BSet.make (goB d s z) := rfl
theorem toS_any (d : Dfa) (s z : Nat) : (List.range 256).any (goB d s z) = !decide (toS d s z = BSet.zero) := by
  by_cases h : toS d s z = BSet.zero
  · rw [decide_eq_true h, Bool.not_true, List.any_eq_false]
    intro b hb
    have hb := List.mem_range.1 hb
    have h1 : (toS d s z).has b = goB d s z b := BSet.make_has _ hb
    rw [h, ← BSet.make_zero, BSet.make_has _ hb] at h1
    rw [← h1]; simp
  · rw [decide_eq_false h, Bool.not_false]
    refine Decidable.byContradiction fun hn => h ?_
    simp only [Bool.not_eq_true, List.any_eq_false] at hn
    rw [toS_goB, ← BSet.make_zero]
    exact BSet.make_congr fun b hb => by simpa using hn b (List.mem_range.2 hb)
theorem rback_in {d : Dfa} {m s z : Nat} {A : List Arrow} (h : rightD d = true) (hm : cntF d.cls = some m) (hs : s < d.next.length) (hA : A.length ≤ 20000) :
    iter (fun q : (List Bool) × Bool × Nat => whittleref11_Back_b3 d s z A q.1 q.2.1 q.2.2) ((List.replicate 256 false), false, 0) = some (.inl (A ++ (if toS d s z = BSet.zero then [] else [⟨((s : Nat) : Int), ((z : Nat) : Int), toS d s z⟩]), z + 1)) := by
  obtain ⟨m', h1, h2, h3, h4, h5, h6⟩ := right_parts h
  rw [hm] at h1; cases h1
  obtain ⟨h7, h8⟩ := h6 s hs
  obtain ⟨r, h1, rfl⟩ := iter_up (step := fun q : (List Bool) × Bool × Nat => whittleref11_Back_b3 d s z A q.1 q.2.1 q.2.2) (fun (q : List Bool × Bool) k => (q.1, q.2, k)) 256 (InI d s z) (fun r => r = .inl (A ++ (if toS d s z = BSet.zero then [] else [⟨((s : Nat) : Int), ((z : Nat) : Int), toS d s z⟩]), z + 1))
    (fun k q hk hI => by
      obtain ⟨l, t⟩ := q
      have hr := row_ok h hm hs hk
      have hlen : l.length = 256 := hI.len
      have ht : t = (List.range k).any (goB d s z) := hI.any_
      have hset : ∀ b, b < k + 1 → nth (l.set k (goB d s z k)) b false = goB d s z b := fun b hb => by
        rw [nth_set' _ _ _ _ _ (by omega)]
        by_cases e : b = k
        · rw [if_pos e, e]
        · rw [if_neg e]; exact hI.at_ b (by omega)
      refine .inl ⟨(l.set k (goB d s z k), (t || goB d s z k)), ?_, ⟨by rw [List.length_set]; exact hlen, hset, by rw [any_snoc, ← ht]⟩⟩
      show whittleref11_Back_b3 d s z A l t k = _
      unfold whittleref11_Back_b3 whittleref11_Back_j3
      rw [iteO_dt (by omega)]
      have q1 : 0 ≤ nth d.cls k (0 : Int) ∧ nth d.cls k (0 : Int) < (((nth d.next s ([] : List Int)).length : Nat) : Int) := ⟨hr.c0, by rw [h7]; exact hr.c1⟩
      rw [grd_mk (by omega), grd_mk q1, grd_mk (by omega)]
      cases t with
      | true => rw [iteO_true]; rfl
      | false =>
        rw [iteO_false, grd_mk (by rw [List.length_set]; omega), Bool.false_or]
        show some (Sum.inl (l.set k (goB d s z k), nth (l.set k (goB d s z k)) k false, k + 1)) = _
        rw [hset k (by omega)])
    (fun q hI => by
      obtain ⟨l, t⟩ := q
      refine ⟨_, ?_, rfl⟩
      show whittleref11_Back_b3 d s z A l t 256 = _
      unfold whittleref11_Back_b3 whittleref11_Back_j2
      rw [iteO_df (by omega)]
      have ht : t = !decide (toS d s z = BSet.zero) := hI.any_.trans (toS_any d s z)
      have hmk : (BSet.make fun i => nth l i false) = toS d s z := BSet.make_congr fun b hb => hI.at_ b hb
      rw [hmk]
      by_cases hz : toS d s z = BSet.zero
      · rw [ht, decide_eq_true hz, if_pos hz, List.append_nil]; rfl
      · rw [ht, decide_eq_false hz, if_neg hz, Bool.not_false, iteO_true, grd_mk List.length_replicate, grd_mk (by simp only [List.length_singleton]; omega)]; rfl) (s0 := ((List.replicate 256 false), false)) ⟨List.length_replicate, fun b hb => by omega, rfl⟩
  exact h1
theorem rback_eq {d : Dfa} (hn : d.next.length ≤ 100) : whittleref11_Back d = some (if rightD d = true then (backN d, 0) else (⟨0, [], [], []⟩, 1)) := by
  unfold whittleref11_Back
  rw [dright_eq, bnd_mk]
  by_cases h : rightD d = true
  · rw [if_pos h, h, iteO_nt]
    obtain ⟨m, hm, h2, h3, h4, h5, h6⟩ := right_parts h
    obtain ⟨r, h7, rfl⟩ := iter_up (step := fun q : (List Int) × (List Arrow) × Nat => whittleref11_Back_b1 d q.1 q.2.1 q.2.2) (fun (s : List Int × List Arrow) k => (s.1, s.2, k)) d.next.length (fun k s => s = (endsN d k, backE d k)) (fun r => r = (backN d, 0))
      (fun k s hk hI => by
        subst hI
        have e1 := endsN_len d k
        have e2 := backE_len d k
        have e3 := Nat.mul_le_mul (show k ≤ 100 by omega) hn
        refine .inl ⟨(endsN d (k + 1), backE d (k + 1)), ?_, rfl⟩
        show whittleref11_Back_b1 d _ _ k = _
        have hj : ∀ E : List Int, whittleref11_Back_j1 d k (backE d k) E = some (.inl (E, backE d (k + 1), k + 1)) := fun E => by
          unfold whittleref11_Back_j1
          obtain ⟨r, q1, rfl⟩ := iter_up (step := fun q : (List Arrow) × Nat => whittleref11_Back_b2 d k E q.1 q.2) (fun (A : List Arrow) z => (A, z)) d.next.length (fun z A => A = backE d k ++ backR d k z) (fun r => r = .inl (E, backE d (k + 1), k + 1))
            (fun z A hz hI => by
              subst hI
              have hlen := backR_len d k z
              refine .inl ⟨_, ?_, rfl⟩
              show whittleref11_Back_b2 d k E _ z = _
              unfold whittleref11_Back_b2
              rw [iteO_dt (by omega), rback_in h hm hk (by rw [List.length_append]; omega), backR_snoc, List.append_assoc])
            (fun A hI => by
              subst hI
              refine ⟨_, ?_, rfl⟩
              show whittleref11_Back_b2 d k E _ d.next.length = _
              unfold whittleref11_Back_b2
              rw [iteO_df (by omega), backE_snoc]; rfl) (s0 := backE d k) (by simp [backR])
          exact q1
        unfold whittleref11_Back_b1
        rw [iteO_dt (by omega), grd_mk (by omega), endsN_snoc]
        by_cases hf : nth d.fin k false = true
        · rw [hf, iteO_true, if_pos rfl, grd_mk (by simp only [List.length_singleton]; omega), hj]
        · simp only [Bool.not_eq_true] at hf
          rw [hf, iteO_false, if_neg (by simp), List.append_nil, hj])
      (fun s hI => by
        subst hI
        have e2 := backE_len d d.next.length
        have e3 := Nat.mul_le_mul hn hn
        refine ⟨_, ?_, rfl⟩
        show whittleref11_Back_b1 d _ _ d.next.length = _
        unfold whittleref11_Back_b1
        rw [iteO_df (by omega), iteO_df (by dsimp only; omega)]; rfl) (s0 := ([], [])) (by simp [endsN, backE])
    exact h7
  · simp only [Bool.not_eq_true] at h
    rw [h, if_neg (by simp)]; rfl
theorem end16_eq (t : Fst) (h : FstOk t) : whittleref16_end t = some (t, 0) := by
  unfold whittleref16_end
  rw [right_eq, bnd_mk, (fstB_iff t).2 h]; rfl
theorem of16_eq {d : Dfa} (hn : d.next.length ≤ 100) (out : List UInt8) (c : Bool) (ho : out.length ≤ 281474976710656) : whittleref16_of d out c = some (if rightD d = true then (if 1024 < out.length then (⟨0, [], [], []⟩, 2) else (mkF d out c, 0)) else (⟨0, [], [], []⟩, 1)) := by
  unfold whittleref16_of
  rw [grd_mk ho, dright_eq, bnd_mk]
  by_cases h : rightD d = true
  · rw [if_pos h, h, iteO_nt]
    by_cases h2 : 1024 < out.length
    · rw [iteO_dt (by omega), if_pos h2]
    · rw [iteO_df (by omega), if_neg h2, rback_eq hn, bnd_mk, if_pos h]
      dsimp only
      rw [iteO_df (by simp)]
      have e1 := endsN_len d d.next.length
      have e2 := backE_len d d.next.length
      have e3 := Nat.mul_le_mul hn hn
      have h1n : 1 ≤ d.next.length := by have := (ok0 h).2; omega
      obtain ⟨r, h1, rfl⟩ := iter_up (step := fun q : (List Tip) × Nat => whittleref16_of_b1 (backN d, 0) out c q.1 q.2) (fun (E : List Tip) k => (E, k)) (endsN d d.next.length).length
        (fun k E => E = ((endsN d d.next.length).take k).map fun s => ⟨s, out⟩) (fun r => r = (mkF d out c, 0))
        (fun k E hk hI => by
          subst hI
          refine .inl ⟨_, ?_, rfl⟩
          show whittleref16_of_b1 (backN d, 0) out c _ k = _
          unfold whittleref16_of_b1
          show iteO (decide (((k : Nat) : Int) < (((endsN d d.next.length).length : Nat) : Int))) _ _ = _
          rw [iteO_dt (by omega), grd_mk (by simp only [List.length_map, List.length_take, List.length_singleton]; omega)]
          rw [List.take_add_one, getD_some _ hk 0, Option.toList_some, List.map_append]; rfl)
        (fun E hI => by
          subst hI
          rw [List.take_length]
          refine ⟨_, ?_, rfl⟩
          show whittleref16_of_b1 (backN d, 0) out c _ (endsN d d.next.length).length = _
          unfold whittleref16_of_b1
          show iteO (decide ((((endsN d d.next.length).length : Nat) : Int) < (((endsN d d.next.length).length : Nat) : Int))) _ _ = _
          rw [iteO_df (by omega)]
          obtain ⟨r, h1, rfl⟩ := iter_up (step := fun q : (List Arc) × Nat => whittleref16_of_b2 (backN d, 0) c ((endsN d d.next.length).map (fun s => (⟨s, out⟩ : Tip))) q.1 q.2) (fun (A : List Arc) k => (A, k)) (backE d d.next.length).length
            (fun k A => A = ((backE d d.next.length).take k).map fun x => ⟨x.frm, x.to, x.set, [], c⟩) (fun r => r = (mkF d out c, 0))
            (fun k A hk hI => by
              subst hI
              refine .inl ⟨_, ?_, rfl⟩
              show whittleref16_of_b2 (backN d, 0) c _ _ k = _
              unfold whittleref16_of_b2
              show iteO (decide (((k : Nat) : Int) < (((backE d d.next.length).length : Nat) : Int))) _ _ = _
              rw [iteO_dt (by omega), grd_mk (by simp only [List.length_map, List.length_take, List.length_singleton]; omega)]
              rw [List.take_add_one, getD_some _ hk Arrow.zero, Option.toList_some, List.map_append]; rfl)
            (fun A hI => by
              subst hI
              rw [List.take_length]
              refine ⟨_, ?_, rfl⟩
              show whittleref16_of_b2 (backN d, 0) c _ _ (backE d d.next.length).length = _
              unfold whittleref16_of_b2
              show iteO (decide ((((backE d d.next.length).length : Nat) : Int) < (((backE d d.next.length).length : Nat) : Int))) _ _ = _
              rw [iteO_df (by omega)]
              show fin (bnd (whittleref16_end (mkF d out c)) _) = _
              rw [end16_eq _ (mkF_ok hn h1n (by omega)), bnd_mk]; rfl) (s0 := []) (by simp)
          show fin (iter _ _) = _
          rw [h1]; rfl) (s0 := []) (by simp)
      exact h1
  · simp only [Bool.not_eq_true] at h
    rw [h, if_neg (by simp)]; rfl
theorem rsame16_eq {d : Dfa} (hn : d.next.length ≤ 100) : whittleref16_Same d = some (if rightD d = true then (mkF d [] true, 0) else (⟨0, [], [], []⟩, 1)) := by
  unfold whittleref16_Same
  rw [of16_eq hn [] true (by simp), bnd_mk]
  by_cases h : rightD d = true
  · rw [if_pos h, if_pos h]; rfl
  · rw [if_neg h, if_neg h]
theorem rcross16_eq {d : Dfa} (hn : d.next.length ≤ 100) (out : List UInt8) (ho : out.length ≤ 281474976710656) : whittleref16_Cross d out = some (if rightD d = true then (if 1024 < out.length then (⟨0, [], [], []⟩, 2) else (mkF d out false, 0)) else (⟨0, [], [], []⟩, 1)) := by
  unfold whittleref16_Cross
  rw [grd_mk ho, of16_eq hn out false ho, bnd_mk]
end Go.Proofs.YtcfjjckencjjeaaGreatDoor
end

/- Few11 -/
section
/- Automatons of few states. Plain lemmas, no condition. -/
set_option linter.unusedVariables false
set_option linter.unusedSimpArgs false
namespace Go.Proofs.YtcfjjckencjjeaaGreatDoor
open Go Go.E
set_option maxRecDepth 100000
theorem few11_ok (d : Dfa) : ∃ b, whittleref11_Few d = some b ∧ (b = true → d.next.length ≤ 40) := by
  unfold whittleref11_Few
  obtain ⟨r, h1, h2⟩ := iter_up (step := fun q : Nat => whittleref11_Few_b1 d q) (fun (_ : Unit) k => k) d.next.length (fun _ _ => True) (fun r => r = true → d.next.length ≤ 40)
    (fun k s hk _ => by
      simp only [whittleref11_Few_b1, whittleref11_Few_j1]
      rw [iteO_dt (by omega)]
      by_cases c : d.next.length ≤ 40
      · rw [iteO_dt (by omega)]
        by_cases c2 : 20 < (nth d.next k ([] : List Int)).length
        · rw [iteO_dt (by omega)]; right; exact ⟨_, rfl, fun _ => c⟩
        · rw [iteO_df (by omega)]; left; exact ⟨(), rfl, trivial⟩
      · rw [iteO_df (by omega), iteO_df (by omega)]; right; exact ⟨_, rfl, fun h => by cases h⟩)
    (fun s _ => by
      simp only [whittleref11_Few_b1, whittleref11_Few_j1]
      rw [iteO_df (by omega)]
      by_cases c : d.next.length ≤ 40
      · rw [iteO_dt (by omega)]; exact ⟨_, rfl, fun _ => c⟩
      · rw [iteO_df (by omega)]; exact ⟨_, rfl, fun h => by cases h⟩) (s0 := ()) trivial
  exact ⟨r, h1, h2⟩
end Go.Proofs.YtcfjjckencjjeaaGreatDoor
end

/- Chk -/
section
/- What makes an automaton right. Plain lemmas, no condition. -/
set_option linter.unusedVariables false
set_option linter.unusedSimpArgs false
namespace Go.Proofs.YtcfjjckencjjeaaGreatDoor
open Go Go.E
set_option maxRecDepth 100000

end Go.Proofs.YtcfjjckencjjeaaGreatDoor
end

/- FstR -/
section
/- In, and Sort, of a transducer; what the laws look at. Plain lemmas, no condition. -/
set_option linter.unusedVariables false
set_option linter.unusedSimpArgs false
namespace Go.Proofs.YtcfjjckencjjeaaGreatDoor
open Go Go.E
set_option maxRecDepth 100000

/-! ### In order -/
/-- The same things, be it in another order and more often. -/
structure Alike (s t : Fst) : Prop where
  states : s.states = t.states
  starts : ∀ x, x ∈ s.starts ↔ x ∈ t.starts
  ends : ∀ x, x ∈ s.ends ↔ x ∈ t.ends
  arcs : ∀ x, x ∈ s.arcs ↔ x ∈ t.arcs
/-- More arcs and tips. -/
structure Within (s t : Fst) : Prop where
  starts : ∀ x ∈ s.starts, x ∈ t.starts
  ends : ∀ x ∈ s.ends, x ∈ t.ends
  arcs : ∀ x ∈ s.arcs, x ∈ t.arcs
/-! ### What the laws look at -/
theorem same_run {α R : Type} {step : Nat → Option (Nat ⊕ R)} {y : R} (n : Nat) (hs : ∀ k, k < n → step k = some (.inl (k + 1))) (hd : step n = some (.inr y)) : iter step 0 = some y := iter_seq0 (fun k => k) n hs hd
theorem texts_refl (l : List (List UInt8)) : whittleref03_Texts l l = some true := by
  unfold whittleref03_Texts
  rw [decide_eq_false (by simp), iteO_false]
  refine same_run (α := Unit) l.length (fun k hk => ?_) ?_
  · simp only [whittleref03_Texts_b1, lt_dec hk, iteO_true, grd_mk hk, ne_eq, not_true_eq_false, decide_false, iteO_false]; rfl
  · simp only [whittleref03_Texts_b1, Int.lt_irrefl, decide_false, iteO_false]; rfl
theorem sameTips_refl (l : List Tip) : whittleref15_SameTips l l = some true := by
  unfold whittleref15_SameTips
  rw [decide_eq_false (by simp), iteO_false]
  refine same_run (α := Unit) l.length (fun k hk => ?_) ?_
  · simp only [whittleref15_SameTips_b1, lt_dec hk, iteO_true, grd_mk hk, not_true_eq_false, decide_false, iteO_false]; rfl
  · simp only [whittleref15_SameTips_b1, Int.lt_irrefl, decide_false, iteO_false]; rfl
theorem same_refl (t : Fst) : whittleref15_Same t t = some true := by
  unfold whittleref15_Same
  simp only [ne_eq, not_true_eq_false, decide_false, iteO_false, sameTips_refl, bnd, Option.bind_some, Bool.not_true]
  refine same_run (α := Unit) t.arcs.length (fun k hk => ?_) ?_
  · simp only [whittleref15_Same_b1, lt_dec hk, iteO_true, grd_mk hk, not_true_eq_false, decide_false, iteO_false]; rfl
  · simp only [whittleref15_Same_b1, Int.lt_irrefl, decide_false, iteO_false]; rfl
/-! ### What goes in -/
end Go.Proofs.YtcfjjckencjjeaaGreatDoor
end

/- MkT -/
section
/- What an automaton as a transducer relates. Plain lemmas, no condition. -/
set_option linter.unusedVariables false
set_option linter.unusedSimpArgs false
namespace Go.Proofs.YtcfjjckencjjeaaGreatDoor
open Go Go.E
set_option maxRecDepth 100000

end Go.Proofs.YtcfjjckencjjeaaGreatDoor
end
