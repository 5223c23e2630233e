/- TopPrior: for every input the law returns true, and each argument reads afterwards as it read before. No condition of ours. -/
import Derived.Test.YtcfgkcfcddfccaaGreatDoorB147a8df593
import Derived.Test.YtcfgkcfcddfccaaGreatDoorBb70fbe2253
import Derived.Test.YtcfgkcfcddfccaaGreatDoorB334a0c3166
import Derived.Test.YtcfgkcfcddfccaaGreatDoorB0186e8dc91
import Derived.Test.YtcfgkcfcddfccaaGreatDoorB0d7c76ab3f
import Derived.Test.YtcfgkcfcddfccaaGreatDoorBf1752241b5
import Derived.Test.YtcfgkcfcddfccaaGreatDoorRows
import Derived.WalkKit
import Derived.ProofKit
import Derived.OpenShut
import Derived.ShutString
import Derived.ChangeOld
import Derived.SizedLaws
import Derived.Below
import Derived.Test.YtcfgkcfcddfccaaGreatDoorTie
import Derived.Test.YtcfgkcfcddfccaaGreatDoorCards
import Derived.LaidMore
import Derived.SevenTiedAt
import Derived.Stop.Joined

set_option linter.unusedVariables false
set_option linter.unusedSimpArgs false
set_option linter.unusedSectionVars false
set_option maxRecDepth 100000
set_option maxHeartbeats 8000000

section
/- TopPrior: for every input the law returns true, and each argument reads afterwards as it read before. No condition of ours. -/
namespace Go.Proofs.YtcfgkcfcddfccaaGreatDoor
open Go Go.E Go.ChangeShapes Go.WideShapes Go.ChangeAt Go.RowKit
theorem sq_ : ownKnob Tryz.prog.godebug = none := by kernel_rfl
theorem jb_ : laidOutB Tryz.prog = true := by kernel_rfl
def hb_ : List (String × DataW Unit) := [("math/bits.deBruijn32tab", Rows.laid_math_bits_deBruijn32tab), ("math/bits.deBruijn64tab", Rows.laid_math_bits_deBruijn64tab), ("internal/strconv.uint64pow10", Rows.laid_internal_strconv_uint64pow10)]
theorem q5_ (os : Os) (args : Array Value) : laidMetH Tryz.prog hb_ ((World.doorLaid Tryz.prog 400 os).forCall (λ_ _ => 0) ⟨#[], args, []⟩).memory :=
  laidMetH_of_parts3 (fuel := 8) (laidMet_of_run' 8 (by kernel_rfl) (by kernel_rfl)) (by kernel_rfl) (by kernel_rfl)
theorem g6_ : Tryz.prog.cellsOf 3 = 1 := by kernel_rfl
theorem nm_ : Tryz.prog.cellsOf 4 = 1 := by kernel_rfl
theorem jr_ : Tryz.prog.cellsOf 9 = 1 := by kernel_rfl
theorem ja_ : Tryz.prog.cellsOf 22 = 1 := by kernel_rfl
theorem mw_ : Tryz.prog.cellsOf 23 = 1 := by kernel_rfl
theorem m1_ : Tryz.prog.cellsOf 25 = 4 := by kernel_rfl
theorem my_ : Tryz.prog.cellsOf 45 = 1 := by kernel_rfl
theorem je_ : Tryz.prog.cellsOf 47 = 4 := by kernel_rfl
theorem jc_ : Tryz.prog.cellsOf 49 = 8 := by kernel_rfl
theorem jf_ : Tryz.prog.cellsOf 79 = 2 := by kernel_rfl
theorem m8_ : Tryz.prog.bytesOf 49 = 72 := by kernel_rfl
theorem m7_ : Tryz.prog.bytesOf 79 = 24 := by kernel_rfl
theorem h7_ {w : World} : Opn Tryz.prog w 3 (λcs (x : Int) => cs = [.int .i64 x]) := Opn.mono (Opn.int Tryz.underlying3) id λcs x h => h.1
theorem ln_ {w : World} : Opn Tryz.prog w 9 (λcs (x : List UInt8) => cs = [.string (bs x)]) := Opn.mono (Opn.str Tryz.underlying9) id λcs x h => h.1
theorem pg_ {w : World} : Opn Tryz.prog w 79 (λcs (x : Tip) => cs = bf x) := by
  intro H enc held fuel cs d ps ht hs;obtain ⟨hl, hp⟩ := kp_ Tryz.underlying79 ht hs;rw [jf_] at hl;obtain ⟨x0, h0⟩ := hp 0 _ rfl h7_;replace h0 : (cs.drop 0).take (Tryz.prog.cellsOf 3) = [.int .i64 x0] := h0;rw [g6_] at h0;obtain ⟨x1, h1⟩ := hp 1 _ rfl ln_;replace h1 : (cs.drop 1).take (Tryz.prog.cellsOf 9) = [.string (bs x1)] := h1;rw [jr_] at h1;have e : cs = ((cs.drop 0).take 1 ++ ((cs.drop 1).take 1 ++ cs.drop 2)) := by
    rw [Om cs 1 1]; rw [Om cs 0 1]; rfl
  rw [h0, h1, List.drop_of_length_le (by omega)] at e;exact ⟨⟨x0, x1⟩, e⟩
theorem kd_ {w : World} : Opn Tryz.prog w 22 (λcs (x : List Tip) => ∃ (a0 : Option Addr) (c0 : Nat), cs = [.slice a0 x.length c0] /\ RS (G5 w) 2 bf (.slice a0 x.length c0) x) := Opn.slice Tryz.underlying22 pg_ jf_ (by rw [m7_]; decide) iV j2_
theorem pa_ {w : World} : Opn Tryz.prog w 47 (λcs (x : BSet) => cs = (setA x).toList) := Opn.set Tryz.underlying47 Tryz.underlying45 je_ my_
theorem q8_ {w : World} : Opn Tryz.prog w 4 (λcs (x : Bool) => cs = [.bool x]) := Opn.bool Tryz.underlying4
theorem o3_ {w : World} : Opn Tryz.prog w 49 (λcs (x : Arc) => cs = fP x) := by
  intro H enc held fuel cs d ps ht hs;obtain ⟨hl, hp⟩ := kp_ Tryz.underlying49 ht hs;rw [jc_] at hl;obtain ⟨x0, h0⟩ := hp 0 _ rfl h7_;replace h0 : (cs.drop 0).take (Tryz.prog.cellsOf 3) = [.int .i64 x0] := h0;rw [g6_] at h0;obtain ⟨x1, h1⟩ := hp 1 _ rfl h7_;replace h1 : (cs.drop 1).take (Tryz.prog.cellsOf 3) = [.int .i64 x1] := h1;rw [g6_] at h1;obtain ⟨x2, h2⟩ := hp 2 _ rfl pa_;replace h2 : (cs.drop 2).take (Tryz.prog.cellsOf 47) = (setA x2).toList := h2;rw [je_] at h2;obtain ⟨x3, h3⟩ := hp 3 _ rfl ln_;replace h3 : (cs.drop 6).take (Tryz.prog.cellsOf 9) = [.string (bs x3)] := h3;rw [jr_] at h3;obtain ⟨x4, h4⟩ := hp 4 _ rfl q8_;replace h4 : (cs.drop 7).take (Tryz.prog.cellsOf 4) = [.bool x4] := h4;rw [nm_] at h4;have e : cs = ((cs.drop 0).take 1 ++ ((cs.drop 1).take 1 ++ ((cs.drop 2).take 4 ++ ((cs.drop 6).take 1 ++ ((cs.drop 7).take 1 ++ cs.drop 8))))) := by
    rw [Om cs 7 1]; rw [Om cs 6 1]; rw [Om cs 2 4]; rw [Om cs 1 1]; rw [Om cs 0 1]; rfl
  rw [h0, h1, h2, h3, h4, List.drop_of_length_le (by omega)] at e;exact ⟨⟨x0, x1, x2, x3, x4⟩, e⟩
theorem o7_ {w : World} : Opn Tryz.prog w 23 (λcs (x : List Arc) => ∃ (a0 : Option Addr) (c0 : Nat), cs = [.slice a0 x.length c0] /\ RS (G5 w) 8 fP (.slice a0 x.length c0) x) := Opn.slice Tryz.underlying23 o3_ jc_ (by rw [m8_]; decide) IE l3_
theorem kc_ {w : World} : Opn Tryz.prog w 25 (λcs (x : Fst) => ∃ (a0 : Option Addr) (c0 : Nat), ∃ (a1 : Option Addr) (c1 : Nat), ∃ (a2 : Option Addr) (c2 : Nat), cs = [.int .i64 x.states, .slice a0 x.starts.length c0, .slice a1 x.ends.length c1, .slice a2 x.arcs.length c2] /\ RS (G5 w) 2 bf (.slice a0 x.starts.length c0) x.starts /\ RS (G5 w) 2 bf (.slice a1 x.ends.length c1) x.ends /\ RS (G5 w) 8 fP (.slice a2 x.arcs.length c2) x.arcs) := by
  intro H enc held fuel cs d ps ht hs;obtain ⟨hl, hp⟩ := kp_ Tryz.underlying25 ht hs;rw [m1_] at hl;obtain ⟨x0, h0⟩ := hp 0 _ rfl h7_;replace h0 : (cs.drop 0).take (Tryz.prog.cellsOf 3) = [.int .i64 x0] := h0;rw [g6_] at h0;obtain ⟨x1, a1_a0, c1_c0, h1, f1_a0⟩ := hp 1 _ rfl kd_;replace h1 : (cs.drop 1).take (Tryz.prog.cellsOf 22) = [.slice a1_a0 x1.length c1_c0] := h1;rw [ja_] at h1;obtain ⟨x2, a2_a0, c2_c0, h2, f2_a0⟩ := hp 2 _ rfl kd_;replace h2 : (cs.drop 2).take (Tryz.prog.cellsOf 22) = [.slice a2_a0 x2.length c2_c0] := h2;rw [ja_] at h2;obtain ⟨x3, a3_a0, c3_c0, h3, f3_a0⟩ := hp 3 _ rfl o7_;replace h3 : (cs.drop 3).take (Tryz.prog.cellsOf 23) = [.slice a3_a0 x3.length c3_c0] := h3;rw [mw_] at h3;have e : cs = ((cs.drop 0).take 1 ++ ((cs.drop 1).take 1 ++ ((cs.drop 2).take 1 ++ ((cs.drop 3).take 1 ++ cs.drop 4)))) := by
    rw [Om cs 3 1]; rw [Om cs 2 1]; rw [Om cs 1 1]; rw [Om cs 0 1]; rfl
  rw [h0, h1, h2, h3, List.drop_of_length_le (by omega)] at e;exact ⟨⟨x0, x1, x2, x3⟩, a1_a0, c1_c0, a2_a0, c2_c0, a3_a0, c3_c0, e, f1_a0, f2_a0, f3_a0⟩
set_option maxRecDepth 100000 in
theorem n0_ (os : Os) (started : os.Started) (H : Type) (enc : TypeId × Value -> H) :
    ReturnsInHanded {} Tryz.checked os 3 .any (λw args => (Rows.topPriorSpec.pre enc Tryz.prog Tryz.f3 [] false w args /\ laidMetH Tryz.prog hb_ w) /\ sizedMet enc Tryz.prog Tryz.f3 (OpenSpec.ofChange Rows.topPriorSpec) false w args)
      (Rows.topPriorSpec.post enc Tryz.prog Tryz.f3 false true false false) := by
  refine returnsInHanded_of_change_and (C := Tryz.checked) (X := λw _ => laidMetH Tryz.prog hb_ w) (λ_ _ _ hh h => h.of_heap hh) sq_ started (by kernel_rfl) Tryz.func3
    (ChangeSpec.witness_shaped (enc := enc) (C := Tryz.checked) (os := os) (X := λw _ => laidMetH Tryz.prog hb_ w) false (World.doorLaid Tryz.prog 400 os) #[.agg #[.int .i64 0, .slice none 0 0, .slice none 0 0, .slice none 0 0], .agg #[.int .i64 0, .slice none 0 0, .slice none 0 0, .slice none 0 0]] 8 rfl (World.shaped_of_RefB (by kernel_rfl) (by kernel_rfl)) (by kernel_rfl) (by kernel_rfl) (by kernel_rfl) (q5_ os _)) ?_
  intro W base args ds gs before hval0 hW _ hsz0 hL _;have hgl := aap_ (P := Tryz.prog) (laid := hb_) (g1 := 0) (g2 := 2) (T1 := 250) (T2 := 305) (by exact hL) (by kernel_rfl) (List.mem_cons_of_mem _ (List.mem_cons_self ..)) (List.mem_cons_of_mem _ (List.mem_cons_of_mem _ (List.mem_cons_self ..))) (by kernel_rfl) (by kernel_rfl) (by kernel_rfl) (by kernel_rfl) (by exact Tryz.underlying250) Tryz.underlying5 (by kernel_rfl) (by kernel_rfl) (by kernel_rfl) (by kernel_rfl) (by exact Tryz.underlying305) Tryz.underlying45 (by kernel_rfl) (by kernel_rfl);have hsz1 : (DataW.weightsEach Tryz.prog (Tryz.f3.params.toList ++ Rows.topPriorSpec.plain.varTypes Tryz.prog) (ds ++ gs)).all (· <= reachBytes) = true := hsz0;have hval : ∀ (j : Nat) t v, Tryz.f3.params[j]? = some t -> args[j]? = some v -> Value.okWide Tryz.prog W .any base t v := hval0;have hW' := hW;obtain ⟨p, q, hA0, hV, rfl, hfz, hnd⟩ := hW;have hA : DataW.TrodAll enc Tryz.prog W 0 (λ_ => true) true Tryz.f3.params.toList args.toList ds p := hA0;rw [Tryz.params3] at hA hval hsz1;have hsm := small_of hsz1;obtain ⟨v0, vs0, d0, ds0, p0, q0, hargs, rfl, rfl, h0, r0⟩ := trodAll_cons hA;obtain ⟨v1, vs1, d1, ds1, p1, q1, rfl, rfl, rfl, h1, r1⟩ := trodAll_cons r0;obtain ⟨rfl, rfl, rfl⟩ := trodAll_nil r1;obtain rfl : args = #[v0, v1] := by cases args; simp_all
  obtain ⟨rfl, rfl⟩ := trodVars_none hV;clear hA0 hval0 hsz0 hsz1;have s0 := ly_ (P := Tryz.prog) (i := 0) rfl rfl hsm;have k0 := h0;have lt0 : ∀ x ∈ p0, x.block < W.heap.size := by obtain ⟨m, hm⟩ := k0; exact DataW.trod_lt m _ _ _ hm
  obtain ⟨n0, rfl⟩ := qh_ Tryz.underlying25 (.inl ⟨_, rfl⟩) (hval 0 25 v0 rfl rfl);obtain ⟨x0, aB, aA, ay, aH, aG, au, e0, aC, aV, aS⟩ := kc_.arg h0 s0;replace e0 := agg_of e0;have g0 : ∀ W', Below W.heap.size W W' -> DataW.Trod enc Tryz.prog W' 0 (λb => decide (b < W.heap.size)) true 25 _ d0 p0 := λW' bel => Below.trod jb_ (by kernel_rfl) (of_decide_eq_true (by kernel_rfl)) k0 bel lt0;have s1 := ly_ (P := Tryz.prog) (i := 1) rfl rfl hsm;have k1 := h1;have lt1 : ∀ x ∈ p1, x.block < W.heap.size := by obtain ⟨m, hm⟩ := k1; exact DataW.trod_lt m _ _ _ hm
  obtain ⟨n1, rfl⟩ := qh_ Tryz.underlying25 (.inl ⟨_, rfl⟩) (hval 1 25 v1 rfl rfl);obtain ⟨x1, bY, bW, dV, iR, iI, dU, e1, bn, gu, fF⟩ := kc_.arg h1 s1;replace e1 := agg_of e1;have g1 : ∀ W', Below W.heap.size W W' -> DataW.Trod enc Tryz.prog W' 0 (λb => decide (b < W.heap.size)) true 25 _ d1 p1 := λW' bel => Below.trod jb_ (by kernel_rfl) (of_decide_eq_true (by kernel_rfl)) k1 bel lt1;have hcall : Calls Tryz.prog 3 #[.agg ([.int .i64 x0.states, .slice aB x0.starts.length aA, .slice ay x0.ends.length aH, .slice aG x0.arcs.length au]).toArray, .agg ([.int .i64 x1.states, .slice bY x1.starts.length bW, .slice dV x1.ends.length iR, .slice iI x1.arcs.length dU]).toArray] W λe w' => e = .returned (.bool true) /\ Below W.heap.size W w' := Con.below (i2_ hgl aC aV aS bn gu fF (t6_ x0 x1));have hcall2 : Calls Tryz.prog 3 #[(.agg n0), (.agg n1)] W λe w' => e = .returned (.bool true) /\ Below W.heap.size W w' := by
    rw [e0, e1]; exact hcall
  refine hcall2.mono λe W' ⟨he, bel⟩ => ?_;subst he;exact ⟨_, rfl, _, _, _, [], _, [], hW', trodAll_mk1 (shut_bool Tryz.underlying4 _), (trodAll_cons_mk (g0 W' bel) (trodAll_cons_mk (g1 W' bel) trodAll_mk0)), rfl, bel.frame _, λh => by cases h⟩
theorem qy_ : Rows.topPriorRow.holds Tryz.pinned (OpenSpec.ofChange Rows.topPriorSpec) :=
  OpenClaim.holds_of_wide 3 Tryz.f3 rfl rfl rfl rfl rfl rfl rfl ⟨rfl, rfl, rfl, rfl, rfl⟩ rfl rfl rfl rfl rfl (by kernel_rfl) Tryz.func3 (by kernel_rfl)
    (of_decide_eq_true (by kernel_rfl)) (by unfold Func.isWrapper; first | (rw [if_pos (by decide +kernel)]; kernel_rfl) | (rw [if_neg (by decide +kernel)]; exact ⟨rfl, rfl⟩))
    (λos started H enc _ => n0_ os started H enc)
theorem topPrior_row : Rows.TopPriorSaid := qy_
#print axioms topPrior_row
theorem o9_ : ∀ (j : Nat) (t : TypeId), Tryz.f3.params[j]? = some t -> Tryz.prog.wantsStandIn t = false := λj t ht => by
  rw [Tryz.params3] at ht;have hm : t ∈ [25, 25] := by simpa using Array.mem_of_getElem? ht
  have hall : ([25, 25].all λu => !Tryz.prog.wantsStandIn u) = true := by kernel_rfl
  exact (show Tryz.prog.wantsStandIn t = false by simpa using List.all_eq_true.1 hall t hm)
theorem topPrior_holds : Rows.TopPriorCardSaid :=
  Claim7.holds_tied_plain_at .later [] [.data, .data, .data] true (true, "203e91206f730703b7304db2935846b5758c551f02691fd2864666a1946375d0") true
    topPrior_row (λ_ h => by cases h) (by kernel_rfl) (λ_ h => by cases h) topPrior_row_tie rfl ⟨rfl, rfl⟩ (by kernel_rfl) rfl
    (λf fn hf hfn => by
      obtain rfl : f = 3 := Option.some.inj ((show Tryz.prog.funcNamed "whittle/whittletop.TopPrior" = some 3 by kernel_rfl).symm.trans hf) |>.symm
      obtain rfl : fn = Tryz.f3 := (Option.some.inj (Tryz.func3.symm.trans hfn)).symm;exact ⟨by kernel_rfl, o9_⟩)
    (by kernel_rfl)
#print axioms topPrior_holds
end Go.Proofs.YtcfgkcfcddfccaaGreatDoor
end
