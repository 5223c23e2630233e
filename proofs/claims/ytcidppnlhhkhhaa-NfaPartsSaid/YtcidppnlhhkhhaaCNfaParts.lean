/- NfaParts: for every input the law returns true, and each argument reads afterwards as it read before. No condition of ours. -/
import Derived.Test.YtcidppnlhhkhhaaRows
import Derived.Test.YtcidppnlhhkhhaaN4p
import Derived.Test.YtcidppnlhhkhhaaOpen
import Derived.WalkKit
import Derived.ProofKit
import Derived.OpenShut
import Derived.ShutString
import Derived.ChangeOld
import Derived.SizedLaws
import Derived.Below
set_option linter.unusedVariables false
set_option linter.unusedSimpArgs false
namespace Go.Proofs.Ytcidppnlhhkhhaa
open Go Go.E Go.ChangeShapes Go.WideShapes Go.ChangeAt Go.RowKit
set_option linter.unusedVariables false
theorem nfaParts_own : ownKnob Try.prog.godebug = none := by kernel_rfl
theorem nfaParts_laidOut : laidOutB Try.prog = true := by kernel_rfl
theorem nfaParts_cells3 : Try.prog.cellsOf 3 = 1 := by kernel_rfl
theorem nfaParts_cells22 : Try.prog.cellsOf 22 = 1 := by kernel_rfl
theorem nfaParts_cells23 : Try.prog.cellsOf 23 = 1 := by kernel_rfl
theorem nfaParts_cells25 : Try.prog.cellsOf 25 = 4 := by kernel_rfl
theorem nfaParts_cells26 : Try.prog.cellsOf 26 = 1 := by kernel_rfl
theorem nfaParts_cells28 : Try.prog.cellsOf 28 = 4 := by kernel_rfl
theorem nfaParts_cells80 : Try.prog.cellsOf 80 = 6 := by kernel_rfl
theorem nfaParts_bytes3 : Try.prog.bytesOf 3 = 8 := by kernel_rfl
theorem nfaParts_bytes80 : Try.prog.bytesOf 80 = 48 := by kernel_rfl
theorem nfaParts_opn3 {w : World} : Opn Try.prog w 3 (fun cs (x : Int) => cs = [.int .i64 x]) := Opn.mono (Opn.int Try.underlying3) id fun cs x h => h.1
theorem nfaParts_opn22 {w : World} : Opn Try.prog w 22 (fun cs (x : List Int) => ∃ (a0 : Option Addr) (c0 : Nat), cs = [.slice a0 x.length c0] ∧ RS (heapS w) 1 encI (.slice a0 x.length c0) x) := Opn.slice Try.underlying22 nfaParts_opn3 nfaParts_cells3 (by rw [nfaParts_bytes3]; decide) encI_len encI_one
theorem nfaParts_opn28 {w : World} : Opn Try.prog w 28 (fun cs (x : BSet) => cs = (setA x).toList) := Opn.set Try.underlying28 Try.underlying26 nfaParts_cells28 nfaParts_cells26
theorem nfaParts_opn80 {w : World} : Opn Try.prog w 80 (fun cs (x : Arrow) => cs = encE x) := by
  intro H enc held fuel cs d ps ht hs
  obtain ⟨hl, hp⟩ := open_struct Try.underlying80 ht hs
  rw [nfaParts_cells80] at hl
  obtain ⟨x0, h0⟩ := hp 0 _ rfl nfaParts_opn3
  replace h0 : (cs.drop 0).take (Try.prog.cellsOf 3) = [.int .i64 x0] := h0
  rw [nfaParts_cells3] at h0
  obtain ⟨x1, h1⟩ := hp 1 _ rfl nfaParts_opn3
  replace h1 : (cs.drop 1).take (Try.prog.cellsOf 3) = [.int .i64 x1] := h1
  rw [nfaParts_cells3] at h1
  obtain ⟨x2, h2⟩ := hp 2 _ rfl nfaParts_opn28
  replace h2 : (cs.drop 2).take (Try.prog.cellsOf 28) = (setA x2).toList := h2
  rw [nfaParts_cells28] at h2
  have e : cs = ((cs.drop 0).take 1 ++ ((cs.drop 1).take 1 ++ ((cs.drop 2).take 4 ++ cs.drop 6))) := by
    rw [split_at cs 2 4]; rw [split_at cs 1 1]; rw [split_at cs 0 1]; rfl
  rw [h0, h1, h2, List.drop_of_length_le (by omega)] at e
  exact ⟨⟨x0, x1, x2⟩, e⟩
theorem nfaParts_opn23 {w : World} : Opn Try.prog w 23 (fun cs (x : List Arrow) => ∃ (a0 : Option Addr) (c0 : Nat), cs = [.slice a0 x.length c0] ∧ RS (heapS w) 6 encE (.slice a0 x.length c0) x) := Opn.slice Try.underlying23 nfaParts_opn80 nfaParts_cells80 (by rw [nfaParts_bytes80]; decide) encE_len encE_one
theorem nfaParts_opn25 {w : World} : Opn Try.prog w 25 (fun cs (x : Nfa) => ∃ (a0 : Option Addr) (c0 : Nat), ∃ (a1 : Option Addr) (c1 : Nat), ∃ (a2 : Option Addr) (c2 : Nat), cs = [.int .i64 x.states, .slice a0 x.starts.length c0, .slice a1 x.ends.length c1, .slice a2 x.edges.length c2] ∧ RS (heapS w) 1 encI (.slice a0 x.starts.length c0) x.starts ∧ RS (heapS w) 1 encI (.slice a1 x.ends.length c1) x.ends ∧ RS (heapS w) 6 encE (.slice a2 x.edges.length c2) x.edges) := by
  intro H enc held fuel cs d ps ht hs
  obtain ⟨hl, hp⟩ := open_struct Try.underlying25 ht hs
  rw [nfaParts_cells25] at hl
  obtain ⟨x0, h0⟩ := hp 0 _ rfl nfaParts_opn3
  replace h0 : (cs.drop 0).take (Try.prog.cellsOf 3) = [.int .i64 x0] := h0
  rw [nfaParts_cells3] at h0
  obtain ⟨x1, a1_a0, c1_c0, h1, f1_a0⟩ := hp 1 _ rfl nfaParts_opn22
  replace h1 : (cs.drop 1).take (Try.prog.cellsOf 22) = [.slice a1_a0 x1.length c1_c0] := h1
  rw [nfaParts_cells22] at h1
  obtain ⟨x2, a2_a0, c2_c0, h2, f2_a0⟩ := hp 2 _ rfl nfaParts_opn22
  replace h2 : (cs.drop 2).take (Try.prog.cellsOf 22) = [.slice a2_a0 x2.length c2_c0] := h2
  rw [nfaParts_cells22] at h2
  obtain ⟨x3, a3_a0, c3_c0, h3, f3_a0⟩ := hp 3 _ rfl nfaParts_opn23
  replace h3 : (cs.drop 3).take (Try.prog.cellsOf 23) = [.slice a3_a0 x3.length c3_c0] := h3
  rw [nfaParts_cells23] at h3
  have e : cs = ((cs.drop 0).take 1 ++ ((cs.drop 1).take 1 ++ ((cs.drop 2).take 1 ++ ((cs.drop 3).take 1 ++ cs.drop 4)))) := by
    rw [split_at cs 3 1]; rw [split_at cs 2 1]; rw [split_at cs 1 1]; rw [split_at cs 0 1]; rfl
  rw [h0, h1, h2, h3, List.drop_of_length_le (by omega)] at e
  exact ⟨⟨x0, x1, x2, x3⟩, a1_a0, c1_c0, a2_a0, c2_c0, a3_a0, c3_c0, e, f1_a0, f2_a0, f3_a0⟩
theorem nfaParts_opn9 {w : World} : Opn Try.prog w 9 (fun cs (x : List UInt8) => cs = [.string (bs x)]) := Opn.mono (Opn.str Try.underlying9) id fun cs x h => h.1
set_option maxRecDepth 100000 in
theorem nfaParts_lifted (os : Os) (started : os.Started) (H : Type) (enc : TypeId × Value → H) :
    ReturnsInHanded {} Try.checked os 5 .any (Rows.nfaPartsSpec.pre6 enc Try.prog Try.f5 Rows.nfaPartsRow.domain false) (Rows.nfaPartsSpec.post enc Try.prog Try.f5 false true false false) := by
  refine returnsInHanded_of_change_sized (C := Try.checked) nfaParts_own started (by kernel_rfl) Try.func5
    (ChangeSpec.witness6 (enc := enc) (C := Try.checked) false ⟨#[], #[.agg #[.int .i64 0, .slice none 0 0, .slice none 0 0, .slice none 0 0], .agg #[.int .i64 0, .slice none 0 0, .slice none 0 0, .slice none 0 0], .string ⟨#[]⟩, .agg #[.int .u64 0, .int .u64 0, .int .u64 0, .int .u64 0], .string ⟨#[]⟩], []⟩ 8 (by kernel_rfl) (by kernel_rfl) (by kernel_rfl) (by kernel_rfl)) ?_
  intro W base args ds gs before hval0 hW hcnd hsz0 _
  have hsz1 : (DataW.weightsEach Try.prog (Try.f5.params.toList ++ Rows.nfaPartsSpec.plain.varTypes Try.prog) (ds ++ gs)).all (· ≤ reachBytes) = true := hsz0
  have hval : ∀ (j : Nat) t v, Try.f5.params[j]? = some t → args[j]? = some v → Value.okWide Try.prog W .any base t v := hval0
  have hW' := hW
  obtain ⟨p, q, hA0, hV, rfl, hfz, hnd⟩ := hW
  have hA : DataW.TrodAll enc Try.prog W 0 (fun _ => true) true Try.f5.params.toList args.toList ds p := hA0
  rw [Try.params5] at hA hval hsz1
  have hsm := small_of hsz1
  obtain ⟨v0, vs0, d0, ds0, p0, q0, hargs, rfl, rfl, h0, r0⟩ := trodAll_cons hA
  obtain ⟨v1, vs1, d1, ds1, p1, q1, rfl, rfl, rfl, h1, r1⟩ := trodAll_cons r0
  obtain ⟨v2, vs2, d2, ds2, p2, q2, rfl, rfl, rfl, h2, r2⟩ := trodAll_cons r1
  obtain ⟨v3, vs3, d3, ds3, p3, q3, rfl, rfl, rfl, h3, r3⟩ := trodAll_cons r2
  obtain ⟨v4, vs4, d4, ds4, p4, q4, rfl, rfl, rfl, h4, r4⟩ := trodAll_cons r3
  obtain ⟨rfl, rfl, rfl⟩ := trodAll_nil r4
  obtain rfl : args = #[v0, v1, v2, v3, v4] := by cases args; simp_all
  obtain ⟨rfl, rfl⟩ := trodVars_none hV
  clear hA0 hval0 hsz0 hsz1
  have s0 := weights_at (P := Try.prog) (i := 0) rfl rfl hsm
  have k0 := h0
  have lt0 : ∀ x ∈ p0, x.block < W.heap.size := by obtain ⟨m, hm⟩ := k0; exact DataW.trod_lt m _ _ _ hm
  obtain ⟨n0, rfl⟩ := okWide_agg Try.underlying25 (.inl ⟨_, rfl⟩) (hval 0 25 v0 rfl rfl)
  obtain ⟨x0, a0_0, c0_0, a0_1, c0_1, a0_2, c0_2, e0, f0_0, f0_1, f0_2⟩ := nfaParts_opn25.arg h0 s0
  replace e0 := agg_of e0
  have g0 : ∀ W', Below W.heap.size W W' → DataW.Trod enc Try.prog W' 0 (fun b => decide (b < W.heap.size)) true 25 _ d0 p0 := fun W' bel => Below.trod nfaParts_laidOut (by kernel_rfl) (of_decide_eq_true (by kernel_rfl)) k0 bel lt0
  have s1 := weights_at (P := Try.prog) (i := 1) rfl rfl hsm
  have k1 := h1
  have lt1 : ∀ x ∈ p1, x.block < W.heap.size := by obtain ⟨m, hm⟩ := k1; exact DataW.trod_lt m _ _ _ hm
  obtain ⟨n1, rfl⟩ := okWide_agg Try.underlying25 (.inl ⟨_, rfl⟩) (hval 1 25 v1 rfl rfl)
  obtain ⟨x1, a1_0, c1_0, a1_1, c1_1, a1_2, c1_2, e1, f1_0, f1_1, f1_2⟩ := nfaParts_opn25.arg h1 s1
  replace e1 := agg_of e1
  have g1 : ∀ W', Below W.heap.size W W' → DataW.Trod enc Try.prog W' 0 (fun b => decide (b < W.heap.size)) true 25 _ d1 p1 := fun W' bel => Below.trod nfaParts_laidOut (by kernel_rfl) (of_decide_eq_true (by kernel_rfl)) k1 bel lt1
  have s2 := weights_at (P := Try.prog) (i := 2) rfl rfl hsm
  have k2 := h2
  have lt2 : ∀ x ∈ p2, x.block < W.heap.size := by obtain ⟨m, hm⟩ := k2; exact DataW.trod_lt m _ _ _ hm
  obtain ⟨n2, rfl⟩ := okWide_string Try.underlying9 (hval 2 9 v2 rfl rfl)
  obtain ⟨x2, e2, b2⟩ := Opn.arg (Opn.str Try.underlying9) h2 s2
  simp only [Value.cells] at e2
  replace e2 := List.head_eq_of_cons_eq e2
  have g2 : ∀ W', Below W.heap.size W W' → DataW.Trod enc Try.prog W' 0 (fun b => decide (b < W.heap.size)) true 9 _ d2 p2 := fun W' bel => Below.trod nfaParts_laidOut (by kernel_rfl) (of_decide_eq_true (by kernel_rfl)) k2 bel lt2
  have s3 := weights_at (P := Try.prog) (i := 3) rfl rfl hsm
  have k3 := h3
  have lt3 : ∀ x ∈ p3, x.block < W.heap.size := by obtain ⟨m, hm⟩ := k3; exact DataW.trod_lt m _ _ _ hm
  obtain ⟨n3, rfl⟩ := okWide_agg Try.underlying28 (.inr ⟨_, _, rfl⟩) (hval 3 28 v3 rfl rfl)
  obtain ⟨x3, e3⟩ := nfaParts_opn28.arg h3 s3
  replace e3 := agg_of e3
  have g3 : ∀ W', Below W.heap.size W W' → DataW.Trod enc Try.prog W' 0 (fun b => decide (b < W.heap.size)) true 28 _ d3 p3 := fun W' bel => Below.trod nfaParts_laidOut (by kernel_rfl) (of_decide_eq_true (by kernel_rfl)) k3 bel lt3
  have s4 := weights_at (P := Try.prog) (i := 4) rfl rfl hsm
  have k4 := h4
  have lt4 : ∀ x ∈ p4, x.block < W.heap.size := by obtain ⟨m, hm⟩ := k4; exact DataW.trod_lt m _ _ _ hm
  obtain ⟨n4, rfl⟩ := okWide_string Try.underlying9 (hval 4 9 v4 rfl rfl)
  obtain ⟨x4, e4, b4⟩ := Opn.arg (Opn.str Try.underlying9) h4 s4
  simp only [Value.cells] at e4
  replace e4 := List.head_eq_of_cons_eq e4
  have g4 : ∀ W', Below W.heap.size W W' → DataW.Trod enc Try.prog W' 0 (fun b => decide (b < W.heap.size)) true 9 _ d4 p4 := fun W' bel => Below.trod nfaParts_laidOut (by kernel_rfl) (of_decide_eq_true (by kernel_rfl)) k4 bel lt4
  have hcall : Calls Try.prog 5 #[.agg ([.int .i64 x0.states, .slice a0_0 x0.starts.length c0_0, .slice a0_1 x0.ends.length c0_1, .slice a0_2 x0.edges.length c0_2]).toArray, .agg ([.int .i64 x1.states, .slice a1_0 x1.starts.length c1_0, .slice a1_1 x1.ends.length c1_1, .slice a1_2 x1.edges.length c1_2]).toArray, .string (bs x2), .agg ((setA x3).toList).toArray, .string (bs x4)] W fun e w' => e = .returned (.bool true) ∧ Below W.heap.size W w' := Con.below (whittlelaw10_NfaParts_con f0_0 f0_1 f0_2 f1_0 f1_1 f1_2 (nfaParts_eq x0 x1 x2 x3 x4 (Nat.le_trans b2 (by decide)) (Nat.le_trans b4 (by decide))))
  have hcall2 : Calls Try.prog 5 #[(.agg n0), (.agg n1), (.string n2), (.agg n3), (.string n4)] W fun e w' => e = .returned (.bool true) ∧ Below W.heap.size W w' := by
    rw [e0, e1, e2, e3, e4]; exact hcall
  refine hcall2.mono fun e W' ⟨he, bel⟩ => ?_
  subst he
  exact ⟨_, rfl, _, _, _, [], _, [], hW', trodAll_mk1 (shut_bool Try.underlying4 _), (trodAll_cons_mk (g0 W' bel) (trodAll_cons_mk (g1 W' bel) (trodAll_cons_mk (g2 W' bel) (trodAll_cons_mk (g3 W' bel) (trodAll_cons_mk (g4 W' bel) trodAll_mk0))))), rfl, bel.frame _, fun h => by cases h⟩

theorem nfaParts_over : Rows.nfaPartsRow.holds Try.pinned (OpenSpec.ofChange Rows.nfaPartsSpec) :=
  OpenClaim.holds_of_wide 5 Try.f5 rfl rfl rfl rfl rfl rfl rfl ⟨rfl, rfl, rfl, rfl, rfl⟩ rfl rfl rfl rfl rfl (by kernel_rfl) Try.func5 (by kernel_rfl)
    (of_decide_eq_true (by kernel_rfl)) (by unfold Func.isWrapper; first | (rw [if_pos (by decide +kernel)]; kernel_rfl) | (rw [if_neg (by decide +kernel)]; exact ⟨rfl, rfl⟩))
    (fun os started H enc _ => nfaParts_lifted os started H enc)
/-- The statement. -/
theorem nfaParts_holds : Rows.NfaPartsSaid := nfaParts_over
#print axioms nfaParts_holds
end Go.Proofs.Ytcidppnlhhkhhaa
