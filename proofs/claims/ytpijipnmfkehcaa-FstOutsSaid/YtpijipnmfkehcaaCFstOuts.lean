/- FstOuts: for every input the law returns true, and each argument reads afterwards as it read before. No condition of ours. -/
import Derived.Test.YtpijipnmfkehcaaRows
import Derived.Test.YtpijipnmfkehcaaFstO
import Derived.Test.YtpijipnmfkehcaaOpen
import Derived.WalkKit
import Derived.ProofKit
import Derived.OpenShut
import Derived.ShutString
import Derived.ChangeOld
import Derived.SizedLaws
import Derived.Below
set_option linter.unusedVariables false
set_option linter.unusedSimpArgs false
namespace Go.Proofs.Ytpijipnmfkehcaa
open Go Go.E Go.ChangeShapes Go.WideShapes Go.ChangeAt Go.RowKit
set_option linter.unusedVariables false
theorem fstOuts_own : ownKnob Try.prog.godebug = none := by kernel_rfl
theorem fstOuts_laidOut : laidOutB Try.prog = true := by kernel_rfl
theorem fstOuts_cells3 : Try.prog.cellsOf 3 = 1 := by kernel_rfl
theorem fstOuts_cells4 : Try.prog.cellsOf 4 = 1 := by kernel_rfl
theorem fstOuts_cells9 : Try.prog.cellsOf 9 = 1 := by kernel_rfl
theorem fstOuts_cells22 : Try.prog.cellsOf 22 = 1 := by kernel_rfl
theorem fstOuts_cells23 : Try.prog.cellsOf 23 = 1 := by kernel_rfl
theorem fstOuts_cells25 : Try.prog.cellsOf 25 = 4 := by kernel_rfl
theorem fstOuts_cells37 : Try.prog.cellsOf 37 = 1 := by kernel_rfl
theorem fstOuts_cells39 : Try.prog.cellsOf 39 = 4 := by kernel_rfl
theorem fstOuts_cells41 : Try.prog.cellsOf 41 = 8 := by kernel_rfl
theorem fstOuts_cells57 : Try.prog.cellsOf 57 = 2 := by kernel_rfl
theorem fstOuts_bytes41 : Try.prog.bytesOf 41 = 72 := by kernel_rfl
theorem fstOuts_bytes57 : Try.prog.bytesOf 57 = 24 := by kernel_rfl
theorem fstOuts_opn3 {w : World} : Opn Try.prog w 3 (fun cs (x : Int) => cs = [.int .i64 x]) := Opn.mono (Opn.int Try.underlying3) id fun cs x h => h.1
theorem fstOuts_opn9 {w : World} : Opn Try.prog w 9 (fun cs (x : List UInt8) => cs = [.string (bs x)]) := Opn.mono (Opn.str Try.underlying9) id fun cs x h => h.1
theorem fstOuts_opn57 {w : World} : Opn Try.prog w 57 (fun cs (x : Tip) => cs = encTip x) := by
  intro H enc held fuel cs d ps ht hs
  obtain ⟨hl, hp⟩ := open_struct Try.underlying57 ht hs
  rw [fstOuts_cells57] at hl
  obtain ⟨x0, h0⟩ := hp 0 _ rfl fstOuts_opn3
  replace h0 : (cs.drop 0).take (Try.prog.cellsOf 3) = [.int .i64 x0] := h0
  rw [fstOuts_cells3] at h0
  obtain ⟨x1, h1⟩ := hp 1 _ rfl fstOuts_opn9
  replace h1 : (cs.drop 1).take (Try.prog.cellsOf 9) = [.string (bs x1)] := h1
  rw [fstOuts_cells9] at h1
  have e : cs = ((cs.drop 0).take 1 ++ ((cs.drop 1).take 1 ++ cs.drop 2)) := by
    rw [split_at cs 1 1]; rw [split_at cs 0 1]; rfl
  rw [h0, h1, List.drop_of_length_le (by omega)] at e
  exact ⟨⟨x0, x1⟩, e⟩
theorem fstOuts_opn22 {w : World} : Opn Try.prog w 22 (fun cs (x : List Tip) => ∃ (a0 : Option Addr) (c0 : Nat), cs = [.slice a0 x.length c0] ∧ RS (heapS w) 2 encTip (.slice a0 x.length c0) x) := Opn.slice Try.underlying22 fstOuts_opn57 fstOuts_cells57 (by rw [fstOuts_bytes57]; decide) encTip_len encTip_one
theorem fstOuts_opn39 {w : World} : Opn Try.prog w 39 (fun cs (x : BSet) => cs = (setA x).toList) := Opn.set Try.underlying39 Try.underlying37 fstOuts_cells39 fstOuts_cells37
theorem fstOuts_opn4 {w : World} : Opn Try.prog w 4 (fun cs (x : Bool) => cs = [.bool x]) := Opn.bool Try.underlying4
theorem fstOuts_opn41 {w : World} : Opn Try.prog w 41 (fun cs (x : Arc) => cs = encArc x) := by
  intro H enc held fuel cs d ps ht hs
  obtain ⟨hl, hp⟩ := open_struct Try.underlying41 ht hs
  rw [fstOuts_cells41] at hl
  obtain ⟨x0, h0⟩ := hp 0 _ rfl fstOuts_opn3
  replace h0 : (cs.drop 0).take (Try.prog.cellsOf 3) = [.int .i64 x0] := h0
  rw [fstOuts_cells3] at h0
  obtain ⟨x1, h1⟩ := hp 1 _ rfl fstOuts_opn3
  replace h1 : (cs.drop 1).take (Try.prog.cellsOf 3) = [.int .i64 x1] := h1
  rw [fstOuts_cells3] at h1
  obtain ⟨x2, h2⟩ := hp 2 _ rfl fstOuts_opn39
  replace h2 : (cs.drop 2).take (Try.prog.cellsOf 39) = (setA x2).toList := h2
  rw [fstOuts_cells39] at h2
  obtain ⟨x3, h3⟩ := hp 3 _ rfl fstOuts_opn9
  replace h3 : (cs.drop 6).take (Try.prog.cellsOf 9) = [.string (bs x3)] := h3
  rw [fstOuts_cells9] at h3
  obtain ⟨x4, h4⟩ := hp 4 _ rfl fstOuts_opn4
  replace h4 : (cs.drop 7).take (Try.prog.cellsOf 4) = [.bool x4] := h4
  rw [fstOuts_cells4] at h4
  have e : cs = ((cs.drop 0).take 1 ++ ((cs.drop 1).take 1 ++ ((cs.drop 2).take 4 ++ ((cs.drop 6).take 1 ++ ((cs.drop 7).take 1 ++ cs.drop 8))))) := by
    rw [split_at cs 7 1]; rw [split_at cs 6 1]; rw [split_at cs 2 4]; rw [split_at cs 1 1]; rw [split_at cs 0 1]; rfl
  rw [h0, h1, h2, h3, h4, List.drop_of_length_le (by omega)] at e
  exact ⟨⟨x0, x1, x2, x3, x4⟩, e⟩
theorem fstOuts_opn23 {w : World} : Opn Try.prog w 23 (fun cs (x : List Arc) => ∃ (a0 : Option Addr) (c0 : Nat), cs = [.slice a0 x.length c0] ∧ RS (heapS w) 8 encArc (.slice a0 x.length c0) x) := Opn.slice Try.underlying23 fstOuts_opn41 fstOuts_cells41 (by rw [fstOuts_bytes41]; decide) encArc_len encArc_one
theorem fstOuts_opn25 {w : World} : Opn Try.prog w 25 (fun cs (x : Fst) => ∃ (a0 : Option Addr) (c0 : Nat), ∃ (a1 : Option Addr) (c1 : Nat), ∃ (a2 : Option Addr) (c2 : Nat), cs = [.int .i64 x.states, .slice a0 x.starts.length c0, .slice a1 x.ends.length c1, .slice a2 x.arcs.length c2] ∧ RS (heapS w) 2 encTip (.slice a0 x.starts.length c0) x.starts ∧ RS (heapS w) 2 encTip (.slice a1 x.ends.length c1) x.ends ∧ RS (heapS w) 8 encArc (.slice a2 x.arcs.length c2) x.arcs) := by
  intro H enc held fuel cs d ps ht hs
  obtain ⟨hl, hp⟩ := open_struct Try.underlying25 ht hs
  rw [fstOuts_cells25] at hl
  obtain ⟨x0, h0⟩ := hp 0 _ rfl fstOuts_opn3
  replace h0 : (cs.drop 0).take (Try.prog.cellsOf 3) = [.int .i64 x0] := h0
  rw [fstOuts_cells3] at h0
  obtain ⟨x1, a1_a0, c1_c0, h1, f1_a0⟩ := hp 1 _ rfl fstOuts_opn22
  replace h1 : (cs.drop 1).take (Try.prog.cellsOf 22) = [.slice a1_a0 x1.length c1_c0] := h1
  rw [fstOuts_cells22] at h1
  obtain ⟨x2, a2_a0, c2_c0, h2, f2_a0⟩ := hp 2 _ rfl fstOuts_opn22
  replace h2 : (cs.drop 2).take (Try.prog.cellsOf 22) = [.slice a2_a0 x2.length c2_c0] := h2
  rw [fstOuts_cells22] at h2
  obtain ⟨x3, a3_a0, c3_c0, h3, f3_a0⟩ := hp 3 _ rfl fstOuts_opn23
  replace h3 : (cs.drop 3).take (Try.prog.cellsOf 23) = [.slice a3_a0 x3.length c3_c0] := h3
  rw [fstOuts_cells23] at h3
  have e : cs = ((cs.drop 0).take 1 ++ ((cs.drop 1).take 1 ++ ((cs.drop 2).take 1 ++ ((cs.drop 3).take 1 ++ cs.drop 4)))) := by
    rw [split_at cs 3 1]; rw [split_at cs 2 1]; rw [split_at cs 1 1]; rw [split_at cs 0 1]; rfl
  rw [h0, h1, h2, h3, List.drop_of_length_le (by omega)] at e
  exact ⟨⟨x0, x1, x2, x3⟩, a1_a0, c1_c0, a2_a0, c2_c0, a3_a0, c3_c0, e, f1_a0, f2_a0, f3_a0⟩
set_option maxRecDepth 100000 in
theorem fstOuts_lifted (os : Os) (started : os.Started) (H : Type) (enc : TypeId × Value → H) :
    ReturnsInHanded {} Try.checked os 3 .any (Rows.fstOutsSpec.pre6 enc Try.prog Try.f3 Rows.fstOutsRow.domain false) (Rows.fstOutsSpec.post enc Try.prog Try.f3 false true false false) := by
  refine returnsInHanded_of_change_sized (C := Try.checked) fstOuts_own started (by kernel_rfl) Try.func3
    (ChangeSpec.witness6 (enc := enc) (C := Try.checked) false ⟨#[], #[.agg #[.int .i64 0, .slice none 0 0, .slice none 0 0, .slice none 0 0], .string ⟨#[]⟩, .string ⟨#[]⟩], []⟩ 8 (by kernel_rfl) (by kernel_rfl) (by kernel_rfl) (by kernel_rfl)) ?_
  intro W base args ds gs before hval0 hW hcnd hsz0 _
  have hsz1 : (DataW.weightsEach Try.prog (Try.f3.params.toList ++ Rows.fstOutsSpec.plain.varTypes Try.prog) (ds ++ gs)).all (· ≤ reachBytes) = true := hsz0
  have hval : ∀ (j : Nat) t v, Try.f3.params[j]? = some t → args[j]? = some v → Value.okWide Try.prog W .any base t v := hval0
  have hW' := hW
  obtain ⟨p, q, hA0, hV, rfl, hfz, hnd⟩ := hW
  have hA : DataW.TrodAll enc Try.prog W 0 (fun _ => true) true Try.f3.params.toList args.toList ds p := hA0
  rw [Try.params3] at hA hval hsz1
  have hsm := small_of hsz1
  obtain ⟨v0, vs0, d0, ds0, p0, q0, hargs, rfl, rfl, h0, r0⟩ := trodAll_cons hA
  obtain ⟨v1, vs1, d1, ds1, p1, q1, rfl, rfl, rfl, h1, r1⟩ := trodAll_cons r0
  obtain ⟨v2, vs2, d2, ds2, p2, q2, rfl, rfl, rfl, h2, r2⟩ := trodAll_cons r1
  obtain ⟨rfl, rfl, rfl⟩ := trodAll_nil r2
  obtain rfl : args = #[v0, v1, v2] := by cases args; simp_all
  obtain ⟨rfl, rfl⟩ := trodVars_none hV
  clear hA0 hval0 hsz0 hsz1
  have s0 := weights_at (P := Try.prog) (i := 0) rfl rfl hsm
  have k0 := h0
  have lt0 : ∀ x ∈ p0, x.block < W.heap.size := by obtain ⟨m, hm⟩ := k0; exact DataW.trod_lt m _ _ _ hm
  obtain ⟨n0, rfl⟩ := okWide_agg Try.underlying25 (.inl ⟨_, rfl⟩) (hval 0 25 v0 rfl rfl)
  obtain ⟨x0, a0_0, c0_0, a0_1, c0_1, a0_2, c0_2, e0, f0_0, f0_1, f0_2⟩ := fstOuts_opn25.arg h0 s0
  replace e0 := agg_of e0
  have g0 : ∀ W', Below W.heap.size W W' → DataW.Trod enc Try.prog W' 0 (fun b => decide (b < W.heap.size)) true 25 _ d0 p0 := fun W' bel => Below.trod fstOuts_laidOut (by kernel_rfl) (of_decide_eq_true (by kernel_rfl)) k0 bel lt0
  have s1 := weights_at (P := Try.prog) (i := 1) rfl rfl hsm
  have k1 := h1
  have lt1 : ∀ x ∈ p1, x.block < W.heap.size := by obtain ⟨m, hm⟩ := k1; exact DataW.trod_lt m _ _ _ hm
  obtain ⟨n1, rfl⟩ := okWide_string Try.underlying9 (hval 1 9 v1 rfl rfl)
  obtain ⟨x1, e1, b1⟩ := Opn.arg (Opn.str Try.underlying9) h1 s1
  simp only [Value.cells] at e1
  replace e1 := List.head_eq_of_cons_eq e1
  have g1 : ∀ W', Below W.heap.size W W' → DataW.Trod enc Try.prog W' 0 (fun b => decide (b < W.heap.size)) true 9 _ d1 p1 := fun W' bel => Below.trod fstOuts_laidOut (by kernel_rfl) (of_decide_eq_true (by kernel_rfl)) k1 bel lt1
  have s2 := weights_at (P := Try.prog) (i := 2) rfl rfl hsm
  have k2 := h2
  have lt2 : ∀ x ∈ p2, x.block < W.heap.size := by obtain ⟨m, hm⟩ := k2; exact DataW.trod_lt m _ _ _ hm
  obtain ⟨n2, rfl⟩ := okWide_string Try.underlying9 (hval 2 9 v2 rfl rfl)
  obtain ⟨x2, e2, b2⟩ := Opn.arg (Opn.str Try.underlying9) h2 s2
  simp only [Value.cells] at e2
  replace e2 := List.head_eq_of_cons_eq e2
  have g2 : ∀ W', Below W.heap.size W W' → DataW.Trod enc Try.prog W' 0 (fun b => decide (b < W.heap.size)) true 9 _ d2 p2 := fun W' bel => Below.trod fstOuts_laidOut (by kernel_rfl) (of_decide_eq_true (by kernel_rfl)) k2 bel lt2
  have hcall : Calls Try.prog 3 #[.agg ([.int .i64 x0.states, .slice a0_0 x0.starts.length c0_0, .slice a0_1 x0.ends.length c0_1, .slice a0_2 x0.arcs.length c0_2]).toArray, .string (bs x1), .string (bs x2)] W fun e w' => e = .returned (.bool true) ∧ Below W.heap.size W w' := Con.below (whittlelaw15_FstOuts_con f0_0 f0_1 f0_2 (fstOuts_eq x0 x1 x2 f0_0.rv.big f0_1.rv.big f0_2.rv.big (Nat.le_trans b1 (by decide)) (Nat.le_trans b2 (by decide))))
  have hcall2 : Calls Try.prog 3 #[(.agg n0), (.string n1), (.string n2)] W fun e w' => e = .returned (.bool true) ∧ Below W.heap.size W w' := by
    rw [e0, e1, e2]; exact hcall
  refine hcall2.mono fun e W' ⟨he, bel⟩ => ?_
  subst he
  exact ⟨_, rfl, _, _, _, [], _, [], hW', trodAll_mk1 (shut_bool Try.underlying4 _), (trodAll_cons_mk (g0 W' bel) (trodAll_cons_mk (g1 W' bel) (trodAll_cons_mk (g2 W' bel) trodAll_mk0))), rfl, bel.frame _, fun h => by cases h⟩

theorem fstOuts_over : Rows.fstOutsRow.holds Try.pinned (OpenSpec.ofChange Rows.fstOutsSpec) :=
  OpenClaim.holds_of_wide 3 Try.f3 rfl rfl rfl rfl rfl rfl rfl ⟨rfl, rfl, rfl, rfl, rfl⟩ rfl rfl rfl rfl rfl (by kernel_rfl) Try.func3 (by kernel_rfl)
    (of_decide_eq_true (by kernel_rfl)) (by unfold Func.isWrapper; first | (rw [if_pos (by decide +kernel)]; kernel_rfl) | (rw [if_neg (by decide +kernel)]; exact ⟨rfl, rfl⟩))
    (fun os started H enc _ => fstOuts_lifted os started H enc)
/-- The statement. -/
theorem fstOuts_holds : Rows.FstOutsSaid := fstOuts_over
#print axioms fstOuts_holds
end Go.Proofs.Ytpijipnmfkehcaa
