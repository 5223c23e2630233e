/- FstMakes: for every input the law returns true, and each argument reads afterwards as it read before. No condition of ours. -/
import Derived.Test.YtpijipnmfkehcaaGreatRows
import Derived.Test.YtpijipnmfkehcaaGreatG1p
import Derived.Test.YtpijipnmfkehcaaGreatOpen
import Derived.WalkKit
import Derived.ProofKit
import Derived.OpenShut
import Derived.ShutString
import Derived.ChangeOld
import Derived.SizedLaws
import Derived.Below
set_option linter.unusedVariables false
set_option linter.unusedSimpArgs false
namespace Go.Proofs.YtpijipnmfkehcaaGreat
open Go Go.E Go.ChangeShapes Go.WideShapes Go.ChangeAt Go.RowKit
set_option linter.unusedVariables false
theorem fstMakes_own : ownKnob Tryz.prog.godebug = none := by kernel_rfl
theorem fstMakes_laidOut : laidOutB Tryz.prog = true := by kernel_rfl
theorem fstMakes_cells3 : Tryz.prog.cellsOf 3 = 1 := by kernel_rfl
theorem fstMakes_cells4 : Tryz.prog.cellsOf 4 = 1 := by kernel_rfl
theorem fstMakes_cells9 : Tryz.prog.cellsOf 9 = 1 := by kernel_rfl
theorem fstMakes_cells22 : Tryz.prog.cellsOf 22 = 1 := by kernel_rfl
theorem fstMakes_cells23 : Tryz.prog.cellsOf 23 = 1 := by kernel_rfl
theorem fstMakes_cells25 : Tryz.prog.cellsOf 25 = 4 := by kernel_rfl
theorem fstMakes_cells40 : Tryz.prog.cellsOf 40 = 2 := by kernel_rfl
theorem fstMakes_cells41 : Tryz.prog.cellsOf 41 = 1 := by kernel_rfl
theorem fstMakes_cells43 : Tryz.prog.cellsOf 43 = 4 := by kernel_rfl
theorem fstMakes_cells45 : Tryz.prog.cellsOf 45 = 8 := by kernel_rfl
theorem fstMakes_bytes40 : Tryz.prog.bytesOf 40 = 24 := by kernel_rfl
theorem fstMakes_bytes45 : Tryz.prog.bytesOf 45 = 72 := by kernel_rfl
theorem fstMakes_opn3 {w : World} : Opn Tryz.prog w 3 (fun cs (x : Int) => cs = [.int .i64 x]) := Opn.mono (Opn.int Tryz.underlying3) id fun cs x h => h.1
theorem fstMakes_opn9 {w : World} : Opn Tryz.prog w 9 (fun cs (x : List UInt8) => cs = [.string (bs x)]) := Opn.mono (Opn.str Tryz.underlying9) id fun cs x h => h.1
theorem fstMakes_opn40 {w : World} : Opn Tryz.prog w 40 (fun cs (x : Tip) => cs = encTip x) := by
  intro H enc held fuel cs d ps ht hs
  obtain ⟨hl, hp⟩ := open_struct Tryz.underlying40 ht hs
  rw [fstMakes_cells40] at hl
  obtain ⟨x0, h0⟩ := hp 0 _ rfl fstMakes_opn3
  replace h0 : (cs.drop 0).take (Tryz.prog.cellsOf 3) = [.int .i64 x0] := h0
  rw [fstMakes_cells3] at h0
  obtain ⟨x1, h1⟩ := hp 1 _ rfl fstMakes_opn9
  replace h1 : (cs.drop 1).take (Tryz.prog.cellsOf 9) = [.string (bs x1)] := h1
  rw [fstMakes_cells9] at h1
  have e : cs = ((cs.drop 0).take 1 ++ ((cs.drop 1).take 1 ++ cs.drop 2)) := by
    rw [split_at cs 1 1]; rw [split_at cs 0 1]; rfl
  rw [h0, h1, List.drop_of_length_le (by omega)] at e
  exact ⟨⟨x0, x1⟩, e⟩
theorem fstMakes_opn22 {w : World} : Opn Tryz.prog w 22 (fun cs (x : List Tip) => ∃ (a0 : Option Addr) (c0 : Nat), cs = [.slice a0 x.length c0] ∧ RS (heapS w) 2 encTip (.slice a0 x.length c0) x) := Opn.slice Tryz.underlying22 fstMakes_opn40 fstMakes_cells40 (by rw [fstMakes_bytes40]; decide) encTip_len encTip_one
theorem fstMakes_opn43 {w : World} : Opn Tryz.prog w 43 (fun cs (x : BSet) => cs = (setA x).toList) := Opn.set Tryz.underlying43 Tryz.underlying41 fstMakes_cells43 fstMakes_cells41
theorem fstMakes_opn4 {w : World} : Opn Tryz.prog w 4 (fun cs (x : Bool) => cs = [.bool x]) := Opn.bool Tryz.underlying4
theorem fstMakes_opn45 {w : World} : Opn Tryz.prog w 45 (fun cs (x : Arc) => cs = encArc x) := by
  intro H enc held fuel cs d ps ht hs
  obtain ⟨hl, hp⟩ := open_struct Tryz.underlying45 ht hs
  rw [fstMakes_cells45] at hl
  obtain ⟨x0, h0⟩ := hp 0 _ rfl fstMakes_opn3
  replace h0 : (cs.drop 0).take (Tryz.prog.cellsOf 3) = [.int .i64 x0] := h0
  rw [fstMakes_cells3] at h0
  obtain ⟨x1, h1⟩ := hp 1 _ rfl fstMakes_opn3
  replace h1 : (cs.drop 1).take (Tryz.prog.cellsOf 3) = [.int .i64 x1] := h1
  rw [fstMakes_cells3] at h1
  obtain ⟨x2, h2⟩ := hp 2 _ rfl fstMakes_opn43
  replace h2 : (cs.drop 2).take (Tryz.prog.cellsOf 43) = (setA x2).toList := h2
  rw [fstMakes_cells43] at h2
  obtain ⟨x3, h3⟩ := hp 3 _ rfl fstMakes_opn9
  replace h3 : (cs.drop 6).take (Tryz.prog.cellsOf 9) = [.string (bs x3)] := h3
  rw [fstMakes_cells9] at h3
  obtain ⟨x4, h4⟩ := hp 4 _ rfl fstMakes_opn4
  replace h4 : (cs.drop 7).take (Tryz.prog.cellsOf 4) = [.bool x4] := h4
  rw [fstMakes_cells4] at h4
  have e : cs = ((cs.drop 0).take 1 ++ ((cs.drop 1).take 1 ++ ((cs.drop 2).take 4 ++ ((cs.drop 6).take 1 ++ ((cs.drop 7).take 1 ++ cs.drop 8))))) := by
    rw [split_at cs 7 1]; rw [split_at cs 6 1]; rw [split_at cs 2 4]; rw [split_at cs 1 1]; rw [split_at cs 0 1]; rfl
  rw [h0, h1, h2, h3, h4, List.drop_of_length_le (by omega)] at e
  exact ⟨⟨x0, x1, x2, x3, x4⟩, e⟩
theorem fstMakes_opn23 {w : World} : Opn Tryz.prog w 23 (fun cs (x : List Arc) => ∃ (a0 : Option Addr) (c0 : Nat), cs = [.slice a0 x.length c0] ∧ RS (heapS w) 8 encArc (.slice a0 x.length c0) x) := Opn.slice Tryz.underlying23 fstMakes_opn45 fstMakes_cells45 (by rw [fstMakes_bytes45]; decide) encArc_len encArc_one
theorem fstMakes_opn25 {w : World} : Opn Tryz.prog w 25 (fun cs (x : Fst) => ∃ (a0 : Option Addr) (c0 : Nat), ∃ (a1 : Option Addr) (c1 : Nat), ∃ (a2 : Option Addr) (c2 : Nat), cs = [.int .i64 x.states, .slice a0 x.starts.length c0, .slice a1 x.ends.length c1, .slice a2 x.arcs.length c2] ∧ RS (heapS w) 2 encTip (.slice a0 x.starts.length c0) x.starts ∧ RS (heapS w) 2 encTip (.slice a1 x.ends.length c1) x.ends ∧ RS (heapS w) 8 encArc (.slice a2 x.arcs.length c2) x.arcs) := by
  intro H enc held fuel cs d ps ht hs
  obtain ⟨hl, hp⟩ := open_struct Tryz.underlying25 ht hs
  rw [fstMakes_cells25] at hl
  obtain ⟨x0, h0⟩ := hp 0 _ rfl fstMakes_opn3
  replace h0 : (cs.drop 0).take (Tryz.prog.cellsOf 3) = [.int .i64 x0] := h0
  rw [fstMakes_cells3] at h0
  obtain ⟨x1, a1_a0, c1_c0, h1, f1_a0⟩ := hp 1 _ rfl fstMakes_opn22
  replace h1 : (cs.drop 1).take (Tryz.prog.cellsOf 22) = [.slice a1_a0 x1.length c1_c0] := h1
  rw [fstMakes_cells22] at h1
  obtain ⟨x2, a2_a0, c2_c0, h2, f2_a0⟩ := hp 2 _ rfl fstMakes_opn22
  replace h2 : (cs.drop 2).take (Tryz.prog.cellsOf 22) = [.slice a2_a0 x2.length c2_c0] := h2
  rw [fstMakes_cells22] at h2
  obtain ⟨x3, a3_a0, c3_c0, h3, f3_a0⟩ := hp 3 _ rfl fstMakes_opn23
  replace h3 : (cs.drop 3).take (Tryz.prog.cellsOf 23) = [.slice a3_a0 x3.length c3_c0] := h3
  rw [fstMakes_cells23] at h3
  have e : cs = ((cs.drop 0).take 1 ++ ((cs.drop 1).take 1 ++ ((cs.drop 2).take 1 ++ ((cs.drop 3).take 1 ++ cs.drop 4)))) := by
    rw [split_at cs 3 1]; rw [split_at cs 2 1]; rw [split_at cs 1 1]; rw [split_at cs 0 1]; rfl
  rw [h0, h1, h2, h3, List.drop_of_length_le (by omega)] at e
  exact ⟨⟨x0, x1, x2, x3⟩, a1_a0, c1_c0, a2_a0, c2_c0, a3_a0, c3_c0, e, f1_a0, f2_a0, f3_a0⟩
set_option maxRecDepth 100000 in
theorem fstMakes_lifted (os : Os) (started : os.Started) (H : Type) (enc : TypeId × Value → H) :
    ReturnsInHanded {} Tryz.checked os 3 .any (Rows.fstMakesSpec.pre6 enc Tryz.prog Tryz.f3 Rows.fstMakesRow.domain false) (Rows.fstMakesSpec.post enc Tryz.prog Tryz.f3 false true false false) := by
  refine returnsInHanded_of_change_sized (C := Tryz.checked) fstMakes_own started (by kernel_rfl) Tryz.func3
    (ChangeSpec.witness6 (enc := enc) (C := Tryz.checked) false ⟨#[], #[.agg #[.int .i64 0, .slice none 0 0, .slice none 0 0, .slice none 0 0]], []⟩ 8 (by kernel_rfl) (by kernel_rfl) (by kernel_rfl) (by kernel_rfl)) ?_
  intro W base args ds gs before hval0 hW hcnd hsz0 _
  have hsz1 : (DataW.weightsEach Tryz.prog (Tryz.f3.params.toList ++ Rows.fstMakesSpec.plain.varTypes Tryz.prog) (ds ++ gs)).all (· ≤ reachBytes) = true := hsz0
  have hval : ∀ (j : Nat) t v, Tryz.f3.params[j]? = some t → args[j]? = some v → Value.okWide Tryz.prog W .any base t v := hval0
  have hW' := hW
  obtain ⟨p, q, hA0, hV, rfl, hfz, hnd⟩ := hW
  have hA : DataW.TrodAll enc Tryz.prog W 0 (fun _ => true) true Tryz.f3.params.toList args.toList ds p := hA0
  rw [Tryz.params3] at hA hval hsz1
  have hsm := small_of hsz1
  obtain ⟨v0, vs0, d0, ds0, p0, q0, hargs, rfl, rfl, h0, r0⟩ := trodAll_cons hA
  obtain ⟨rfl, rfl, rfl⟩ := trodAll_nil r0
  obtain rfl : args = #[v0] := by cases args; simp_all
  obtain ⟨rfl, rfl⟩ := trodVars_none hV
  clear hA0 hval0 hsz0 hsz1
  have s0 := weights_at (P := Tryz.prog) (i := 0) rfl rfl hsm
  have k0 := h0
  have lt0 : ∀ x ∈ p0, x.block < W.heap.size := by obtain ⟨m, hm⟩ := k0; exact DataW.trod_lt m _ _ _ hm
  obtain ⟨n0, rfl⟩ := okWide_agg Tryz.underlying25 (.inl ⟨_, rfl⟩) (hval 0 25 v0 rfl rfl)
  obtain ⟨x0, a0_0, c0_0, a0_1, c0_1, a0_2, c0_2, e0, f0_0, f0_1, f0_2⟩ := fstMakes_opn25.arg h0 s0
  replace e0 := agg_of e0
  have g0 : ∀ W', Below W.heap.size W W' → DataW.Trod enc Tryz.prog W' 0 (fun b => decide (b < W.heap.size)) true 25 _ d0 p0 := fun W' bel => Below.trod fstMakes_laidOut (by kernel_rfl) (of_decide_eq_true (by kernel_rfl)) k0 bel lt0
  have hcall : Calls Tryz.prog 3 #[.agg ([.int .i64 x0.states, .slice a0_0 x0.starts.length c0_0, .slice a0_1 x0.ends.length c0_1, .slice a0_2 x0.arcs.length c0_2]).toArray] W fun e w' => e = .returned (.bool true) ∧ Below W.heap.size W w' := Con.below (whittlelaw15_FstMakes_con f0_0 f0_1 f0_2 (fstMakes_eq x0 f0_0.rv.big f0_1.rv.big f0_2.rv.big))
  have hcall2 : Calls Tryz.prog 3 #[(.agg n0)] W fun e w' => e = .returned (.bool true) ∧ Below W.heap.size W w' := by
    rw [e0]; exact hcall
  refine hcall2.mono fun e W' ⟨he, bel⟩ => ?_
  subst he
  exact ⟨_, rfl, _, _, _, [], _, [], hW', trodAll_mk1 (shut_bool Tryz.underlying4 _), (trodAll_cons_mk (g0 W' bel) trodAll_mk0), rfl, bel.frame _, fun h => by cases h⟩

theorem fstMakes_over : Rows.fstMakesRow.holds Tryz.pinned (OpenSpec.ofChange Rows.fstMakesSpec) :=
  OpenClaim.holds_of_wide 3 Tryz.f3 rfl rfl rfl rfl rfl rfl rfl ⟨rfl, rfl, rfl, rfl, rfl⟩ rfl rfl rfl rfl rfl (by kernel_rfl) Tryz.func3 (by kernel_rfl)
    (of_decide_eq_true (by kernel_rfl)) (by unfold Func.isWrapper; first | (rw [if_pos (by decide +kernel)]; kernel_rfl) | (rw [if_neg (by decide +kernel)]; exact ⟨rfl, rfl⟩))
    (fun os started H enc _ => fstMakes_lifted os started H enc)
/-- The statement. -/
theorem fstMakes_holds : Rows.FstMakesSaid := fstMakes_over
#print axioms fstMakes_holds
end Go.Proofs.YtpijipnmfkehcaaGreat
