/- InternSorts: for every input the law returns true, and each argument reads afterwards as it read before. No condition of ours. -/
import Derived.Test.YtcidppnlhhkhhaaRows
import Derived.Test.YtcidppnlhhkhhaaIntL
import Derived.Test.YtcidppnlhhkhhaaOpen
import Derived.WalkKit
import Derived.ProofKit
import Derived.OpenShut
import Derived.ShutString
import Derived.ChangeOld
import Derived.SizedLaws
import Derived.Below
set_option linter.unusedVariables false
set_option linter.unusedSimpArgs false
namespace Go.Proofs.Ytcidppnlhhkhhaa
open Go Go.E Go.ChangeShapes Go.WideShapes Go.ChangeAt Go.RowKit
set_option linter.unusedVariables false
theorem internSorts_own : ownKnob Try.prog.godebug = none := by kernel_rfl
theorem internSorts_laidOut : laidOutB Try.prog = true := by kernel_rfl
theorem internSorts_cells3 : Try.prog.cellsOf 3 = 1 := by kernel_rfl
theorem internSorts_bytes3 : Try.prog.bytesOf 3 = 8 := by kernel_rfl
theorem internSorts_opn3_g {w : World} : Opn Try.prog w 3 (fun cs (x : Int) => cs = [.int .i64 x] ∧ (I64 x)) := Opn.int64 Try.underlying3
theorem internSorts_opn22_g {w : World} : Opn Try.prog w 22 (fun cs (x : List Int) => ∃ (a0 : Option Addr) (c0 : Nat), cs = [.slice a0 x.length c0] ∧ RS (heapS w) 1 Go.E.encI (.slice a0 x.length c0) x ∧ (∀ q0 ∈ x, I64 q0)) := Opn.sliceG Try.underlying22 internSorts_opn3_g internSorts_cells3 (by rw [internSorts_bytes3]; decide) Go.E.encI_len Go.E.encI_one
set_option maxRecDepth 100000 in
theorem internSorts_lifted (os : Os) (started : os.Started) (H : Type) (enc : TypeId × Value → H) :
    ReturnsInHanded {} Try.checked os 12 .any (Rows.internSortsSpec.pre6 enc Try.prog Try.f12 Rows.internSortsRow.domain false) (Rows.internSortsSpec.post enc Try.prog Try.f12 false true false false) := by
  refine returnsInHanded_of_change_sized (C := Try.checked) internSorts_own started (by kernel_rfl) Try.func12
    (ChangeSpec.witness6 (enc := enc) (C := Try.checked) false ⟨#[], #[.slice none 0 0, .slice none 0 0], []⟩ 8 (by kernel_rfl) (by kernel_rfl) (by kernel_rfl) (by kernel_rfl)) ?_
  intro W base args ds gs before hval0 hW hcnd hsz0 _
  have hsz1 : (DataW.weightsEach Try.prog (Try.f12.params.toList ++ Rows.internSortsSpec.plain.varTypes Try.prog) (ds ++ gs)).all (· ≤ reachBytes) = true := hsz0
  have hval : ∀ (j : Nat) t v, Try.f12.params[j]? = some t → args[j]? = some v → Value.okWide Try.prog W .any base t v := hval0
  have hW' := hW
  obtain ⟨p, q, hA0, hV, rfl, hfz, hnd⟩ := hW
  have hA : DataW.TrodAll enc Try.prog W 0 (fun _ => true) true Try.f12.params.toList args.toList ds p := hA0
  rw [Try.params12] at hA hval hsz1
  have hsm := small_of hsz1
  obtain ⟨v0, vs0, d0, ds0, p0, q0, hargs, rfl, rfl, h0, r0⟩ := trodAll_cons hA
  obtain ⟨v1, vs1, d1, ds1, p1, q1, rfl, rfl, rfl, h1, r1⟩ := trodAll_cons r0
  obtain ⟨rfl, rfl, rfl⟩ := trodAll_nil r1
  obtain rfl : args = #[v0, v1] := by cases args; simp_all
  obtain ⟨rfl, rfl⟩ := trodVars_none hV
  clear hA0 hval0 hsz0 hsz1
  have s0 := weights_at (P := Try.prog) (i := 0) rfl rfl hsm
  have k0 := h0
  have lt0 : ∀ x ∈ p0, x.block < W.heap.size := by obtain ⟨m, hm⟩ := k0; exact DataW.trod_lt m _ _ _ hm
  obtain ⟨b0, l0, z0, rfl⟩ := okWide_slice Try.underlying22 (hval 0 22 v0 rfl rfl)
  obtain ⟨x0, a0_0, c0_0, e0, f0_0, w0⟩ := internSorts_opn22_g.arg h0 s0
  simp only [Value.cells] at e0
  replace e0 := List.head_eq_of_cons_eq e0
  have g0 : ∀ W', Below W.heap.size W W' → DataW.Trod enc Try.prog W' 0 (fun b => decide (b < W.heap.size)) true 22 _ d0 p0 := fun W' bel => Below.trod internSorts_laidOut (by kernel_rfl) (of_decide_eq_true (by kernel_rfl)) k0 bel lt0
  have s1 := weights_at (P := Try.prog) (i := 1) rfl rfl hsm
  have k1 := h1
  have lt1 : ∀ x ∈ p1, x.block < W.heap.size := by obtain ⟨m, hm⟩ := k1; exact DataW.trod_lt m _ _ _ hm
  obtain ⟨b1, l1, z1, rfl⟩ := okWide_slice Try.underlying22 (hval 1 22 v1 rfl rfl)
  obtain ⟨x1, a1_0, c1_0, e1, f1_0, w1⟩ := internSorts_opn22_g.arg h1 s1
  simp only [Value.cells] at e1
  replace e1 := List.head_eq_of_cons_eq e1
  have g1 : ∀ W', Below W.heap.size W W' → DataW.Trod enc Try.prog W' 0 (fun b => decide (b < W.heap.size)) true 22 _ d1 p1 := fun W' bel => Below.trod internSorts_laidOut (by kernel_rfl) (of_decide_eq_true (by kernel_rfl)) k1 bel lt1
  have hcall : Calls Try.prog 12 #[.slice a0_0 x0.length c0_0, .slice a1_0 x1.length c1_0] W fun e w' => e = .returned (.bool true) ∧ Below W.heap.size W w' := Con.below (whittlelaw05_InternSorts_con f0_0 f1_0 (internSorts_eq x0 x1))
  have hcall2 : Calls Try.prog 12 #[(.slice b0 l0 z0), (.slice b1 l1 z1)] W fun e w' => e = .returned (.bool true) ∧ Below W.heap.size W w' := by
    rw [e0, e1]; exact hcall
  refine hcall2.mono fun e W' ⟨he, bel⟩ => ?_
  subst he
  exact ⟨_, rfl, _, _, _, [], _, [], hW', trodAll_mk1 (shut_bool Try.underlying4 _), (trodAll_cons_mk (g0 W' bel) (trodAll_cons_mk (g1 W' bel) trodAll_mk0)), rfl, bel.frame _, fun h => by cases h⟩

theorem internSorts_over : Rows.internSortsRow.holds Try.pinned (OpenSpec.ofChange Rows.internSortsSpec) :=
  OpenClaim.holds_of_wide 12 Try.f12 rfl rfl rfl rfl rfl rfl rfl ⟨rfl, rfl, rfl, rfl, rfl⟩ rfl rfl rfl rfl rfl (by kernel_rfl) Try.func12 (by kernel_rfl)
    (of_decide_eq_true (by kernel_rfl)) (by unfold Func.isWrapper; first | (rw [if_pos (by decide +kernel)]; kernel_rfl) | (rw [if_neg (by decide +kernel)]; exact ⟨rfl, rfl⟩))
    (fun os started H enc _ => internSorts_lifted os started H enc)
/-- The statement. -/
theorem internSorts_holds : Rows.InternSortsSaid := internSorts_over
#print axioms internSorts_holds
end Go.Proofs.Ytcidppnlhhkhhaa
