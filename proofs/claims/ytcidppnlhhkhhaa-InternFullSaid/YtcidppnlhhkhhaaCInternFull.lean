/- InternFull: for every input the law returns true, and each argument reads afterwards as it read before. No condition of ours. -/
import Derived.Test.YtcidppnlhhkhhaaRows
import Derived.Test.YtcidppnlhhkhhaaIntL
import Derived.Test.YtcidppnlhhkhhaaOpen
import Derived.WalkKit
import Derived.ProofKit
import Derived.OpenShut
import Derived.ShutString
import Derived.ChangeOld
import Derived.SizedLaws
import Derived.Below
set_option linter.unusedVariables false
set_option linter.unusedSimpArgs false
namespace Go.Proofs.Ytcidppnlhhkhhaa
open Go Go.E Go.ChangeShapes Go.WideShapes Go.ChangeAt Go.RowKit
set_option linter.unusedVariables false
theorem internFull_own : ownKnob Try.prog.godebug = none := by kernel_rfl
theorem internFull_laidOut : laidOutB Try.prog = true := by kernel_rfl


theorem internFull_opn3_g {w : World} : Opn Try.prog w 3 (fun cs (x : Int) => cs = [.int .i64 x] ∧ (I64 x)) := Opn.int64 Try.underlying3
set_option maxRecDepth 100000 in
theorem internFull_lifted (os : Os) (started : os.Started) (H : Type) (enc : TypeId × Value → H) :
    ReturnsInHanded {} Try.checked os 8 .any (Rows.internFullSpec.pre6 enc Try.prog Try.f8 Rows.internFullRow.domain false) (Rows.internFullSpec.post enc Try.prog Try.f8 false true false false) := by
  refine returnsInHanded_of_change_sized (C := Try.checked) internFull_own started (by kernel_rfl) Try.func8
    (ChangeSpec.witness6 (enc := enc) (C := Try.checked) false ⟨#[], #[.int .i64 0], []⟩ 8 (by kernel_rfl) (by kernel_rfl) (by kernel_rfl) (by kernel_rfl)) ?_
  intro W base args ds gs before hval0 hW hcnd hsz0 _
  have hsz1 : (DataW.weightsEach Try.prog (Try.f8.params.toList ++ Rows.internFullSpec.plain.varTypes Try.prog) (ds ++ gs)).all (· ≤ reachBytes) = true := hsz0
  have hval : ∀ (j : Nat) t v, Try.f8.params[j]? = some t → args[j]? = some v → Value.okWide Try.prog W .any base t v := hval0
  have hW' := hW
  obtain ⟨p, q, hA0, hV, rfl, hfz, hnd⟩ := hW
  have hA : DataW.TrodAll enc Try.prog W 0 (fun _ => true) true Try.f8.params.toList args.toList ds p := hA0
  rw [Try.params8] at hA hval hsz1
  have hsm := small_of hsz1
  obtain ⟨v0, vs0, d0, ds0, p0, q0, hargs, rfl, rfl, h0, r0⟩ := trodAll_cons hA
  obtain ⟨rfl, rfl, rfl⟩ := trodAll_nil r0
  obtain rfl : args = #[v0] := by cases args; simp_all
  obtain ⟨rfl, rfl⟩ := trodVars_none hV
  clear hA0 hval0 hsz0 hsz1
  have s0 := weights_at (P := Try.prog) (i := 0) rfl rfl hsm
  have k0 := h0
  have lt0 : ∀ x ∈ p0, x.block < W.heap.size := by obtain ⟨m, hm⟩ := k0; exact DataW.trod_lt m _ _ _ hm
  obtain ⟨n0, rfl⟩ := okWide_int Try.underlying3 (hval 0 3 v0 rfl rfl)
  obtain ⟨x0, e0, w0⟩ := internFull_opn3_g.arg h0 s0
  simp only [Value.cells] at e0
  replace e0 := List.head_eq_of_cons_eq e0
  have g0 : ∀ W', Below W.heap.size W W' → DataW.Trod enc Try.prog W' 0 (fun b => decide (b < W.heap.size)) true 3 _ d0 p0 := fun W' bel => Below.trod internFull_laidOut (by kernel_rfl) (of_decide_eq_true (by kernel_rfl)) k0 bel lt0
  have hcall : Calls Try.prog 8 #[.int .i64 x0] W fun e w' => e = .returned (.bool true) ∧ Below W.heap.size W w' := Con.below (whittlelaw05_InternFull_con  (internFull_eq x0))
  have hcall2 : Calls Try.prog 8 #[(.int .i64 n0)] W fun e w' => e = .returned (.bool true) ∧ Below W.heap.size W w' := by
    rw [e0]; exact hcall
  refine hcall2.mono fun e W' ⟨he, bel⟩ => ?_
  subst he
  exact ⟨_, rfl, _, _, _, [], _, [], hW', trodAll_mk1 (shut_bool Try.underlying4 _), (trodAll_cons_mk (g0 W' bel) trodAll_mk0), rfl, bel.frame _, fun h => by cases h⟩

theorem internFull_over : Rows.internFullRow.holds Try.pinned (OpenSpec.ofChange Rows.internFullSpec) :=
  OpenClaim.holds_of_wide 8 Try.f8 rfl rfl rfl rfl rfl rfl rfl ⟨rfl, rfl, rfl, rfl, rfl⟩ rfl rfl rfl rfl rfl (by kernel_rfl) Try.func8 (by kernel_rfl)
    (of_decide_eq_true (by kernel_rfl)) (by unfold Func.isWrapper; first | (rw [if_pos (by decide +kernel)]; kernel_rfl) | (rw [if_neg (by decide +kernel)]; exact ⟨rfl, rfl⟩))
    (fun os started H enc _ => internFull_lifted os started H enc)
/-- The statement. -/
theorem internFull_holds : Rows.InternFullSaid := internFull_over
#print axioms internFull_holds
end Go.Proofs.Ytcidppnlhhkhhaa
