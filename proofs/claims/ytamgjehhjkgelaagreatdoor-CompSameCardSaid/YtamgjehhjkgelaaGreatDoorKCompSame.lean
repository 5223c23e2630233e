/- CompSame: for every input the law returns true, and each argument reads afterwards as it read before. No condition of ours. -/
import Derived.Test.YtamgjehhjkgelaaGreatDoorBbfafb0be17
import Derived.Test.YtamgjehhjkgelaaGreatDoorB9c0f1fc16d
import Derived.Test.YtamgjehhjkgelaaGreatDoorBbd3a22be10
import Derived.Test.YtamgjehhjkgelaaGreatDoorB9c460d7936
import Derived.Test.YtamgjehhjkgelaaGreatDoorB7f655e11cc
import Derived.Test.YtamgjehhjkgelaaGreatDoorRows
import Derived.WalkKit
import Derived.ProofKit
import Derived.OpenShut
import Derived.ShutString
import Derived.ChangeOld
import Derived.SizedLaws
import Derived.Below
import Derived.Test.YtamgjehhjkgelaaGreatDoorTie
import Derived.Test.YtamgjehhjkgelaaGreatDoorCards
import Derived.LaidMore
import Derived.SevenTiedAt
import Derived.Stop.Joined

set_option linter.unusedVariables false
set_option linter.unusedSimpArgs false
set_option linter.unusedSectionVars false
set_option maxRecDepth 100000
set_option maxHeartbeats 8000000

section
/- CompSame: for every input the law returns true, and each argument reads afterwards as it read before. No condition of ours. -/
namespace Go.Proofs.YtamgjehhjkgelaaGreatDoor
open Go Go.E Go.ChangeShapes Go.WideShapes Go.ChangeAt Go.RowKit
theorem compSame_own : ownKnob Tryz.prog.godebug = none := by kernel_rfl
theorem compSame_laidOut : laidOutB Tryz.prog = true := by kernel_rfl
def compSame_laid : List (String × DataW Unit) := [("math/bits.deBruijn64tab", Rows.laid_math_bits_deBruijn64tab)]
theorem compSame_g0 : Tryz.prog.globalNamed "math/bits.deBruijn64tab" = some 1 := by kernel_rfl
theorem compSame_t0 : (Tryz.prog.globals[1]?).map (·.type) = some 203 := by kernel_rfl
theorem compSame_door (os : Os) (args : Array Value) : laidMetH Tryz.prog compSame_laid ((World.doorLaid Tryz.prog 400 os).forCall (fun _ _ => 0) ⟨#[], args, []⟩).memory :=
  laidMetH_of_parts3 (fuel := 8) (laidMet_of_run' 8 (by kernel_rfl) (by kernel_rfl)) (by kernel_rfl) (by kernel_rfl)
theorem compSame_cells3 : Tryz.prog.cellsOf 3 = 1 := by kernel_rfl
theorem compSame_cells4 : Tryz.prog.cellsOf 4 = 1 := by kernel_rfl
theorem compSame_cells9 : Tryz.prog.cellsOf 9 = 1 := by kernel_rfl
theorem compSame_cells22 : Tryz.prog.cellsOf 22 = 1 := by kernel_rfl
theorem compSame_cells23 : Tryz.prog.cellsOf 23 = 1 := by kernel_rfl
theorem compSame_cells25 : Tryz.prog.cellsOf 25 = 4 := by kernel_rfl
theorem compSame_cells43 : Tryz.prog.cellsOf 43 = 2 := by kernel_rfl
theorem compSame_cells53 : Tryz.prog.cellsOf 53 = 1 := by kernel_rfl
theorem compSame_cells55 : Tryz.prog.cellsOf 55 = 4 := by kernel_rfl
theorem compSame_cells66 : Tryz.prog.cellsOf 66 = 8 := by kernel_rfl
theorem compSame_bytes43 : Tryz.prog.bytesOf 43 = 24 := by kernel_rfl
theorem compSame_bytes66 : Tryz.prog.bytesOf 66 = 72 := by kernel_rfl
theorem compSame_opn3 {w : World} : Opn Tryz.prog w 3 (fun cs (x : Int) => cs = [.int .i64 x]) := Opn.mono (Opn.int Tryz.underlying3) id fun cs x h => h.1
theorem compSame_opn9 {w : World} : Opn Tryz.prog w 9 (fun cs (x : List UInt8) => cs = [.string (bs x)]) := Opn.mono (Opn.str Tryz.underlying9) id fun cs x h => h.1
theorem compSame_opn43 {w : World} : Opn Tryz.prog w 43 (fun cs (x : Tip) => cs = encTip x) := by
  intro H enc held fuel cs d ps ht hs
  obtain ⟨hl, hp⟩ := open_struct Tryz.underlying43 ht hs
  rw [compSame_cells43] at hl
  obtain ⟨x0, h0⟩ := hp 0 _ rfl compSame_opn3
  replace h0 : (cs.drop 0).take (Tryz.prog.cellsOf 3) = [.int .i64 x0] := h0
  rw [compSame_cells3] at h0
  obtain ⟨x1, h1⟩ := hp 1 _ rfl compSame_opn9
  replace h1 : (cs.drop 1).take (Tryz.prog.cellsOf 9) = [.string (bs x1)] := h1
  rw [compSame_cells9] at h1
  have e : cs = ((cs.drop 0).take 1 ++ ((cs.drop 1).take 1 ++ cs.drop 2)) := by
    rw [split_at cs 1 1]; rw [split_at cs 0 1]; rfl
  rw [h0, h1, List.drop_of_length_le (by omega)] at e
  exact ⟨⟨x0, x1⟩, e⟩
theorem compSame_opn22 {w : World} : Opn Tryz.prog w 22 (fun cs (x : List Tip) => ∃ (a0 : Option Addr) (c0 : Nat), cs = [.slice a0 x.length c0] ∧ RS (heapS w) 2 encTip (.slice a0 x.length c0) x) := Opn.slice Tryz.underlying22 compSame_opn43 compSame_cells43 (by rw [compSame_bytes43]; decide) encTip_len encTip_one
theorem compSame_opn55 {w : World} : Opn Tryz.prog w 55 (fun cs (x : BSet) => cs = (setA x).toList) := Opn.set Tryz.underlying55 Tryz.underlying53 compSame_cells55 compSame_cells53
theorem compSame_opn4 {w : World} : Opn Tryz.prog w 4 (fun cs (x : Bool) => cs = [.bool x]) := Opn.bool Tryz.underlying4
theorem compSame_opn66 {w : World} : Opn Tryz.prog w 66 (fun cs (x : Arc) => cs = encArc x) := by
  intro H enc held fuel cs d ps ht hs
  obtain ⟨hl, hp⟩ := open_struct Tryz.underlying66 ht hs
  rw [compSame_cells66] at hl
  obtain ⟨x0, h0⟩ := hp 0 _ rfl compSame_opn3
  replace h0 : (cs.drop 0).take (Tryz.prog.cellsOf 3) = [.int .i64 x0] := h0
  rw [compSame_cells3] at h0
  obtain ⟨x1, h1⟩ := hp 1 _ rfl compSame_opn3
  replace h1 : (cs.drop 1).take (Tryz.prog.cellsOf 3) = [.int .i64 x1] := h1
  rw [compSame_cells3] at h1
  obtain ⟨x2, h2⟩ := hp 2 _ rfl compSame_opn55
  replace h2 : (cs.drop 2).take (Tryz.prog.cellsOf 55) = (setA x2).toList := h2
  rw [compSame_cells55] at h2
  obtain ⟨x3, h3⟩ := hp 3 _ rfl compSame_opn9
  replace h3 : (cs.drop 6).take (Tryz.prog.cellsOf 9) = [.string (bs x3)] := h3
  rw [compSame_cells9] at h3
  obtain ⟨x4, h4⟩ := hp 4 _ rfl compSame_opn4
  replace h4 : (cs.drop 7).take (Tryz.prog.cellsOf 4) = [.bool x4] := h4
  rw [compSame_cells4] at h4
  have e : cs = ((cs.drop 0).take 1 ++ ((cs.drop 1).take 1 ++ ((cs.drop 2).take 4 ++ ((cs.drop 6).take 1 ++ ((cs.drop 7).take 1 ++ cs.drop 8))))) := by
    rw [split_at cs 7 1]; rw [split_at cs 6 1]; rw [split_at cs 2 4]; rw [split_at cs 1 1]; rw [split_at cs 0 1]; rfl
  rw [h0, h1, h2, h3, h4, List.drop_of_length_le (by omega)] at e
  exact ⟨⟨x0, x1, x2, x3, x4⟩, e⟩
theorem compSame_opn23 {w : World} : Opn Tryz.prog w 23 (fun cs (x : List Arc) => ∃ (a0 : Option Addr) (c0 : Nat), cs = [.slice a0 x.length c0] ∧ RS (heapS w) 8 encArc (.slice a0 x.length c0) x) := Opn.slice Tryz.underlying23 compSame_opn66 compSame_cells66 (by rw [compSame_bytes66]; decide) encArc_len encArc_one
theorem compSame_opn25 {w : World} : Opn Tryz.prog w 25 (fun cs (x : Fst) => ∃ (a0 : Option Addr) (c0 : Nat), ∃ (a1 : Option Addr) (c1 : Nat), ∃ (a2 : Option Addr) (c2 : Nat), cs = [.int .i64 x.states, .slice a0 x.starts.length c0, .slice a1 x.ends.length c1, .slice a2 x.arcs.length c2] ∧ RS (heapS w) 2 encTip (.slice a0 x.starts.length c0) x.starts ∧ RS (heapS w) 2 encTip (.slice a1 x.ends.length c1) x.ends ∧ RS (heapS w) 8 encArc (.slice a2 x.arcs.length c2) x.arcs) := by
  intro H enc held fuel cs d ps ht hs
  obtain ⟨hl, hp⟩ := open_struct Tryz.underlying25 ht hs
  rw [compSame_cells25] at hl
  obtain ⟨x0, h0⟩ := hp 0 _ rfl compSame_opn3
  replace h0 : (cs.drop 0).take (Tryz.prog.cellsOf 3) = [.int .i64 x0] := h0
  rw [compSame_cells3] at h0
  obtain ⟨x1, a1_a0, c1_c0, h1, f1_a0⟩ := hp 1 _ rfl compSame_opn22
  replace h1 : (cs.drop 1).take (Tryz.prog.cellsOf 22) = [.slice a1_a0 x1.length c1_c0] := h1
  rw [compSame_cells22] at h1
  obtain ⟨x2, a2_a0, c2_c0, h2, f2_a0⟩ := hp 2 _ rfl compSame_opn22
  replace h2 : (cs.drop 2).take (Tryz.prog.cellsOf 22) = [.slice a2_a0 x2.length c2_c0] := h2
  rw [compSame_cells22] at h2
  obtain ⟨x3, a3_a0, c3_c0, h3, f3_a0⟩ := hp 3 _ rfl compSame_opn23
  replace h3 : (cs.drop 3).take (Tryz.prog.cellsOf 23) = [.slice a3_a0 x3.length c3_c0] := h3
  rw [compSame_cells23] at h3
  have e : cs = ((cs.drop 0).take 1 ++ ((cs.drop 1).take 1 ++ ((cs.drop 2).take 1 ++ ((cs.drop 3).take 1 ++ cs.drop 4)))) := by
    rw [split_at cs 3 1]; rw [split_at cs 2 1]; rw [split_at cs 1 1]; rw [split_at cs 0 1]; rfl
  rw [h0, h1, h2, h3, List.drop_of_length_le (by omega)] at e
  exact ⟨⟨x0, x1, x2, x3⟩, a1_a0, c1_c0, a2_a0, c2_c0, a3_a0, c3_c0, e, f1_a0, f2_a0, f3_a0⟩
set_option maxRecDepth 100000 in
theorem compSame_lifted (os : Os) (started : os.Started) (H : Type) (enc : TypeId × Value → H) :
    ReturnsInHanded {} Tryz.checked os 7 .any (fun w args => (Rows.compSameSpec.pre enc Tryz.prog Tryz.f7 [] false w args ∧ laidMetH Tryz.prog compSame_laid w) ∧ sizedMet enc Tryz.prog Tryz.f7 (OpenSpec.ofChange Rows.compSameSpec) false w args)
      (Rows.compSameSpec.post enc Tryz.prog Tryz.f7 false true false false) := by
  refine returnsInHanded_of_change_and (C := Tryz.checked) (X := fun w _ => laidMetH Tryz.prog compSame_laid w) (fun _ _ _ hh h => h.of_heap hh) compSame_own started (by kernel_rfl) Tryz.func7
    (ChangeSpec.witness_shaped (enc := enc) (C := Tryz.checked) (os := os) (X := fun w _ => laidMetH Tryz.prog compSame_laid w) false (World.doorLaid Tryz.prog 400 os) #[.agg #[.int .i64 0, .slice none 0 0, .slice none 0 0, .slice none 0 0], .string ⟨#[]⟩] 8 rfl (World.shaped_of_RefB (by kernel_rfl) (by kernel_rfl)) (by kernel_rfl) (by kernel_rfl) (by kernel_rfl) (compSame_door os _)) ?_
  intro W base args ds gs before hval0 hW _ hsz0 hL _
  have hgl := laid_gt (P := Tryz.prog) (l := deB) (by exact hL) compSame_g0 compSame_t0 (by exact Tryz.underlying203) Tryz.underlying5 (by kernel_rfl) (by kernel_rfl) (by decide)
  have hsz1 : (DataW.weightsEach Tryz.prog (Tryz.f7.params.toList ++ Rows.compSameSpec.plain.varTypes Tryz.prog) (ds ++ gs)).all (· ≤ reachBytes) = true := hsz0
  have hval : ∀ (j : Nat) t v, Tryz.f7.params[j]? = some t → args[j]? = some v → Value.okWide Tryz.prog W .any base t v := hval0
  have hW' := hW
  obtain ⟨p, q, hA0, hV, rfl, hfz, hnd⟩ := hW
  have hA : DataW.TrodAll enc Tryz.prog W 0 (fun _ => true) true Tryz.f7.params.toList args.toList ds p := hA0
  rw [Tryz.params7] at hA hval hsz1
  have hsm := small_of hsz1
  obtain ⟨v0, vs0, d0, ds0, p0, q0, hargs, rfl, rfl, h0, r0⟩ := trodAll_cons hA
  obtain ⟨v1, vs1, d1, ds1, p1, q1, rfl, rfl, rfl, h1, r1⟩ := trodAll_cons r0
  obtain ⟨rfl, rfl, rfl⟩ := trodAll_nil r1
  obtain rfl : args = #[v0, v1] := by cases args; simp_all
  obtain ⟨rfl, rfl⟩ := trodVars_none hV
  clear hA0 hval0 hsz0 hsz1
  have s0 := weights_at (P := Tryz.prog) (i := 0) rfl rfl hsm
  have k0 := h0
  have lt0 : ∀ x ∈ p0, x.block < W.heap.size := by obtain ⟨m, hm⟩ := k0; exact DataW.trod_lt m _ _ _ hm
  obtain ⟨n0, rfl⟩ := okWide_agg Tryz.underlying25 (.inl ⟨_, rfl⟩) (hval 0 25 v0 rfl rfl)
  obtain ⟨x0, a0_0, c0_0, a0_1, c0_1, a0_2, c0_2, e0, f0_0, f0_1, f0_2⟩ := compSame_opn25.arg h0 s0
  replace e0 := agg_of e0
  have g0 : ∀ W', Below W.heap.size W W' → DataW.Trod enc Tryz.prog W' 0 (fun b => decide (b < W.heap.size)) true 25 _ d0 p0 := fun W' bel => Below.trod compSame_laidOut (by kernel_rfl) (of_decide_eq_true (by kernel_rfl)) k0 bel lt0
  have s1 := weights_at (P := Tryz.prog) (i := 1) rfl rfl hsm
  have k1 := h1
  have lt1 : ∀ x ∈ p1, x.block < W.heap.size := by obtain ⟨m, hm⟩ := k1; exact DataW.trod_lt m _ _ _ hm
  obtain ⟨n1, rfl⟩ := okWide_string Tryz.underlying9 (hval 1 9 v1 rfl rfl)
  obtain ⟨x1, e1, b1⟩ := Opn.arg (Opn.str Tryz.underlying9) h1 s1
  simp only [Value.cells] at e1
  replace e1 := List.head_eq_of_cons_eq e1
  have g1 : ∀ W', Below W.heap.size W W' → DataW.Trod enc Tryz.prog W' 0 (fun b => decide (b < W.heap.size)) true 9 _ d1 p1 := fun W' bel => Below.trod compSame_laidOut (by kernel_rfl) (of_decide_eq_true (by kernel_rfl)) k1 bel lt1
  have hcall : Calls Tryz.prog 7 #[.agg ([.int .i64 x0.states, .slice a0_0 x0.starts.length c0_0, .slice a0_1 x0.ends.length c0_1, .slice a0_2 x0.arcs.length c0_2]).toArray, .string (bs x1)] W fun e w' => e = .returned (.bool true) ∧ Below W.heap.size W w' := Con.below (Eu_ hgl f0_0 f0_1 f0_2 (compSame_eq x0 x1 (Nat.le_trans b1 (by decide))))
  have hcall2 : Calls Tryz.prog 7 #[(.agg n0), (.string n1)] W fun e w' => e = .returned (.bool true) ∧ Below W.heap.size W w' := by
    rw [e0, e1]; exact hcall
  refine hcall2.mono fun e W' ⟨he, bel⟩ => ?_
  subst he
  exact ⟨_, rfl, _, _, _, [], _, [], hW', trodAll_mk1 (shut_bool Tryz.underlying4 _), (trodAll_cons_mk (g0 W' bel) (trodAll_cons_mk (g1 W' bel) trodAll_mk0)), rfl, bel.frame _, fun h => by cases h⟩
theorem compSame_over : Rows.compSameRow.holds Tryz.pinned (OpenSpec.ofChange Rows.compSameSpec) :=
  OpenClaim.holds_of_wide 7 Tryz.f7 rfl rfl rfl rfl rfl rfl rfl ⟨rfl, rfl, rfl, rfl, rfl⟩ rfl rfl rfl rfl rfl (by kernel_rfl) Tryz.func7 (by kernel_rfl)
    (of_decide_eq_true (by kernel_rfl)) (by unfold Func.isWrapper; first | (rw [if_pos (by decide +kernel)]; kernel_rfl) | (rw [if_neg (by decide +kernel)]; exact ⟨rfl, rfl⟩))
    (fun os started H enc _ => compSame_lifted os started H enc)
theorem compSame_row : Rows.CompSameSaid := compSame_over
#print axioms compSame_row
theorem compSame_plain : ∀ (j : Nat) (t : TypeId), Tryz.f7.params[j]? = some t → Tryz.prog.wantsStandIn t = false := fun j t ht => by
  rw [Tryz.params7] at ht
  have hm : t ∈ [25, 9] := by simpa using Array.mem_of_getElem? ht
  have hall : ([25, 9].all fun u => !Tryz.prog.wantsStandIn u) = true := by kernel_rfl
  exact (show Tryz.prog.wantsStandIn t = false by simpa using List.all_eq_true.1 hall t hm)
theorem compSame_holds : Rows.CompSameCardSaid :=
  Claim7.holds_tied_plain_at .later [] [.data] true (true, "8aa7f87c4a8f6921a948c8705d130882d00aa84dfbe883db672ec9938765815d") false
    compSame_row (fun _ h => by cases h) (by kernel_rfl) (fun _ h => by cases h) compSame_row_tie rfl ⟨rfl, rfl⟩ (by kernel_rfl) rfl
    (fun f fn hf hfn => by
      obtain rfl : f = 7 := Option.some.inj ((show Tryz.prog.funcNamed "whittle/whittlelaw17.CompSame" = some 7 by kernel_rfl).symm.trans hf) |>.symm
      obtain rfl : fn = Tryz.f7 := (Option.some.inj (Tryz.func7.symm.trans hfn)).symm
      exact ⟨by kernel_rfl, compSame_plain⟩)
    (by kernel_rfl)
#print axioms compSame_holds
end Go.Proofs.YtamgjehhjkgelaaGreatDoor
end
