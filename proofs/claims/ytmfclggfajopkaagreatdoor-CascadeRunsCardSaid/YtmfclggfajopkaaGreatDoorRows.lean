/-
  NARROWER THAN 'FOR EVERY INPUT', by the rows' own cells (each row's printed sentence says how): RewriteTurns: laid · CascadeParts: laid · CascadeRuns: laid · CascadeRises: laid.
  DERIVED. THE GIVEN ROWS OF THIS SEAT. 4 by the template 'for every input the law returns true; each argument reads behind the call as it read before'; 0 by the template 'total and deterministic' (their statements: YtmfclggfajopkaaGreatDoorTotals.lean).
  GIVEN WITH THE SEED: the statements are not yours to turn. If you find one false, say at which input.
  Laid BY PROGRAM, IN A SANDBOX (cutbox-rows.mjs): the forced cells as the released guide's own fill.sh prints them over the translation 491af11de52603dd… (all of the seat's roots in one cut). By AI agents, Wed Nov 11 2026. No macro, syntax, notation, axiom, sorry.
-/
import Derived.Test.YtmfclggfajopkaaGreatDoorChecked
import GoSem.Claim
import GoSem.ClaimJoined
import GoSem.ClaimMapViews
import Derived.JoinedTies
import Derived.KernelRfl
namespace Go.Proofs.YtmfclggfajopkaaGreatDoor
/- THE CELL 'sum', in the pinned program and in every row, IS THE sha256 OF THE DUMP (.gsa) THAT YtmfclggfajopkaaGreatDoorProg.lean LOADS. Nothing in Lean hashes anything: it is a label: what it is worth is what the hold of that sum in a sandbox is worth. -/
noncomputable def Tryz.pinned : Pinned := { name := "ytmfclggfajopkaagreatdoor", sum := "491af11de52603dd42d32f5a56da58692ea4fba421c8e8796cf68351eb2ab79e", checked := Tryz.checked }
namespace Rows
def none {H : Type} : Left H := { results := [], args := [] }

/- WHAT THE LISTED PACKAGE-LEVEL VARIABLES READ AS WHEN THE CALL BEGINS. Each datum BY PROGRAM (the guide's laid-datum.mjs) off the statement by which the dump's own 'gosem.cut.vars' lays the variable. In a bare row this is a premise. The card (YtmfclggfajopkaaGreatDoorCards.lean) ties it to the program's text. -/
def laid_math_bits_deBruijn64tab {H : Type} : DataW H := .agg [.lit (.int .u8 0), .lit (.int .u8 1), .lit (.int .u8 56), .lit (.int .u8 2), .lit (.int .u8 57), .lit (.int .u8 49), .lit (.int .u8 28), .lit (.int .u8 3), .lit (.int .u8 61), .lit (.int .u8 58), .lit (.int .u8 42), .lit (.int .u8 50), .lit (.int .u8 38), .lit (.int .u8 29), .lit (.int .u8 17), .lit (.int .u8 4), .lit (.int .u8 62), .lit (.int .u8 47), .lit (.int .u8 59), .lit (.int .u8 36), .lit (.int .u8 45), .lit (.int .u8 43), .lit (.int .u8 51), .lit (.int .u8 22), .lit (.int .u8 53), .lit (.int .u8 39), .lit (.int .u8 33), .lit (.int .u8 30), .lit (.int .u8 24), .lit (.int .u8 18), .lit (.int .u8 12), .lit (.int .u8 5), .lit (.int .u8 63), .lit (.int .u8 55), .lit (.int .u8 48), .lit (.int .u8 27), .lit (.int .u8 60), .lit (.int .u8 41), .lit (.int .u8 37), .lit (.int .u8 16), .lit (.int .u8 46), .lit (.int .u8 35), .lit (.int .u8 44), .lit (.int .u8 21), .lit (.int .u8 52), .lit (.int .u8 32), .lit (.int .u8 23), .lit (.int .u8 11), .lit (.int .u8 54), .lit (.int .u8 26), .lit (.int .u8 40), .lit (.int .u8 15), .lit (.int .u8 34), .lit (.int .u8 20), .lit (.int .u8 31), .lit (.int .u8 10), .lit (.int .u8 25), .lit (.int .u8 14), .lit (.int .u8 19), .lit (.int .u8 9), .lit (.int .u8 13), .lit (.int .u8 8), .lit (.int .u8 7), .lit (.int .u8 6)]

/-- 'whittlelaw24.RewriteTurns': WHATEVER THE INPUT: true; the input reads as it did. -/
def rewriteTurnsSpec : ChangeSpec := { name := "rewriteTurns", fn := fun _ => fun
  | [d1, d2] => { results := [.lit (.bool true)], args := [d1, d2] }
  | _ => none }
def rewriteTurnsRow : OpenClaim := { program := "ytmfclggfajopkaagreatdoor", sum := "491af11de52603dd42d32f5a56da58692ea4fba421c8e8796cf68351eb2ab79e", func := "whittle/whittlelaw24.RewriteTurns", spec := "rewriteTurns", inPlace := ["internal/abi.NoEscape"], unfollowed := true, recurses := true, named := ["math/bits.deBruijn64tab"], plainKeys := false, apart := false, laid := [("math/bits.deBruijn64tab", laid_math_bits_deBruijn64tab)] }
def RewriteTurnsSaid : Prop := rewriteTurnsRow.holds Tryz.pinned (OpenSpec.ofChange rewriteTurnsSpec)

/-- ITS FALSE NEIGHBOUR: 'it returns false'. Refute it at one input. -/
def rewriteTurnsWrong : ChangeSpec := { name := "rewriteTurns", fn := fun _ => fun
  | [d1, d2] => { results := [.lit (.bool false)], args := [d1, d2] }
  | _ => none }
def RewriteTurnsWrongFalsely : Prop := rewriteTurnsRow.holds Tryz.pinned (OpenSpec.ofChange rewriteTurnsWrong)

/-- 'whittlelaw25.CascadeParts': WHATEVER THE INPUT: true; the input reads as it did. -/
def cascadePartsSpec : ChangeSpec := { name := "cascadeParts", fn := fun _ => fun
  | [d1, d2, d3] => { results := [.lit (.bool true)], args := [d1, d2, d3] }
  | _ => none }
def cascadePartsRow : OpenClaim := { program := "ytmfclggfajopkaagreatdoor", sum := "491af11de52603dd42d32f5a56da58692ea4fba421c8e8796cf68351eb2ab79e", func := "whittle/whittlelaw25.CascadeParts", spec := "cascadeParts", inPlace := ["internal/abi.NoEscape"], unfollowed := true, recurses := true, named := ["math/bits.deBruijn64tab"], plainKeys := false, apart := false, laid := [("math/bits.deBruijn64tab", laid_math_bits_deBruijn64tab)] }
def CascadePartsSaid : Prop := cascadePartsRow.holds Tryz.pinned (OpenSpec.ofChange cascadePartsSpec)

/-- ITS FALSE NEIGHBOUR: 'it returns false'. Refute it at one input. -/
def cascadePartsWrong : ChangeSpec := { name := "cascadeParts", fn := fun _ => fun
  | [d1, d2, d3] => { results := [.lit (.bool false)], args := [d1, d2, d3] }
  | _ => none }
def CascadePartsWrongFalsely : Prop := cascadePartsRow.holds Tryz.pinned (OpenSpec.ofChange cascadePartsWrong)

/-- 'whittlelaw25.CascadeRuns': WHATEVER THE INPUT: true; the input reads as it did. -/
def cascadeRunsSpec : ChangeSpec := { name := "cascadeRuns", fn := fun _ => fun
  | [d1, d2] => { results := [.lit (.bool true)], args := [d1, d2] }
  | _ => none }
def cascadeRunsRow : OpenClaim := { program := "ytmfclggfajopkaagreatdoor", sum := "491af11de52603dd42d32f5a56da58692ea4fba421c8e8796cf68351eb2ab79e", func := "whittle/whittlelaw25.CascadeRuns", spec := "cascadeRuns", inPlace := ["internal/abi.NoEscape"], unfollowed := true, recurses := true, named := ["math/bits.deBruijn64tab"], plainKeys := false, apart := false, laid := [("math/bits.deBruijn64tab", laid_math_bits_deBruijn64tab)] }
def CascadeRunsSaid : Prop := cascadeRunsRow.holds Tryz.pinned (OpenSpec.ofChange cascadeRunsSpec)

/-- ITS FALSE NEIGHBOUR: 'it returns false'. Refute it at one input. -/
def cascadeRunsWrong : ChangeSpec := { name := "cascadeRuns", fn := fun _ => fun
  | [d1, d2] => { results := [.lit (.bool false)], args := [d1, d2] }
  | _ => none }
def CascadeRunsWrongFalsely : Prop := cascadeRunsRow.holds Tryz.pinned (OpenSpec.ofChange cascadeRunsWrong)

/-- 'whittlelaw25.CascadeRises': WHATEVER THE INPUT: true; the input reads as it did. -/
def cascadeRisesSpec : ChangeSpec := { name := "cascadeRises", fn := fun _ => fun
  | [d1, d2] => { results := [.lit (.bool true)], args := [d1, d2] }
  | _ => none }
def cascadeRisesRow : OpenClaim := { program := "ytmfclggfajopkaagreatdoor", sum := "491af11de52603dd42d32f5a56da58692ea4fba421c8e8796cf68351eb2ab79e", func := "whittle/whittlelaw25.CascadeRises", spec := "cascadeRises", inPlace := ["internal/abi.NoEscape"], unfollowed := true, recurses := true, named := ["math/bits.deBruijn64tab"], plainKeys := false, apart := false, laid := [("math/bits.deBruijn64tab", laid_math_bits_deBruijn64tab)] }
def CascadeRisesSaid : Prop := cascadeRisesRow.holds Tryz.pinned (OpenSpec.ofChange cascadeRisesSpec)

/-- ITS FALSE NEIGHBOUR: 'it returns false'. Refute it at one input. -/
def cascadeRisesWrong : ChangeSpec := { name := "cascadeRises", fn := fun _ => fun
  | [d1, d2] => { results := [.lit (.bool false)], args := [d1, d2] }
  | _ => none }
def CascadeRisesWrongFalsely : Prop := cascadeRisesRow.holds Tryz.pinned (OpenSpec.ofChange cascadeRisesWrong)

/- THE SECOND FORM. 'bulk': how many values and letters a reading holds, each counted each time it is reached (what is shared counts as often as it is met; a slice's spare places count too). A statement '..UptoSaid' is the law's where the arguments, and the package variables that the reading takes, are together of bulk at most 1048576: NARROWER than '..Said'. Prove '..Said' where nothing that the law and all that it calls make is longer than what came in: it says more and counts as full. Else prove '..UptoSaid'. A law counts once. -/
mutual
def uptoBulk {H : Type} : DataW H → Nat
  | .lit (.string bytes) => bytes.length + 1
  | .lit _ => 1
  | .nil => 1
  | .ptr d => uptoBulk d + 1
  | .slice elems spare => uptoBulkAll elems + uptoBulkAll spare + 1
  | .agg parts => uptoBulkAll parts + 1
  | .iface _ d => uptoBulk d + 1
  | .map entries => uptoBulkEntries entries + 1
  | .held _ => 1
def uptoBulkAll {H : Type} : List (DataW H) → Nat
  | [] => 0
  | d :: r => uptoBulk d + uptoBulkAll r
def uptoBulkEntries {H : Type} : List (Lit × DataW H) → Nat
  | [] => 0
  | x :: r => uptoBulkEntry x + uptoBulkEntries r
def uptoBulkEntry {H : Type} : Lit × DataW H → Nat
  | (.string bytes, d) => bytes.length + uptoBulk d + 1
  | (_, d) => uptoBulk d + 1
 end
def uptoSmall : (H : Type) → List (DataW H) → Bool := fun _ ds => decide (uptoBulkAll ds ≤ 1048576)
def OpenSpec.upto (s : _root_.Go.ChangeSpec) : _root_.Go.OpenSpec := { _root_.Go.OpenSpec.ofChange s with cond := some uptoSmall }

/-- 'whittlelaw24.RewriteTurns', WHERE WHAT IT READS IS OF BULK AT MOST 1048576: true; the input reads as it did. -/
def rewriteTurnsUptoRow : OpenClaim := { program := "ytmfclggfajopkaagreatdoor", sum := "491af11de52603dd42d32f5a56da58692ea4fba421c8e8796cf68351eb2ab79e", func := "whittle/whittlelaw24.RewriteTurns", spec := "rewriteTurns", inPlace := ["internal/abi.NoEscape"], unfollowed := true, recurses := true, named := ["math/bits.deBruijn64tab"], plainKeys := false, apart := false, laid := [("math/bits.deBruijn64tab", laid_math_bits_deBruijn64tab)], narrowed := true }
def RewriteTurnsUptoSaid : Prop := rewriteTurnsUptoRow.holds Tryz.pinned (OpenSpec.upto rewriteTurnsSpec)

/-- 'whittlelaw25.CascadeParts', WHERE WHAT IT READS IS OF BULK AT MOST 1048576: true; the input reads as it did. -/
def cascadePartsUptoRow : OpenClaim := { program := "ytmfclggfajopkaagreatdoor", sum := "491af11de52603dd42d32f5a56da58692ea4fba421c8e8796cf68351eb2ab79e", func := "whittle/whittlelaw25.CascadeParts", spec := "cascadeParts", inPlace := ["internal/abi.NoEscape"], unfollowed := true, recurses := true, named := ["math/bits.deBruijn64tab"], plainKeys := false, apart := false, laid := [("math/bits.deBruijn64tab", laid_math_bits_deBruijn64tab)], narrowed := true }
def CascadePartsUptoSaid : Prop := cascadePartsUptoRow.holds Tryz.pinned (OpenSpec.upto cascadePartsSpec)

/-- 'whittlelaw25.CascadeRuns', WHERE WHAT IT READS IS OF BULK AT MOST 1048576: true; the input reads as it did. -/
def cascadeRunsUptoRow : OpenClaim := { program := "ytmfclggfajopkaagreatdoor", sum := "491af11de52603dd42d32f5a56da58692ea4fba421c8e8796cf68351eb2ab79e", func := "whittle/whittlelaw25.CascadeRuns", spec := "cascadeRuns", inPlace := ["internal/abi.NoEscape"], unfollowed := true, recurses := true, named := ["math/bits.deBruijn64tab"], plainKeys := false, apart := false, laid := [("math/bits.deBruijn64tab", laid_math_bits_deBruijn64tab)], narrowed := true }
def CascadeRunsUptoSaid : Prop := cascadeRunsUptoRow.holds Tryz.pinned (OpenSpec.upto cascadeRunsSpec)

/-- 'whittlelaw25.CascadeRises', WHERE WHAT IT READS IS OF BULK AT MOST 1048576: true; the input reads as it did. -/
def cascadeRisesUptoRow : OpenClaim := { program := "ytmfclggfajopkaagreatdoor", sum := "491af11de52603dd42d32f5a56da58692ea4fba421c8e8796cf68351eb2ab79e", func := "whittle/whittlelaw25.CascadeRises", spec := "cascadeRises", inPlace := ["internal/abi.NoEscape"], unfollowed := true, recurses := true, named := ["math/bits.deBruijn64tab"], plainKeys := false, apart := false, laid := [("math/bits.deBruijn64tab", laid_math_bits_deBruijn64tab)], narrowed := true }
def CascadeRisesUptoSaid : Prop := cascadeRisesUptoRow.holds Tryz.pinned (OpenSpec.upto cascadeRisesSpec)

end Rows
end Go.Proofs.YtmfclggfajopkaaGreatDoor
