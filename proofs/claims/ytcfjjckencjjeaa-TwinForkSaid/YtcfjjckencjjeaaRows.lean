/-
  No cell of these rows narrows 'for every input' (looked for: loops, veiled, ifaces, maps, wideKeys, modest, calm, conditions, laid).
  DERIVED. THE GIVEN ROWS OF THIS SEAT. 3 by the template 'for every input the law returns true; each argument reads behind the call as it read before'; 0 by the template 'total and deterministic' (their statements: YtcfjjckencjjeaaTotals.lean).
  GIVEN WITH THE SEED: the statements are not yours to turn. If you find one false, say at which input.
  Laid BY PROGRAM, IN A SANDBOX (cutbox-rows.mjs): the forced cells as the released guide's own fill.sh prints them over the translation 3530843f0be78493… (all of the seat's roots in one cut). By AI agents, Wed Nov 11 2026. No macro, syntax, notation, axiom, sorry.
-/
import Derived.Test.YtcfjjckencjjeaaChecked
import GoSem.Claim
import GoSem.ClaimJoined
import GoSem.ClaimMapViews
import Derived.JoinedTies
import Derived.KernelRfl
namespace Go.Proofs.Ytcfjjckencjjeaa
/- THE CELL 'sum', in the pinned program and in every row, IS THE sha256 OF THE DUMP (.gsa) THAT YtcfjjckencjjeaaProg.lean LOADS. Nothing in Lean hashes anything: it is a label: what it is worth is what the hold of that sum in a sandbox is worth. -/
noncomputable def Try.pinned : Pinned := { name := "ytcfjjckencjjeaa", sum := "3530843f0be78493c5abbb7051c9ff2a436fd8d76bd8289be689561e8b40d02c", checked := Try.checked }
namespace Rows
def none {H : Type} : Left H := { results := [], args := [] }

/-- 'whittlelaw20.TwinFork': WHATEVER THE INPUT: true; the input reads as it did. -/
def twinForkSpec : ChangeSpec := { name := "twinFork", fn := fun _ => fun
  | [d1, d2] => { results := [.lit (.bool true)], args := [d1, d2] }
  | _ => none }
def twinForkRow : OpenClaim := { program := "ytcfjjckencjjeaa", sum := "3530843f0be78493c5abbb7051c9ff2a436fd8d76bd8289be689561e8b40d02c", func := "whittle/whittlelaw20.TwinFork", spec := "twinFork", inPlace := ["internal/bytealg.abigen_runtime_cmpstring"], unfollowed := true, recurses := true, plainKeys := false, apart := false }
def TwinForkSaid : Prop := twinForkRow.holds Try.pinned (OpenSpec.ofChange twinForkSpec)

/-- ITS FALSE NEIGHBOUR: 'it returns false'. Refute it at one input. -/
def twinForkWrong : ChangeSpec := { name := "twinFork", fn := fun _ => fun
  | [d1, d2] => { results := [.lit (.bool false)], args := [d1, d2] }
  | _ => none }
def TwinForkWrongFalsely : Prop := twinForkRow.holds Try.pinned (OpenSpec.ofChange twinForkWrong)

/-- 'whittlelaw20.TwinTrim': WHATEVER THE INPUT: true; the input reads as it did. -/
def twinTrimSpec : ChangeSpec := { name := "twinTrim", fn := fun _ => fun
  | [d] => { results := [.lit (.bool true)], args := [d] }
  | _ => none }
def twinTrimRow : OpenClaim := { program := "ytcfjjckencjjeaa", sum := "3530843f0be78493c5abbb7051c9ff2a436fd8d76bd8289be689561e8b40d02c", func := "whittle/whittlelaw20.TwinTrim", spec := "twinTrim", inPlace := ["internal/bytealg.abigen_runtime_cmpstring"], unfollowed := true, recurses := true, plainKeys := false, apart := false }
def TwinTrimSaid : Prop := twinTrimRow.holds Try.pinned (OpenSpec.ofChange twinTrimSpec)

/-- ITS FALSE NEIGHBOUR: 'it returns false'. Refute it at one input. -/
def twinTrimWrong : ChangeSpec := { name := "twinTrim", fn := fun _ => fun
  | [d] => { results := [.lit (.bool false)], args := [d] }
  | _ => none }
def TwinTrimWrongFalsely : Prop := twinTrimRow.holds Try.pinned (OpenSpec.ofChange twinTrimWrong)

/-- 'whittlelaw20.TwinMade': WHATEVER THE INPUT: true; the input reads as it did. -/
def twinMadeSpec : ChangeSpec := { name := "twinMade", fn := fun _ => fun
  | [d1, d2] => { results := [.lit (.bool true)], args := [d1, d2] }
  | _ => none }
def twinMadeRow : OpenClaim := { program := "ytcfjjckencjjeaa", sum := "3530843f0be78493c5abbb7051c9ff2a436fd8d76bd8289be689561e8b40d02c", func := "whittle/whittlelaw20.TwinMade", spec := "twinMade", inPlace := ["internal/bytealg.abigen_runtime_cmpstring"], unfollowed := true, recurses := true, plainKeys := false, apart := false }
def TwinMadeSaid : Prop := twinMadeRow.holds Try.pinned (OpenSpec.ofChange twinMadeSpec)

/-- ITS FALSE NEIGHBOUR: 'it returns false'. Refute it at one input. -/
def twinMadeWrong : ChangeSpec := { name := "twinMade", fn := fun _ => fun
  | [d1, d2] => { results := [.lit (.bool false)], args := [d1, d2] }
  | _ => none }
def TwinMadeWrongFalsely : Prop := twinMadeRow.holds Try.pinned (OpenSpec.ofChange twinMadeWrong)

/- THE SECOND FORM. 'bulk': how many values and letters a reading holds, each counted each time it is reached (what is shared counts as often as it is met; a slice's spare places count too). A statement '..UptoSaid' is the law's where the arguments, and the package variables that the reading takes, are together of bulk at most 1048576: NARROWER than '..Said'. Prove '..Said' where nothing that the law and all that it calls make is longer than what came in: it says more and counts as full. Else prove '..UptoSaid'. A law counts once. -/
mutual
def uptoBulk {H : Type} : DataW H → Nat
  | .lit (.string bytes) => bytes.length + 1
  | .lit _ => 1
  | .nil => 1
  | .ptr d => uptoBulk d + 1
  | .slice elems spare => uptoBulkAll elems + uptoBulkAll spare + 1
  | .agg parts => uptoBulkAll parts + 1
  | .iface _ d => uptoBulk d + 1
  | .map entries => uptoBulkEntries entries + 1
  | .held _ => 1
def uptoBulkAll {H : Type} : List (DataW H) → Nat
  | [] => 0
  | d :: r => uptoBulk d + uptoBulkAll r
def uptoBulkEntries {H : Type} : List (Lit × DataW H) → Nat
  | [] => 0
  | x :: r => uptoBulkEntry x + uptoBulkEntries r
def uptoBulkEntry {H : Type} : Lit × DataW H → Nat
  | (.string bytes, d) => bytes.length + uptoBulk d + 1
  | (_, d) => uptoBulk d + 1
 end
def uptoSmall : (H : Type) → List (DataW H) → Bool := fun _ ds => decide (uptoBulkAll ds ≤ 1048576)
def OpenSpec.upto (s : _root_.Go.ChangeSpec) : _root_.Go.OpenSpec := { _root_.Go.OpenSpec.ofChange s with cond := some uptoSmall }

/-- 'whittlelaw20.TwinFork', WHERE WHAT IT READS IS OF BULK AT MOST 1048576: true; the input reads as it did. -/
def twinForkUptoRow : OpenClaim := { program := "ytcfjjckencjjeaa", sum := "3530843f0be78493c5abbb7051c9ff2a436fd8d76bd8289be689561e8b40d02c", func := "whittle/whittlelaw20.TwinFork", spec := "twinFork", inPlace := ["internal/bytealg.abigen_runtime_cmpstring"], unfollowed := true, recurses := true, plainKeys := false, apart := false, narrowed := true }
def TwinForkUptoSaid : Prop := twinForkUptoRow.holds Try.pinned (OpenSpec.upto twinForkSpec)

/-- 'whittlelaw20.TwinTrim', WHERE WHAT IT READS IS OF BULK AT MOST 1048576: true; the input reads as it did. -/
def twinTrimUptoRow : OpenClaim := { program := "ytcfjjckencjjeaa", sum := "3530843f0be78493c5abbb7051c9ff2a436fd8d76bd8289be689561e8b40d02c", func := "whittle/whittlelaw20.TwinTrim", spec := "twinTrim", inPlace := ["internal/bytealg.abigen_runtime_cmpstring"], unfollowed := true, recurses := true, plainKeys := false, apart := false, narrowed := true }
def TwinTrimUptoSaid : Prop := twinTrimUptoRow.holds Try.pinned (OpenSpec.upto twinTrimSpec)

/-- 'whittlelaw20.TwinMade', WHERE WHAT IT READS IS OF BULK AT MOST 1048576: true; the input reads as it did. -/
def twinMadeUptoRow : OpenClaim := { program := "ytcfjjckencjjeaa", sum := "3530843f0be78493c5abbb7051c9ff2a436fd8d76bd8289be689561e8b40d02c", func := "whittle/whittlelaw20.TwinMade", spec := "twinMade", inPlace := ["internal/bytealg.abigen_runtime_cmpstring"], unfollowed := true, recurses := true, plainKeys := false, apart := false, narrowed := true }
def TwinMadeUptoSaid : Prop := twinMadeUptoRow.holds Try.pinned (OpenSpec.upto twinMadeSpec)

end Rows
end Go.Proofs.Ytcfjjckencjjeaa
