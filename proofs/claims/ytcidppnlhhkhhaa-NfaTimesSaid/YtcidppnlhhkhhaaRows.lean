/-
  No cell of these rows narrows 'for every input' (looked for: loops, veiled, ifaces, maps, wideKeys, modest, calm, conditions, laid).
  DERIVED. THE GIVEN ROWS OF THIS SEAT. 11 by the template 'for every input the law returns true; each argument reads behind the call as it read before'; 0 by the template 'total and deterministic' (their statements: YtcidppnlhhkhhaaTotals.lean).
  GIVEN WITH THE SEED: the statements are not yours to turn. If you find one false, say at which input.
  Laid BY PROGRAM, IN A SANDBOX (cutbox-rows.mjs): the forced cells as the released guide's own fill.sh prints them over the translation 5484dbd492f3915a… (all of the seat's roots in one cut). By AI agents, Wed Nov 11 2026. No macro, syntax, notation, axiom, sorry.
-/
import Derived.Test.YtcidppnlhhkhhaaChecked
import GoSem.Claim
import GoSem.ClaimJoined
import GoSem.ClaimMapViews
import Derived.JoinedTies
import Derived.KernelRfl
namespace Go.Proofs.Ytcidppnlhhkhhaa
/- THE CELL 'sum', in the pinned program and in every row, IS THE sha256 OF THE DUMP (.gsa) THAT YtcidppnlhhkhhaaProg.lean LOADS. Nothing in Lean hashes anything: it is a label: what it is worth is what the hold of that sum in a sandbox is worth. -/
noncomputable def Try.pinned : Pinned := { name := "ytcidppnlhhkhhaa", sum := "5484dbd492f3915a86a529fbdb0149f718c9f5369f5db95a828381e31ae1d00c", checked := Try.checked }
namespace Rows
def none {H : Type} : Left H := { results := [], args := [] }

/-- 'whittlelaw10.NfaMakes': WHATEVER THE INPUT: true; the input reads as it did. -/
def nfaMakesSpec : ChangeSpec := { name := "nfaMakes", fn := fun _ => fun
  | [d1, d2, d3] => { results := [.lit (.bool true)], args := [d1, d2, d3] }
  | _ => none }
def nfaMakesRow : OpenClaim := { program := "ytcidppnlhhkhhaa", sum := "5484dbd492f3915a86a529fbdb0149f718c9f5369f5db95a828381e31ae1d00c", func := "whittle/whittlelaw10.NfaMakes", spec := "nfaMakes", unfollowed := true, recurses := true, apart := false }
def NfaMakesSaid : Prop := nfaMakesRow.holds Try.pinned (OpenSpec.ofChange nfaMakesSpec)

/-- ITS FALSE NEIGHBOUR: 'it returns false'. Refute it at one input. -/
def nfaMakesWrong : ChangeSpec := { name := "nfaMakes", fn := fun _ => fun
  | [d1, d2, d3] => { results := [.lit (.bool false)], args := [d1, d2, d3] }
  | _ => none }
def NfaMakesWrongFalsely : Prop := nfaMakesRow.holds Try.pinned (OpenSpec.ofChange nfaMakesWrong)

/-- 'whittlelaw10.NfaTakes': WHATEVER THE INPUT: true; the input reads as it did. -/
def nfaTakesSpec : ChangeSpec := { name := "nfaTakes", fn := fun _ => fun
  | [d1, d2] => { results := [.lit (.bool true)], args := [d1, d2] }
  | _ => none }
def nfaTakesRow : OpenClaim := { program := "ytcidppnlhhkhhaa", sum := "5484dbd492f3915a86a529fbdb0149f718c9f5369f5db95a828381e31ae1d00c", func := "whittle/whittlelaw10.NfaTakes", spec := "nfaTakes", unfollowed := true, recurses := true, apart := false }
def NfaTakesSaid : Prop := nfaTakesRow.holds Try.pinned (OpenSpec.ofChange nfaTakesSpec)

/-- ITS FALSE NEIGHBOUR: 'it returns false'. Refute it at one input. -/
def nfaTakesWrong : ChangeSpec := { name := "nfaTakes", fn := fun _ => fun
  | [d1, d2] => { results := [.lit (.bool false)], args := [d1, d2] }
  | _ => none }
def NfaTakesWrongFalsely : Prop := nfaTakesRow.holds Try.pinned (OpenSpec.ofChange nfaTakesWrong)

/-- 'whittlelaw10.NfaParts': WHATEVER THE INPUT: true; the input reads as it did. -/
def nfaPartsSpec : ChangeSpec := { name := "nfaParts", fn := fun _ => fun
  | [d1, d2, d3, d4, d5] => { results := [.lit (.bool true)], args := [d1, d2, d3, d4, d5] }
  | _ => none }
def nfaPartsRow : OpenClaim := { program := "ytcidppnlhhkhhaa", sum := "5484dbd492f3915a86a529fbdb0149f718c9f5369f5db95a828381e31ae1d00c", func := "whittle/whittlelaw10.NfaParts", spec := "nfaParts", unfollowed := true, recurses := true, apart := false }
def NfaPartsSaid : Prop := nfaPartsRow.holds Try.pinned (OpenSpec.ofChange nfaPartsSpec)

/-- ITS FALSE NEIGHBOUR: 'it returns false'. Refute it at one input. -/
def nfaPartsWrong : ChangeSpec := { name := "nfaParts", fn := fun _ => fun
  | [d1, d2, d3, d4, d5] => { results := [.lit (.bool false)], args := [d1, d2, d3, d4, d5] }
  | _ => none }
def NfaPartsWrongFalsely : Prop := nfaPartsRow.holds Try.pinned (OpenSpec.ofChange nfaPartsWrong)

/-- 'whittlelaw10.NfaJoins': WHATEVER THE INPUT: true; the input reads as it did. -/
def nfaJoinsSpec : ChangeSpec := { name := "nfaJoins", fn := fun _ => fun
  | [d1, d2, d3, d4] => { results := [.lit (.bool true)], args := [d1, d2, d3, d4] }
  | _ => none }
def nfaJoinsRow : OpenClaim := { program := "ytcidppnlhhkhhaa", sum := "5484dbd492f3915a86a529fbdb0149f718c9f5369f5db95a828381e31ae1d00c", func := "whittle/whittlelaw10.NfaJoins", spec := "nfaJoins", unfollowed := true, recurses := true, apart := false }
def NfaJoinsSaid : Prop := nfaJoinsRow.holds Try.pinned (OpenSpec.ofChange nfaJoinsSpec)

/-- ITS FALSE NEIGHBOUR: 'it returns false'. Refute it at one input. -/
def nfaJoinsWrong : ChangeSpec := { name := "nfaJoins", fn := fun _ => fun
  | [d1, d2, d3, d4] => { results := [.lit (.bool false)], args := [d1, d2, d3, d4] }
  | _ => none }
def NfaJoinsWrongFalsely : Prop := nfaJoinsRow.holds Try.pinned (OpenSpec.ofChange nfaJoinsWrong)

/-- 'whittlelaw10.NfaTimes': WHATEVER THE INPUT: true; the input reads as it did. -/
def nfaTimesSpec : ChangeSpec := { name := "nfaTimes", fn := fun _ => fun
  | [d1, d2, d3, d4] => { results := [.lit (.bool true)], args := [d1, d2, d3, d4] }
  | _ => none }
def nfaTimesRow : OpenClaim := { program := "ytcidppnlhhkhhaa", sum := "5484dbd492f3915a86a529fbdb0149f718c9f5369f5db95a828381e31ae1d00c", func := "whittle/whittlelaw10.NfaTimes", spec := "nfaTimes", unfollowed := true, recurses := true, apart := false }
def NfaTimesSaid : Prop := nfaTimesRow.holds Try.pinned (OpenSpec.ofChange nfaTimesSpec)

/-- ITS FALSE NEIGHBOUR: 'it returns false'. Refute it at one input. -/
def nfaTimesWrong : ChangeSpec := { name := "nfaTimes", fn := fun _ => fun
  | [d1, d2, d3, d4] => { results := [.lit (.bool false)], args := [d1, d2, d3, d4] }
  | _ => none }
def NfaTimesWrongFalsely : Prop := nfaTimesRow.holds Try.pinned (OpenSpec.ofChange nfaTimesWrong)

/-- 'whittlelaw05.InternFull': WHATEVER THE INPUT: true; the input reads as it did. -/
def internFullSpec : ChangeSpec := { name := "internFull", fn := fun _ => fun
  | [d] => { results := [.lit (.bool true)], args := [d] }
  | _ => none }
def internFullRow : OpenClaim := { program := "ytcidppnlhhkhhaa", sum := "5484dbd492f3915a86a529fbdb0149f718c9f5369f5db95a828381e31ae1d00c", func := "whittle/whittlelaw05.InternFull", spec := "internFull", recurses := true, apart := false }
def InternFullSaid : Prop := internFullRow.holds Try.pinned (OpenSpec.ofChange internFullSpec)

/-- ITS FALSE NEIGHBOUR: 'it returns false'. Refute it at one input. -/
def internFullWrong : ChangeSpec := { name := "internFull", fn := fun _ => fun
  | [d] => { results := [.lit (.bool false)], args := [d] }
  | _ => none }
def InternFullWrongFalsely : Prop := internFullRow.holds Try.pinned (OpenSpec.ofChange internFullWrong)

/-- 'whittlelaw05.InternDoes': WHATEVER THE INPUT: true; the input reads as it did. -/
def internDoesSpec : ChangeSpec := { name := "internDoes", fn := fun _ => fun
  | [d1, d2, d3] => { results := [.lit (.bool true)], args := [d1, d2, d3] }
  | _ => none }
def internDoesRow : OpenClaim := { program := "ytcidppnlhhkhhaa", sum := "5484dbd492f3915a86a529fbdb0149f718c9f5369f5db95a828381e31ae1d00c", func := "whittle/whittlelaw05.InternDoes", spec := "internDoes", recurses := true, apart := false }
def InternDoesSaid : Prop := internDoesRow.holds Try.pinned (OpenSpec.ofChange internDoesSpec)

/-- ITS FALSE NEIGHBOUR: 'it returns false'. Refute it at one input. -/
def internDoesWrong : ChangeSpec := { name := "internDoes", fn := fun _ => fun
  | [d1, d2, d3] => { results := [.lit (.bool false)], args := [d1, d2, d3] }
  | _ => none }
def InternDoesWrongFalsely : Prop := internDoesRow.holds Try.pinned (OpenSpec.ofChange internDoesWrong)

/-- 'whittlelaw05.InternSame': WHATEVER THE INPUT: true; the input reads as it did. -/
def internSameSpec : ChangeSpec := { name := "internSame", fn := fun _ => fun
  | [d1, d2, d3] => { results := [.lit (.bool true)], args := [d1, d2, d3] }
  | _ => none }
def internSameRow : OpenClaim := { program := "ytcidppnlhhkhhaa", sum := "5484dbd492f3915a86a529fbdb0149f718c9f5369f5db95a828381e31ae1d00c", func := "whittle/whittlelaw05.InternSame", spec := "internSame", recurses := true, apart := false }
def InternSameSaid : Prop := internSameRow.holds Try.pinned (OpenSpec.ofChange internSameSpec)

/-- ITS FALSE NEIGHBOUR: 'it returns false'. Refute it at one input. -/
def internSameWrong : ChangeSpec := { name := "internSame", fn := fun _ => fun
  | [d1, d2, d3] => { results := [.lit (.bool false)], args := [d1, d2, d3] }
  | _ => none }
def InternSameWrongFalsely : Prop := internSameRow.holds Try.pinned (OpenSpec.ofChange internSameWrong)

/-- 'whittlelaw05.InternNil': WHATEVER THE INPUT: true; the input reads as it did. -/
def internNilSpec : ChangeSpec := { name := "internNil", fn := fun _ => fun
  | [d1, d2] => { results := [.lit (.bool true)], args := [d1, d2] }
  | _ => none }
def internNilRow : OpenClaim := { program := "ytcidppnlhhkhhaa", sum := "5484dbd492f3915a86a529fbdb0149f718c9f5369f5db95a828381e31ae1d00c", func := "whittle/whittlelaw05.InternNil", spec := "internNil", recurses := true, apart := false }
def InternNilSaid : Prop := internNilRow.holds Try.pinned (OpenSpec.ofChange internNilSpec)

/-- ITS FALSE NEIGHBOUR: 'it returns false'. Refute it at one input. -/
def internNilWrong : ChangeSpec := { name := "internNil", fn := fun _ => fun
  | [d1, d2] => { results := [.lit (.bool false)], args := [d1, d2] }
  | _ => none }
def InternNilWrongFalsely : Prop := internNilRow.holds Try.pinned (OpenSpec.ofChange internNilWrong)

/-- 'whittlelaw05.InternSorts': WHATEVER THE INPUT: true; the input reads as it did. -/
def internSortsSpec : ChangeSpec := { name := "internSorts", fn := fun _ => fun
  | [d1, d2] => { results := [.lit (.bool true)], args := [d1, d2] }
  | _ => none }
def internSortsRow : OpenClaim := { program := "ytcidppnlhhkhhaa", sum := "5484dbd492f3915a86a529fbdb0149f718c9f5369f5db95a828381e31ae1d00c", func := "whittle/whittlelaw05.InternSorts", spec := "internSorts", recurses := true, apart := false }
def InternSortsSaid : Prop := internSortsRow.holds Try.pinned (OpenSpec.ofChange internSortsSpec)

/-- ITS FALSE NEIGHBOUR: 'it returns false'. Refute it at one input. -/
def internSortsWrong : ChangeSpec := { name := "internSorts", fn := fun _ => fun
  | [d1, d2] => { results := [.lit (.bool false)], args := [d1, d2] }
  | _ => none }
def InternSortsWrongFalsely : Prop := internSortsRow.holds Try.pinned (OpenSpec.ofChange internSortsWrong)

/-- 'whittlelaw05.InternOrder': WHATEVER THE INPUT: true; the input reads as it did. -/
def internOrderSpec : ChangeSpec := { name := "internOrder", fn := fun _ => fun
  | [d1, d2, d3] => { results := [.lit (.bool true)], args := [d1, d2, d3] }
  | _ => none }
def internOrderRow : OpenClaim := { program := "ytcidppnlhhkhhaa", sum := "5484dbd492f3915a86a529fbdb0149f718c9f5369f5db95a828381e31ae1d00c", func := "whittle/whittlelaw05.InternOrder", spec := "internOrder", recurses := true, apart := false }
def InternOrderSaid : Prop := internOrderRow.holds Try.pinned (OpenSpec.ofChange internOrderSpec)

/-- ITS FALSE NEIGHBOUR: 'it returns false'. Refute it at one input. -/
def internOrderWrong : ChangeSpec := { name := "internOrder", fn := fun _ => fun
  | [d1, d2, d3] => { results := [.lit (.bool false)], args := [d1, d2, d3] }
  | _ => none }
def InternOrderWrongFalsely : Prop := internOrderRow.holds Try.pinned (OpenSpec.ofChange internOrderWrong)

/- THE SECOND FORM. 'bulk': how many values and letters a reading holds, each counted each time it is reached (what is shared counts as often as it is met; a slice's spare places count too). A statement '..UptoSaid' is the law's where the arguments, and the package variables that the reading takes, are together of bulk at most 1048576: NARROWER than '..Said'. Prove '..Said' where nothing that the law and all that it calls make is longer than what came in: it says more and counts as full. Else prove '..UptoSaid'. A law counts once. -/
mutual
def uptoBulk {H : Type} : DataW H → Nat
  | .lit (.string bytes) => bytes.length + 1
  | .lit _ => 1
  | .nil => 1
  | .ptr d => uptoBulk d + 1
  | .slice elems spare => uptoBulkAll elems + uptoBulkAll spare + 1
  | .agg parts => uptoBulkAll parts + 1
  | .iface _ d => uptoBulk d + 1
  | .map entries => uptoBulkEntries entries + 1
  | .held _ => 1
def uptoBulkAll {H : Type} : List (DataW H) → Nat
  | [] => 0
  | d :: r => uptoBulk d + uptoBulkAll r
def uptoBulkEntries {H : Type} : List (Lit × DataW H) → Nat
  | [] => 0
  | x :: r => uptoBulkEntry x + uptoBulkEntries r
def uptoBulkEntry {H : Type} : Lit × DataW H → Nat
  | (.string bytes, d) => bytes.length + uptoBulk d + 1
  | (_, d) => uptoBulk d + 1
 end
def uptoSmall : (H : Type) → List (DataW H) → Bool := fun _ ds => decide (uptoBulkAll ds ≤ 1048576)
def OpenSpec.upto (s : _root_.Go.ChangeSpec) : _root_.Go.OpenSpec := { _root_.Go.OpenSpec.ofChange s with cond := some uptoSmall }

/-- 'whittlelaw10.NfaMakes', WHERE WHAT IT READS IS OF BULK AT MOST 1048576: true; the input reads as it did. -/
def nfaMakesUptoRow : OpenClaim := { program := "ytcidppnlhhkhhaa", sum := "5484dbd492f3915a86a529fbdb0149f718c9f5369f5db95a828381e31ae1d00c", func := "whittle/whittlelaw10.NfaMakes", spec := "nfaMakes", unfollowed := true, recurses := true, apart := false, narrowed := true }
def NfaMakesUptoSaid : Prop := nfaMakesUptoRow.holds Try.pinned (OpenSpec.upto nfaMakesSpec)

/-- 'whittlelaw10.NfaTakes', WHERE WHAT IT READS IS OF BULK AT MOST 1048576: true; the input reads as it did. -/
def nfaTakesUptoRow : OpenClaim := { program := "ytcidppnlhhkhhaa", sum := "5484dbd492f3915a86a529fbdb0149f718c9f5369f5db95a828381e31ae1d00c", func := "whittle/whittlelaw10.NfaTakes", spec := "nfaTakes", unfollowed := true, recurses := true, apart := false, narrowed := true }
def NfaTakesUptoSaid : Prop := nfaTakesUptoRow.holds Try.pinned (OpenSpec.upto nfaTakesSpec)

/-- 'whittlelaw10.NfaParts', WHERE WHAT IT READS IS OF BULK AT MOST 1048576: true; the input reads as it did. -/
def nfaPartsUptoRow : OpenClaim := { program := "ytcidppnlhhkhhaa", sum := "5484dbd492f3915a86a529fbdb0149f718c9f5369f5db95a828381e31ae1d00c", func := "whittle/whittlelaw10.NfaParts", spec := "nfaParts", unfollowed := true, recurses := true, apart := false, narrowed := true }
def NfaPartsUptoSaid : Prop := nfaPartsUptoRow.holds Try.pinned (OpenSpec.upto nfaPartsSpec)

/-- 'whittlelaw10.NfaJoins', WHERE WHAT IT READS IS OF BULK AT MOST 1048576: true; the input reads as it did. -/
def nfaJoinsUptoRow : OpenClaim := { program := "ytcidppnlhhkhhaa", sum := "5484dbd492f3915a86a529fbdb0149f718c9f5369f5db95a828381e31ae1d00c", func := "whittle/whittlelaw10.NfaJoins", spec := "nfaJoins", unfollowed := true, recurses := true, apart := false, narrowed := true }
def NfaJoinsUptoSaid : Prop := nfaJoinsUptoRow.holds Try.pinned (OpenSpec.upto nfaJoinsSpec)

/-- 'whittlelaw10.NfaTimes', WHERE WHAT IT READS IS OF BULK AT MOST 1048576: true; the input reads as it did. -/
def nfaTimesUptoRow : OpenClaim := { program := "ytcidppnlhhkhhaa", sum := "5484dbd492f3915a86a529fbdb0149f718c9f5369f5db95a828381e31ae1d00c", func := "whittle/whittlelaw10.NfaTimes", spec := "nfaTimes", unfollowed := true, recurses := true, apart := false, narrowed := true }
def NfaTimesUptoSaid : Prop := nfaTimesUptoRow.holds Try.pinned (OpenSpec.upto nfaTimesSpec)

/-- 'whittlelaw05.InternFull', WHERE WHAT IT READS IS OF BULK AT MOST 1048576: true; the input reads as it did. -/
def internFullUptoRow : OpenClaim := { program := "ytcidppnlhhkhhaa", sum := "5484dbd492f3915a86a529fbdb0149f718c9f5369f5db95a828381e31ae1d00c", func := "whittle/whittlelaw05.InternFull", spec := "internFull", recurses := true, apart := false, narrowed := true }
def InternFullUptoSaid : Prop := internFullUptoRow.holds Try.pinned (OpenSpec.upto internFullSpec)

/-- 'whittlelaw05.InternDoes', WHERE WHAT IT READS IS OF BULK AT MOST 1048576: true; the input reads as it did. -/
def internDoesUptoRow : OpenClaim := { program := "ytcidppnlhhkhhaa", sum := "5484dbd492f3915a86a529fbdb0149f718c9f5369f5db95a828381e31ae1d00c", func := "whittle/whittlelaw05.InternDoes", spec := "internDoes", recurses := true, apart := false, narrowed := true }
def InternDoesUptoSaid : Prop := internDoesUptoRow.holds Try.pinned (OpenSpec.upto internDoesSpec)

/-- 'whittlelaw05.InternSame', WHERE WHAT IT READS IS OF BULK AT MOST 1048576: true; the input reads as it did. -/
def internSameUptoRow : OpenClaim := { program := "ytcidppnlhhkhhaa", sum := "5484dbd492f3915a86a529fbdb0149f718c9f5369f5db95a828381e31ae1d00c", func := "whittle/whittlelaw05.InternSame", spec := "internSame", recurses := true, apart := false, narrowed := true }
def InternSameUptoSaid : Prop := internSameUptoRow.holds Try.pinned (OpenSpec.upto internSameSpec)

/-- 'whittlelaw05.InternNil', WHERE WHAT IT READS IS OF BULK AT MOST 1048576: true; the input reads as it did. -/
def internNilUptoRow : OpenClaim := { program := "ytcidppnlhhkhhaa", sum := "5484dbd492f3915a86a529fbdb0149f718c9f5369f5db95a828381e31ae1d00c", func := "whittle/whittlelaw05.InternNil", spec := "internNil", recurses := true, apart := false, narrowed := true }
def InternNilUptoSaid : Prop := internNilUptoRow.holds Try.pinned (OpenSpec.upto internNilSpec)

/-- 'whittlelaw05.InternSorts', WHERE WHAT IT READS IS OF BULK AT MOST 1048576: true; the input reads as it did. -/
def internSortsUptoRow : OpenClaim := { program := "ytcidppnlhhkhhaa", sum := "5484dbd492f3915a86a529fbdb0149f718c9f5369f5db95a828381e31ae1d00c", func := "whittle/whittlelaw05.InternSorts", spec := "internSorts", recurses := true, apart := false, narrowed := true }
def InternSortsUptoSaid : Prop := internSortsUptoRow.holds Try.pinned (OpenSpec.upto internSortsSpec)

/-- 'whittlelaw05.InternOrder', WHERE WHAT IT READS IS OF BULK AT MOST 1048576: true; the input reads as it did. -/
def internOrderUptoRow : OpenClaim := { program := "ytcidppnlhhkhhaa", sum := "5484dbd492f3915a86a529fbdb0149f718c9f5369f5db95a828381e31ae1d00c", func := "whittle/whittlelaw05.InternOrder", spec := "internOrder", recurses := true, apart := false, narrowed := true }
def InternOrderUptoSaid : Prop := internOrderUptoRow.holds Try.pinned (OpenSpec.upto internOrderSpec)

end Rows
end Go.Proofs.Ytcidppnlhhkhhaa
