/-
  NARROWER THAN 'FOR EVERY INPUT', by the rows' own cells (each row's printed sentence says how): SeqMakes: laid · SeqRuns: laid · SeqRelates: laid · SeqBack: laid · SeqMany: laid · PushApart: laid · PushMakes: laid · PushTells: laid · PushRelates: laid · PushMade: laid.
  DERIVED. THE GIVEN ROWS OF THIS SEAT. 10 by the template 'for every input the law returns true; each argument reads behind the call as it read before'; 0 by the template 'total and deterministic' (their statements: YtchebnpdnfhenaaGreatDoorTotals.lean).
  GIVEN WITH THE SEED: the statements are not yours to turn. If you find one false, say at which input.
  Laid BY PROGRAM, IN A SANDBOX (cutbox-rows.mjs): the forced cells as the released guide's own fill.sh prints them over the translation a11aed65ae6bd9ad… (all of the seat's roots in one cut). By AI agents, Wed Nov 11 2026. No macro, syntax, notation, axiom, sorry.
-/
import Derived.Test.YtchebnpdnfhenaaGreatDoorChecked
import GoSem.Claim
import GoSem.ClaimJoined
import GoSem.ClaimMapViews
import Derived.JoinedTies
import Derived.KernelRfl
namespace Go.Proofs.YtchebnpdnfhenaaGreatDoor
/- THE CELL 'sum', in the pinned program and in every row, IS THE sha256 OF THE DUMP (.gsa) THAT YtchebnpdnfhenaaGreatDoorProg.lean LOADS. Nothing in Lean hashes anything: it is a label: what it is worth is what the hold of that sum in a sandbox is worth. -/
noncomputable def Tryz.pinned : Pinned := { name := "ytchebnpdnfhenaagreatdoor", sum := "a11aed65ae6bd9adb900b952b690a73f2ed012349a3fdc042b62f56aa7c7dd9a", checked := Tryz.checked }
namespace Rows
def none {H : Type} : Left H := { results := [], args := [] }

/- WHAT THE LISTED PACKAGE-LEVEL VARIABLES READ AS WHEN THE CALL BEGINS. Each datum BY PROGRAM (the guide's laid-datum.mjs) off the statement by which the dump's own 'gosem.cut.vars' lays the variable. In a bare row this is a premise. The card (YtchebnpdnfhenaaGreatDoorCards.lean) ties it to the program's text. -/
def laid_math_bits_deBruijn32tab {H : Type} : DataW H := .agg [.lit (.int .u8 0), .lit (.int .u8 1), .lit (.int .u8 28), .lit (.int .u8 2), .lit (.int .u8 29), .lit (.int .u8 14), .lit (.int .u8 24), .lit (.int .u8 3), .lit (.int .u8 30), .lit (.int .u8 22), .lit (.int .u8 20), .lit (.int .u8 15), .lit (.int .u8 25), .lit (.int .u8 17), .lit (.int .u8 4), .lit (.int .u8 8), .lit (.int .u8 31), .lit (.int .u8 27), .lit (.int .u8 13), .lit (.int .u8 23), .lit (.int .u8 21), .lit (.int .u8 19), .lit (.int .u8 16), .lit (.int .u8 7), .lit (.int .u8 26), .lit (.int .u8 12), .lit (.int .u8 18), .lit (.int .u8 6), .lit (.int .u8 11), .lit (.int .u8 5), .lit (.int .u8 10), .lit (.int .u8 9)]
def laid_math_bits_deBruijn64tab {H : Type} : DataW H := .agg [.lit (.int .u8 0), .lit (.int .u8 1), .lit (.int .u8 56), .lit (.int .u8 2), .lit (.int .u8 57), .lit (.int .u8 49), .lit (.int .u8 28), .lit (.int .u8 3), .lit (.int .u8 61), .lit (.int .u8 58), .lit (.int .u8 42), .lit (.int .u8 50), .lit (.int .u8 38), .lit (.int .u8 29), .lit (.int .u8 17), .lit (.int .u8 4), .lit (.int .u8 62), .lit (.int .u8 47), .lit (.int .u8 59), .lit (.int .u8 36), .lit (.int .u8 45), .lit (.int .u8 43), .lit (.int .u8 51), .lit (.int .u8 22), .lit (.int .u8 53), .lit (.int .u8 39), .lit (.int .u8 33), .lit (.int .u8 30), .lit (.int .u8 24), .lit (.int .u8 18), .lit (.int .u8 12), .lit (.int .u8 5), .lit (.int .u8 63), .lit (.int .u8 55), .lit (.int .u8 48), .lit (.int .u8 27), .lit (.int .u8 60), .lit (.int .u8 41), .lit (.int .u8 37), .lit (.int .u8 16), .lit (.int .u8 46), .lit (.int .u8 35), .lit (.int .u8 44), .lit (.int .u8 21), .lit (.int .u8 52), .lit (.int .u8 32), .lit (.int .u8 23), .lit (.int .u8 11), .lit (.int .u8 54), .lit (.int .u8 26), .lit (.int .u8 40), .lit (.int .u8 15), .lit (.int .u8 34), .lit (.int .u8 20), .lit (.int .u8 31), .lit (.int .u8 10), .lit (.int .u8 25), .lit (.int .u8 14), .lit (.int .u8 19), .lit (.int .u8 9), .lit (.int .u8 13), .lit (.int .u8 8), .lit (.int .u8 7), .lit (.int .u8 6)]
def laid_internal_strconv_uint64pow10 {H : Type} : DataW H := .agg [.lit (.int .u64 1), .lit (.int .u64 10), .lit (.int .u64 100), .lit (.int .u64 1000), .lit (.int .u64 10000), .lit (.int .u64 100000), .lit (.int .u64 1000000), .lit (.int .u64 10000000), .lit (.int .u64 100000000), .lit (.int .u64 1000000000), .lit (.int .u64 10000000000), .lit (.int .u64 100000000000), .lit (.int .u64 1000000000000), .lit (.int .u64 10000000000000), .lit (.int .u64 100000000000000), .lit (.int .u64 1000000000000000), .lit (.int .u64 10000000000000000), .lit (.int .u64 100000000000000000), .lit (.int .u64 1000000000000000000), .lit (.int .u64 10000000000000000000)]

/-- 'whittlelaw21.SeqMakes': WHATEVER THE INPUT: true; the input reads as it did. -/
def seqMakesSpec : ChangeSpec := { name := "seqMakes", fn := fun _ => fun
  | [d1, d2] => { results := [.lit (.bool true)], args := [d1, d2] }
  | _ => none }
def seqMakesRow : OpenClaim := { program := "ytchebnpdnfhenaagreatdoor", sum := "a11aed65ae6bd9adb900b952b690a73f2ed012349a3fdc042b62f56aa7c7dd9a", func := "whittle/whittlelaw21.SeqMakes", spec := "seqMakes", inPlace := ["internal/bytealg.abigen_runtime_cmpstring", "internal/abi.NoEscape"], unfollowed := true, recurses := true, named := ["internal/strconv.uint64pow10", "math/bits.deBruijn32tab", "math/bits.deBruijn64tab"], plainKeys := false, apart := false, laid := [("math/bits.deBruijn32tab", laid_math_bits_deBruijn32tab), ("math/bits.deBruijn64tab", laid_math_bits_deBruijn64tab), ("internal/strconv.uint64pow10", laid_internal_strconv_uint64pow10)] }
def SeqMakesSaid : Prop := seqMakesRow.holds Tryz.pinned (OpenSpec.ofChange seqMakesSpec)

/-- ITS FALSE NEIGHBOUR: 'it returns false'. Refute it at one input. -/
def seqMakesWrong : ChangeSpec := { name := "seqMakes", fn := fun _ => fun
  | [d1, d2] => { results := [.lit (.bool false)], args := [d1, d2] }
  | _ => none }
def SeqMakesWrongFalsely : Prop := seqMakesRow.holds Tryz.pinned (OpenSpec.ofChange seqMakesWrong)

/-- 'whittlelaw21.SeqRuns': WHATEVER THE INPUT: true; the input reads as it did. -/
def seqRunsSpec : ChangeSpec := { name := "seqRuns", fn := fun _ => fun
  | [d1, d2] => { results := [.lit (.bool true)], args := [d1, d2] }
  | _ => none }
def seqRunsRow : OpenClaim := { program := "ytchebnpdnfhenaagreatdoor", sum := "a11aed65ae6bd9adb900b952b690a73f2ed012349a3fdc042b62f56aa7c7dd9a", func := "whittle/whittlelaw21.SeqRuns", spec := "seqRuns", inPlace := ["internal/abi.NoEscape", "internal/bytealg.abigen_runtime_cmpstring"], unfollowed := true, recurses := true, named := ["internal/strconv.uint64pow10", "math/bits.deBruijn32tab", "math/bits.deBruijn64tab"], plainKeys := false, apart := false, laid := [("math/bits.deBruijn32tab", laid_math_bits_deBruijn32tab), ("math/bits.deBruijn64tab", laid_math_bits_deBruijn64tab), ("internal/strconv.uint64pow10", laid_internal_strconv_uint64pow10)] }
def SeqRunsSaid : Prop := seqRunsRow.holds Tryz.pinned (OpenSpec.ofChange seqRunsSpec)

/-- ITS FALSE NEIGHBOUR: 'it returns false'. Refute it at one input. -/
def seqRunsWrong : ChangeSpec := { name := "seqRuns", fn := fun _ => fun
  | [d1, d2] => { results := [.lit (.bool false)], args := [d1, d2] }
  | _ => none }
def SeqRunsWrongFalsely : Prop := seqRunsRow.holds Tryz.pinned (OpenSpec.ofChange seqRunsWrong)

/-- 'whittlelaw21.SeqRelates': WHATEVER THE INPUT: true; the input reads as it did. -/
def seqRelatesSpec : ChangeSpec := { name := "seqRelates", fn := fun _ => fun
  | [d1, d2, d3] => { results := [.lit (.bool true)], args := [d1, d2, d3] }
  | _ => none }
def seqRelatesRow : OpenClaim := { program := "ytchebnpdnfhenaagreatdoor", sum := "a11aed65ae6bd9adb900b952b690a73f2ed012349a3fdc042b62f56aa7c7dd9a", func := "whittle/whittlelaw21.SeqRelates", spec := "seqRelates", inPlace := ["internal/bytealg.abigen_runtime_cmpstring", "internal/abi.NoEscape"], unfollowed := true, recurses := true, named := ["internal/strconv.uint64pow10", "math/bits.deBruijn32tab", "math/bits.deBruijn64tab"], plainKeys := false, apart := false, laid := [("math/bits.deBruijn32tab", laid_math_bits_deBruijn32tab), ("math/bits.deBruijn64tab", laid_math_bits_deBruijn64tab), ("internal/strconv.uint64pow10", laid_internal_strconv_uint64pow10)] }
def SeqRelatesSaid : Prop := seqRelatesRow.holds Tryz.pinned (OpenSpec.ofChange seqRelatesSpec)

/-- ITS FALSE NEIGHBOUR: 'it returns false'. Refute it at one input. -/
def seqRelatesWrong : ChangeSpec := { name := "seqRelates", fn := fun _ => fun
  | [d1, d2, d3] => { results := [.lit (.bool false)], args := [d1, d2, d3] }
  | _ => none }
def SeqRelatesWrongFalsely : Prop := seqRelatesRow.holds Tryz.pinned (OpenSpec.ofChange seqRelatesWrong)

/-- 'whittlelaw21.SeqBack': WHATEVER THE INPUT: true; the input reads as it did. -/
def seqBackSpec : ChangeSpec := { name := "seqBack", fn := fun _ => fun
  | [d1, d2] => { results := [.lit (.bool true)], args := [d1, d2] }
  | _ => none }
def seqBackRow : OpenClaim := { program := "ytchebnpdnfhenaagreatdoor", sum := "a11aed65ae6bd9adb900b952b690a73f2ed012349a3fdc042b62f56aa7c7dd9a", func := "whittle/whittlelaw21.SeqBack", spec := "seqBack", inPlace := ["internal/bytealg.abigen_runtime_cmpstring", "internal/abi.NoEscape"], unfollowed := true, recurses := true, named := ["internal/strconv.uint64pow10", "math/bits.deBruijn32tab", "math/bits.deBruijn64tab"], plainKeys := false, apart := false, laid := [("math/bits.deBruijn32tab", laid_math_bits_deBruijn32tab), ("math/bits.deBruijn64tab", laid_math_bits_deBruijn64tab), ("internal/strconv.uint64pow10", laid_internal_strconv_uint64pow10)] }
def SeqBackSaid : Prop := seqBackRow.holds Tryz.pinned (OpenSpec.ofChange seqBackSpec)

/-- ITS FALSE NEIGHBOUR: 'it returns false'. Refute it at one input. -/
def seqBackWrong : ChangeSpec := { name := "seqBack", fn := fun _ => fun
  | [d1, d2] => { results := [.lit (.bool false)], args := [d1, d2] }
  | _ => none }
def SeqBackWrongFalsely : Prop := seqBackRow.holds Tryz.pinned (OpenSpec.ofChange seqBackWrong)

/-- 'whittlelaw21.SeqMany': WHATEVER THE INPUT: true; the input reads as it did. -/
def seqManySpec : ChangeSpec := { name := "seqMany", fn := fun _ => fun
  | [d1, d2] => { results := [.lit (.bool true)], args := [d1, d2] }
  | _ => none }
def seqManyRow : OpenClaim := { program := "ytchebnpdnfhenaagreatdoor", sum := "a11aed65ae6bd9adb900b952b690a73f2ed012349a3fdc042b62f56aa7c7dd9a", func := "whittle/whittlelaw21.SeqMany", spec := "seqMany", inPlace := ["internal/bytealg.abigen_runtime_cmpstring", "internal/abi.NoEscape"], unfollowed := true, recurses := true, named := ["internal/strconv.uint64pow10", "math/bits.deBruijn32tab", "math/bits.deBruijn64tab"], plainKeys := false, apart := false, laid := [("math/bits.deBruijn32tab", laid_math_bits_deBruijn32tab), ("math/bits.deBruijn64tab", laid_math_bits_deBruijn64tab), ("internal/strconv.uint64pow10", laid_internal_strconv_uint64pow10)] }
def SeqManySaid : Prop := seqManyRow.holds Tryz.pinned (OpenSpec.ofChange seqManySpec)

/-- ITS FALSE NEIGHBOUR: 'it returns false'. Refute it at one input. -/
def seqManyWrong : ChangeSpec := { name := "seqMany", fn := fun _ => fun
  | [d1, d2] => { results := [.lit (.bool false)], args := [d1, d2] }
  | _ => none }
def SeqManyWrongFalsely : Prop := seqManyRow.holds Tryz.pinned (OpenSpec.ofChange seqManyWrong)

/-- 'whittlelaw22.PushApart': WHATEVER THE INPUT: true; the input reads as it did. -/
def pushApartSpec : ChangeSpec := { name := "pushApart", fn := fun _ => fun
  | [d] => { results := [.lit (.bool true)], args := [d] }
  | _ => none }
def pushApartRow : OpenClaim := { program := "ytchebnpdnfhenaagreatdoor", sum := "a11aed65ae6bd9adb900b952b690a73f2ed012349a3fdc042b62f56aa7c7dd9a", func := "whittle/whittlelaw22.PushApart", spec := "pushApart", inPlace := ["internal/abi.NoEscape", "internal/bytealg.abigen_runtime_cmpstring"], unfollowed := true, recurses := true, named := ["internal/strconv.uint64pow10", "math/bits.deBruijn32tab", "math/bits.deBruijn64tab"], plainKeys := false, apart := false, laid := [("math/bits.deBruijn32tab", laid_math_bits_deBruijn32tab), ("math/bits.deBruijn64tab", laid_math_bits_deBruijn64tab), ("internal/strconv.uint64pow10", laid_internal_strconv_uint64pow10)] }
def PushApartSaid : Prop := pushApartRow.holds Tryz.pinned (OpenSpec.ofChange pushApartSpec)

/-- ITS FALSE NEIGHBOUR: 'it returns false'. Refute it at one input. -/
def pushApartWrong : ChangeSpec := { name := "pushApart", fn := fun _ => fun
  | [d] => { results := [.lit (.bool false)], args := [d] }
  | _ => none }
def PushApartWrongFalsely : Prop := pushApartRow.holds Tryz.pinned (OpenSpec.ofChange pushApartWrong)

/-- 'whittlelaw22.PushMakes': WHATEVER THE INPUT: true; the input reads as it did. -/
def pushMakesSpec : ChangeSpec := { name := "pushMakes", fn := fun _ => fun
  | [d] => { results := [.lit (.bool true)], args := [d] }
  | _ => none }
def pushMakesRow : OpenClaim := { program := "ytchebnpdnfhenaagreatdoor", sum := "a11aed65ae6bd9adb900b952b690a73f2ed012349a3fdc042b62f56aa7c7dd9a", func := "whittle/whittlelaw22.PushMakes", spec := "pushMakes", inPlace := ["internal/abi.NoEscape", "internal/bytealg.abigen_runtime_cmpstring"], unfollowed := true, recurses := true, named := ["internal/strconv.uint64pow10", "math/bits.deBruijn32tab", "math/bits.deBruijn64tab"], plainKeys := false, apart := false, laid := [("math/bits.deBruijn32tab", laid_math_bits_deBruijn32tab), ("math/bits.deBruijn64tab", laid_math_bits_deBruijn64tab), ("internal/strconv.uint64pow10", laid_internal_strconv_uint64pow10)] }
def PushMakesSaid : Prop := pushMakesRow.holds Tryz.pinned (OpenSpec.ofChange pushMakesSpec)

/-- ITS FALSE NEIGHBOUR: 'it returns false'. Refute it at one input. -/
def pushMakesWrong : ChangeSpec := { name := "pushMakes", fn := fun _ => fun
  | [d] => { results := [.lit (.bool false)], args := [d] }
  | _ => none }
def PushMakesWrongFalsely : Prop := pushMakesRow.holds Tryz.pinned (OpenSpec.ofChange pushMakesWrong)

/-- 'whittlelaw22.PushTells': WHATEVER THE INPUT: true; the input reads as it did. -/
def pushTellsSpec : ChangeSpec := { name := "pushTells", fn := fun _ => fun
  | [d1, d2] => { results := [.lit (.bool true)], args := [d1, d2] }
  | _ => none }
def pushTellsRow : OpenClaim := { program := "ytchebnpdnfhenaagreatdoor", sum := "a11aed65ae6bd9adb900b952b690a73f2ed012349a3fdc042b62f56aa7c7dd9a", func := "whittle/whittlelaw22.PushTells", spec := "pushTells", inPlace := ["internal/abi.NoEscape", "internal/bytealg.abigen_runtime_cmpstring"], unfollowed := true, recurses := true, named := ["internal/strconv.uint64pow10", "math/bits.deBruijn32tab", "math/bits.deBruijn64tab"], plainKeys := false, apart := false, laid := [("math/bits.deBruijn32tab", laid_math_bits_deBruijn32tab), ("math/bits.deBruijn64tab", laid_math_bits_deBruijn64tab), ("internal/strconv.uint64pow10", laid_internal_strconv_uint64pow10)] }
def PushTellsSaid : Prop := pushTellsRow.holds Tryz.pinned (OpenSpec.ofChange pushTellsSpec)

/-- ITS FALSE NEIGHBOUR: 'it returns false'. Refute it at one input. -/
def pushTellsWrong : ChangeSpec := { name := "pushTells", fn := fun _ => fun
  | [d1, d2] => { results := [.lit (.bool false)], args := [d1, d2] }
  | _ => none }
def PushTellsWrongFalsely : Prop := pushTellsRow.holds Tryz.pinned (OpenSpec.ofChange pushTellsWrong)

/-- 'whittlelaw22.PushRelates': WHATEVER THE INPUT: true; the input reads as it did. -/
def pushRelatesSpec : ChangeSpec := { name := "pushRelates", fn := fun _ => fun
  | [d1, d2] => { results := [.lit (.bool true)], args := [d1, d2] }
  | _ => none }
def pushRelatesRow : OpenClaim := { program := "ytchebnpdnfhenaagreatdoor", sum := "a11aed65ae6bd9adb900b952b690a73f2ed012349a3fdc042b62f56aa7c7dd9a", func := "whittle/whittlelaw22.PushRelates", spec := "pushRelates", inPlace := ["internal/abi.NoEscape", "internal/bytealg.abigen_runtime_cmpstring"], unfollowed := true, recurses := true, named := ["internal/strconv.uint64pow10", "math/bits.deBruijn32tab", "math/bits.deBruijn64tab"], plainKeys := false, apart := false, laid := [("math/bits.deBruijn32tab", laid_math_bits_deBruijn32tab), ("math/bits.deBruijn64tab", laid_math_bits_deBruijn64tab), ("internal/strconv.uint64pow10", laid_internal_strconv_uint64pow10)] }
def PushRelatesSaid : Prop := pushRelatesRow.holds Tryz.pinned (OpenSpec.ofChange pushRelatesSpec)

/-- ITS FALSE NEIGHBOUR: 'it returns false'. Refute it at one input. -/
def pushRelatesWrong : ChangeSpec := { name := "pushRelates", fn := fun _ => fun
  | [d1, d2] => { results := [.lit (.bool false)], args := [d1, d2] }
  | _ => none }
def PushRelatesWrongFalsely : Prop := pushRelatesRow.holds Tryz.pinned (OpenSpec.ofChange pushRelatesWrong)

/-- 'whittlelaw22.PushMade': WHATEVER THE INPUT: true; the input reads as it did. -/
def pushMadeSpec : ChangeSpec := { name := "pushMade", fn := fun _ => fun
  | [d1, d2] => { results := [.lit (.bool true)], args := [d1, d2] }
  | _ => none }
def pushMadeRow : OpenClaim := { program := "ytchebnpdnfhenaagreatdoor", sum := "a11aed65ae6bd9adb900b952b690a73f2ed012349a3fdc042b62f56aa7c7dd9a", func := "whittle/whittlelaw22.PushMade", spec := "pushMade", inPlace := ["internal/bytealg.abigen_runtime_cmpstring", "internal/abi.NoEscape"], unfollowed := true, recurses := true, named := ["internal/strconv.uint64pow10", "math/bits.deBruijn32tab", "math/bits.deBruijn64tab"], plainKeys := false, apart := false, laid := [("math/bits.deBruijn32tab", laid_math_bits_deBruijn32tab), ("math/bits.deBruijn64tab", laid_math_bits_deBruijn64tab), ("internal/strconv.uint64pow10", laid_internal_strconv_uint64pow10)] }
def PushMadeSaid : Prop := pushMadeRow.holds Tryz.pinned (OpenSpec.ofChange pushMadeSpec)

/-- ITS FALSE NEIGHBOUR: 'it returns false'. Refute it at one input. -/
def pushMadeWrong : ChangeSpec := { name := "pushMade", fn := fun _ => fun
  | [d1, d2] => { results := [.lit (.bool false)], args := [d1, d2] }
  | _ => none }
def PushMadeWrongFalsely : Prop := pushMadeRow.holds Tryz.pinned (OpenSpec.ofChange pushMadeWrong)

/- THE SECOND FORM. 'bulk': how many values and letters a reading holds, each counted each time it is reached (what is shared counts as often as it is met; a slice's spare places count too). A statement '..UptoSaid' is the law's where the arguments, and the package variables that the reading takes, are together of bulk at most 1048576: NARROWER than '..Said'. Prove '..Said' where nothing that the law and all that it calls make is longer than what came in: it says more and counts as full. Else prove '..UptoSaid'. A law counts once. -/
mutual
def uptoBulk {H : Type} : DataW H → Nat
  | .lit (.string bytes) => bytes.length + 1
  | .lit _ => 1
  | .nil => 1
  | .ptr d => uptoBulk d + 1
  | .slice elems spare => uptoBulkAll elems + uptoBulkAll spare + 1
  | .agg parts => uptoBulkAll parts + 1
  | .iface _ d => uptoBulk d + 1
  | .map entries => uptoBulkEntries entries + 1
  | .held _ => 1
def uptoBulkAll {H : Type} : List (DataW H) → Nat
  | [] => 0
  | d :: r => uptoBulk d + uptoBulkAll r
def uptoBulkEntries {H : Type} : List (Lit × DataW H) → Nat
  | [] => 0
  | x :: r => uptoBulkEntry x + uptoBulkEntries r
def uptoBulkEntry {H : Type} : Lit × DataW H → Nat
  | (.string bytes, d) => bytes.length + uptoBulk d + 1
  | (_, d) => uptoBulk d + 1
 end
def uptoSmall : (H : Type) → List (DataW H) → Bool := fun _ ds => decide (uptoBulkAll ds ≤ 1048576)
def OpenSpec.upto (s : _root_.Go.ChangeSpec) : _root_.Go.OpenSpec := { _root_.Go.OpenSpec.ofChange s with cond := some uptoSmall }

/-- 'whittlelaw21.SeqMakes', WHERE WHAT IT READS IS OF BULK AT MOST 1048576: true; the input reads as it did. -/
def seqMakesUptoRow : OpenClaim := { program := "ytchebnpdnfhenaagreatdoor", sum := "a11aed65ae6bd9adb900b952b690a73f2ed012349a3fdc042b62f56aa7c7dd9a", func := "whittle/whittlelaw21.SeqMakes", spec := "seqMakes", inPlace := ["internal/bytealg.abigen_runtime_cmpstring", "internal/abi.NoEscape"], unfollowed := true, recurses := true, named := ["internal/strconv.uint64pow10", "math/bits.deBruijn32tab", "math/bits.deBruijn64tab"], plainKeys := false, apart := false, laid := [("math/bits.deBruijn32tab", laid_math_bits_deBruijn32tab), ("math/bits.deBruijn64tab", laid_math_bits_deBruijn64tab), ("internal/strconv.uint64pow10", laid_internal_strconv_uint64pow10)], narrowed := true }
def SeqMakesUptoSaid : Prop := seqMakesUptoRow.holds Tryz.pinned (OpenSpec.upto seqMakesSpec)

/-- 'whittlelaw21.SeqRuns', WHERE WHAT IT READS IS OF BULK AT MOST 1048576: true; the input reads as it did. -/
def seqRunsUptoRow : OpenClaim := { program := "ytchebnpdnfhenaagreatdoor", sum := "a11aed65ae6bd9adb900b952b690a73f2ed012349a3fdc042b62f56aa7c7dd9a", func := "whittle/whittlelaw21.SeqRuns", spec := "seqRuns", inPlace := ["internal/abi.NoEscape", "internal/bytealg.abigen_runtime_cmpstring"], unfollowed := true, recurses := true, named := ["internal/strconv.uint64pow10", "math/bits.deBruijn32tab", "math/bits.deBruijn64tab"], plainKeys := false, apart := false, laid := [("math/bits.deBruijn32tab", laid_math_bits_deBruijn32tab), ("math/bits.deBruijn64tab", laid_math_bits_deBruijn64tab), ("internal/strconv.uint64pow10", laid_internal_strconv_uint64pow10)], narrowed := true }
def SeqRunsUptoSaid : Prop := seqRunsUptoRow.holds Tryz.pinned (OpenSpec.upto seqRunsSpec)

/-- 'whittlelaw21.SeqRelates', WHERE WHAT IT READS IS OF BULK AT MOST 1048576: true; the input reads as it did. -/
def seqRelatesUptoRow : OpenClaim := { program := "ytchebnpdnfhenaagreatdoor", sum := "a11aed65ae6bd9adb900b952b690a73f2ed012349a3fdc042b62f56aa7c7dd9a", func := "whittle/whittlelaw21.SeqRelates", spec := "seqRelates", inPlace := ["internal/bytealg.abigen_runtime_cmpstring", "internal/abi.NoEscape"], unfollowed := true, recurses := true, named := ["internal/strconv.uint64pow10", "math/bits.deBruijn32tab", "math/bits.deBruijn64tab"], plainKeys := false, apart := false, laid := [("math/bits.deBruijn32tab", laid_math_bits_deBruijn32tab), ("math/bits.deBruijn64tab", laid_math_bits_deBruijn64tab), ("internal/strconv.uint64pow10", laid_internal_strconv_uint64pow10)], narrowed := true }
def SeqRelatesUptoSaid : Prop := seqRelatesUptoRow.holds Tryz.pinned (OpenSpec.upto seqRelatesSpec)

/-- 'whittlelaw21.SeqBack', WHERE WHAT IT READS IS OF BULK AT MOST 1048576: true; the input reads as it did. -/
def seqBackUptoRow : OpenClaim := { program := "ytchebnpdnfhenaagreatdoor", sum := "a11aed65ae6bd9adb900b952b690a73f2ed012349a3fdc042b62f56aa7c7dd9a", func := "whittle/whittlelaw21.SeqBack", spec := "seqBack", inPlace := ["internal/bytealg.abigen_runtime_cmpstring", "internal/abi.NoEscape"], unfollowed := true, recurses := true, named := ["internal/strconv.uint64pow10", "math/bits.deBruijn32tab", "math/bits.deBruijn64tab"], plainKeys := false, apart := false, laid := [("math/bits.deBruijn32tab", laid_math_bits_deBruijn32tab), ("math/bits.deBruijn64tab", laid_math_bits_deBruijn64tab), ("internal/strconv.uint64pow10", laid_internal_strconv_uint64pow10)], narrowed := true }
def SeqBackUptoSaid : Prop := seqBackUptoRow.holds Tryz.pinned (OpenSpec.upto seqBackSpec)

/-- 'whittlelaw21.SeqMany', WHERE WHAT IT READS IS OF BULK AT MOST 1048576: true; the input reads as it did. -/
def seqManyUptoRow : OpenClaim := { program := "ytchebnpdnfhenaagreatdoor", sum := "a11aed65ae6bd9adb900b952b690a73f2ed012349a3fdc042b62f56aa7c7dd9a", func := "whittle/whittlelaw21.SeqMany", spec := "seqMany", inPlace := ["internal/bytealg.abigen_runtime_cmpstring", "internal/abi.NoEscape"], unfollowed := true, recurses := true, named := ["internal/strconv.uint64pow10", "math/bits.deBruijn32tab", "math/bits.deBruijn64tab"], plainKeys := false, apart := false, laid := [("math/bits.deBruijn32tab", laid_math_bits_deBruijn32tab), ("math/bits.deBruijn64tab", laid_math_bits_deBruijn64tab), ("internal/strconv.uint64pow10", laid_internal_strconv_uint64pow10)], narrowed := true }
def SeqManyUptoSaid : Prop := seqManyUptoRow.holds Tryz.pinned (OpenSpec.upto seqManySpec)

/-- 'whittlelaw22.PushApart', WHERE WHAT IT READS IS OF BULK AT MOST 1048576: true; the input reads as it did. -/
def pushApartUptoRow : OpenClaim := { program := "ytchebnpdnfhenaagreatdoor", sum := "a11aed65ae6bd9adb900b952b690a73f2ed012349a3fdc042b62f56aa7c7dd9a", func := "whittle/whittlelaw22.PushApart", spec := "pushApart", inPlace := ["internal/abi.NoEscape", "internal/bytealg.abigen_runtime_cmpstring"], unfollowed := true, recurses := true, named := ["internal/strconv.uint64pow10", "math/bits.deBruijn32tab", "math/bits.deBruijn64tab"], plainKeys := false, apart := false, laid := [("math/bits.deBruijn32tab", laid_math_bits_deBruijn32tab), ("math/bits.deBruijn64tab", laid_math_bits_deBruijn64tab), ("internal/strconv.uint64pow10", laid_internal_strconv_uint64pow10)], narrowed := true }
def PushApartUptoSaid : Prop := pushApartUptoRow.holds Tryz.pinned (OpenSpec.upto pushApartSpec)

/-- 'whittlelaw22.PushMakes', WHERE WHAT IT READS IS OF BULK AT MOST 1048576: true; the input reads as it did. -/
def pushMakesUptoRow : OpenClaim := { program := "ytchebnpdnfhenaagreatdoor", sum := "a11aed65ae6bd9adb900b952b690a73f2ed012349a3fdc042b62f56aa7c7dd9a", func := "whittle/whittlelaw22.PushMakes", spec := "pushMakes", inPlace := ["internal/abi.NoEscape", "internal/bytealg.abigen_runtime_cmpstring"], unfollowed := true, recurses := true, named := ["internal/strconv.uint64pow10", "math/bits.deBruijn32tab", "math/bits.deBruijn64tab"], plainKeys := false, apart := false, laid := [("math/bits.deBruijn32tab", laid_math_bits_deBruijn32tab), ("math/bits.deBruijn64tab", laid_math_bits_deBruijn64tab), ("internal/strconv.uint64pow10", laid_internal_strconv_uint64pow10)], narrowed := true }
def PushMakesUptoSaid : Prop := pushMakesUptoRow.holds Tryz.pinned (OpenSpec.upto pushMakesSpec)

/-- 'whittlelaw22.PushTells', WHERE WHAT IT READS IS OF BULK AT MOST 1048576: true; the input reads as it did. -/
def pushTellsUptoRow : OpenClaim := { program := "ytchebnpdnfhenaagreatdoor", sum := "a11aed65ae6bd9adb900b952b690a73f2ed012349a3fdc042b62f56aa7c7dd9a", func := "whittle/whittlelaw22.PushTells", spec := "pushTells", inPlace := ["internal/abi.NoEscape", "internal/bytealg.abigen_runtime_cmpstring"], unfollowed := true, recurses := true, named := ["internal/strconv.uint64pow10", "math/bits.deBruijn32tab", "math/bits.deBruijn64tab"], plainKeys := false, apart := false, laid := [("math/bits.deBruijn32tab", laid_math_bits_deBruijn32tab), ("math/bits.deBruijn64tab", laid_math_bits_deBruijn64tab), ("internal/strconv.uint64pow10", laid_internal_strconv_uint64pow10)], narrowed := true }
def PushTellsUptoSaid : Prop := pushTellsUptoRow.holds Tryz.pinned (OpenSpec.upto pushTellsSpec)

/-- 'whittlelaw22.PushRelates', WHERE WHAT IT READS IS OF BULK AT MOST 1048576: true; the input reads as it did. -/
def pushRelatesUptoRow : OpenClaim := { program := "ytchebnpdnfhenaagreatdoor", sum := "a11aed65ae6bd9adb900b952b690a73f2ed012349a3fdc042b62f56aa7c7dd9a", func := "whittle/whittlelaw22.PushRelates", spec := "pushRelates", inPlace := ["internal/abi.NoEscape", "internal/bytealg.abigen_runtime_cmpstring"], unfollowed := true, recurses := true, named := ["internal/strconv.uint64pow10", "math/bits.deBruijn32tab", "math/bits.deBruijn64tab"], plainKeys := false, apart := false, laid := [("math/bits.deBruijn32tab", laid_math_bits_deBruijn32tab), ("math/bits.deBruijn64tab", laid_math_bits_deBruijn64tab), ("internal/strconv.uint64pow10", laid_internal_strconv_uint64pow10)], narrowed := true }
def PushRelatesUptoSaid : Prop := pushRelatesUptoRow.holds Tryz.pinned (OpenSpec.upto pushRelatesSpec)

/-- 'whittlelaw22.PushMade', WHERE WHAT IT READS IS OF BULK AT MOST 1048576: true; the input reads as it did. -/
def pushMadeUptoRow : OpenClaim := { program := "ytchebnpdnfhenaagreatdoor", sum := "a11aed65ae6bd9adb900b952b690a73f2ed012349a3fdc042b62f56aa7c7dd9a", func := "whittle/whittlelaw22.PushMade", spec := "pushMade", inPlace := ["internal/bytealg.abigen_runtime_cmpstring", "internal/abi.NoEscape"], unfollowed := true, recurses := true, named := ["internal/strconv.uint64pow10", "math/bits.deBruijn32tab", "math/bits.deBruijn64tab"], plainKeys := false, apart := false, laid := [("math/bits.deBruijn32tab", laid_math_bits_deBruijn32tab), ("math/bits.deBruijn64tab", laid_math_bits_deBruijn64tab), ("internal/strconv.uint64pow10", laid_internal_strconv_uint64pow10)], narrowed := true }
def PushMadeUptoSaid : Prop := pushMadeUptoRow.holds Tryz.pinned (OpenSpec.upto pushMadeSpec)

end Rows
end Go.Proofs.YtchebnpdnfhenaaGreatDoor
