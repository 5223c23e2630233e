/- Expressions, one level deep. No program, no condition. -/
import Derived.Test.YtpijipnmfkehcaaData2
set_option linter.unusedVariables false
set_option linter.unusedSimpArgs false
namespace Go.E
open Go
/-- An expression without parts. -/
structure ReLeaf where
  kind : Int
  text : List UInt8
  set : BSet
  min : Int
  max : Int
  deriving DecidableEq
def ReLeaf.zero : ReLeaf := ⟨0, [], BSet.zero, 0, 0⟩
def encReLeaf (x : ReLeaf) : List Value := [.int .i64 x.kind, .string (bs x.text), .int .u64 ((x.set.a : Nat) : Int), .int .u64 ((x.set.b : Nat) : Int), .int .u64 ((x.set.c : Nat) : Int), .int .u64 ((x.set.d : Nat) : Int), .slice none 0 0, .int .i64 x.min, .int .i64 x.max]
theorem encReLeaf_len (x : ReLeaf) : (encReLeaf x).length = 9 := rfl
theorem encReLeaf_one : ∀ x, ∀ u ∈ encReLeaf x, u.oneCell' = true := fun x u hu => by
  simp [encReLeaf] at hu
  rcases hu with rfl | rfl | rfl | rfl | rfl | rfl | rfl | rfl | rfl <;> rfl
/-- An expression whose parts have none. -/
structure ReRoot where
  kind : Int
  text : List UInt8
  set : BSet
  parts : List ReLeaf
  min : Int
  max : Int
def ReRoot.zero : ReRoot := ⟨0, [], BSet.zero, [], 0, 0⟩
end Go.E
