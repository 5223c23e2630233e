/- More plain data, and how they lie in cells. No program, no condition. -/
import Derived.Test.YtpijipnmfkehcaaDec8
set_option linter.unusedVariables false
set_option linter.unusedSimpArgs false
namespace Go.E
open Go

structure Tip where
  state : Int
  out : List UInt8
  deriving DecidableEq
def Tip.zero : Tip := ⟨0, []⟩
def encTip (x : Tip) : List Value := [.int .i64 x.state, .string (bs x.out)]
theorem encTip_len (x : Tip) : (encTip x).length = 2 := rfl
theorem encTip_one : ∀ x, ∀ u ∈ encTip x, u.oneCell' = true := fun x u hu => by
  simp [encTip] at hu
  rcases hu with rfl | rfl <;> rfl
theorem encTip_bits : ∀ x, ∀ u ∈ encTip x, Bits u := fun x u hu => by
  simp [encTip] at hu
  rcases hu with rfl | rfl <;> first | exact Bits.int _ _ | exact Bits.str _ | exact Bits.bool _
structure Arc where
  frm : Int
  to : Int
  set : BSet
  out : List UInt8
  copy : Bool
  deriving DecidableEq
def Arc.zero : Arc := ⟨0, 0, BSet.zero, [], false⟩
def encArc (x : Arc) : List Value := [.int .i64 x.frm, .int .i64 x.to, .int .u64 ((x.set.a : Nat) : Int), .int .u64 ((x.set.b : Nat) : Int), .int .u64 ((x.set.c : Nat) : Int), .int .u64 ((x.set.d : Nat) : Int), .string (bs x.out), .bool x.copy]
theorem encArc_len (x : Arc) : (encArc x).length = 8 := rfl
theorem encArc_one : ∀ x, ∀ u ∈ encArc x, u.oneCell' = true := fun x u hu => by
  simp [encArc] at hu
  rcases hu with rfl | rfl | rfl | rfl | rfl | rfl | rfl | rfl <;> rfl
theorem encArc_bits : ∀ x, ∀ u ∈ encArc x, Bits u := fun x u hu => by
  simp [encArc] at hu
  rcases hu with rfl | rfl | rfl | rfl | rfl | rfl | rfl | rfl <;> first | exact Bits.int _ _ | exact Bits.str _ | exact Bits.bool _
structure FPair where
  state : Int
  out : List UInt8
  deriving DecidableEq
def FPair.zero : FPair := ⟨0, []⟩
def encFPair (x : FPair) : List Value := [.int .i64 x.state, .string (bs x.out)]
theorem encFPair_len (x : FPair) : (encFPair x).length = 2 := rfl
theorem encFPair_one : ∀ x, ∀ u ∈ encFPair x, u.oneCell' = true := fun x u hu => by
  simp [encFPair] at hu
  rcases hu with rfl | rfl <;> rfl
theorem encFPair_bits : ∀ x, ∀ u ∈ encFPair x, Bits u := fun x u hu => by
  simp [encFPair] at hu
  rcases hu with rfl | rfl <;> first | exact Bits.int _ _ | exact Bits.str _ | exact Bits.bool _
structure Span where
  frm : Int
  to : Int
  deriving DecidableEq
def Span.zero : Span := ⟨0, 0⟩
def encSpan (x : Span) : List Value := [.int .i64 x.frm, .int .i64 x.to]
theorem encSpan_len (x : Span) : (encSpan x).length = 2 := rfl
theorem encSpan_one : ∀ x, ∀ u ∈ encSpan x, u.oneCell' = true := fun x u hu => by
  simp [encSpan] at hu
  rcases hu with rfl | rfl <;> rfl
theorem encSpan_bits : ∀ x, ∀ u ∈ encSpan x, Bits u := fun x u hu => by
  simp [encSpan] at hu
  rcases hu with rfl | rfl <;> first | exact Bits.int _ _ | exact Bits.str _ | exact Bits.bool _
/-- A transducer. -/
structure Fst where
  states : Int
  starts : List Tip
  ends : List Tip
  arcs : List Arc
  deriving DecidableEq
def Fst.zero : Fst := ⟨0, [], [], []⟩
end Go.E
