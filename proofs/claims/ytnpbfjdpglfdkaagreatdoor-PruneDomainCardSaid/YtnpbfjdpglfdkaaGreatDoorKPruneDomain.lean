/- PruneDomain: for every input the law returns true, and each argument reads afterwards as it read before. No condition of ours. -/
import Derived.Test.YtnpbfjdpglfdkaaGreatDoorB0b137539b5
import Derived.Test.YtnpbfjdpglfdkaaGreatDoorBbad72b773d
import Derived.Test.YtnpbfjdpglfdkaaGreatDoorBa9cdb4c34f
import Derived.Test.YtnpbfjdpglfdkaaGreatDoorB58afe07671
import Derived.Test.YtnpbfjdpglfdkaaGreatDoorBcf68ad5dfc
import Derived.KernelRfl
import Derived.Shelf.SlSortCmp.NoneTotal
import Derived.Shelf.Sort.Plain
import Derived.Shelf.SlLaysZI
import Derived.Test.YtnpbfjdpglfdkaaGreatDoorChecked
import Derived.CallsIn
import Derived.RunT
import Derived.Shelf.SlIterI.Sorted
import Derived.Shelf.SlIterI.Nil
import Derived.WideReads
import Derived.LaidMore
import Derived.OpenShut
import Derived.MakeChecks
import Derived.Test.YtnpbfjdpglfdkaaGreatDoorRows
import Derived.WalkKit
import Derived.ProofKit
import Derived.ShutString
import Derived.ChangeOld
import Derived.SizedLaws
import Derived.Below
import Derived.Test.YtnpbfjdpglfdkaaGreatDoorTie
import Derived.Test.YtnpbfjdpglfdkaaGreatDoorCards
import Derived.SevenTiedAt
import Derived.Stop.Joined

set_option linter.unusedVariables false
set_option linter.unusedSimpArgs false
set_option linter.unusedSectionVars false
set_option maxRecDepth 100000

section
namespace Go.Proofs.YtnpbfjdpglfdkaaGreatDoor
open Go Go.E
set_option synthInstance.maxHeartbeats 2000000
set_option synthInstance.maxSize 100000
set_option maxHeartbeats 4000000
def Ei_ (n : Nat) (k125 : Nat) (l128 : List Int) (k130 : Nat) : Option (((List Int) × Nat × Nat) ⊕ ((Nat) ⊕ ((List Int)))) :=
  nxt (l128, k130, (k125 + 1))
instance compactI_j1_le {n : Nat} {k125 : Nat} {l128 : List Int} {k130 : Nat} : LeC (Ei_ n k125 l128 k130) (Dm_ k125 l128 k130) := by
  unfold Ei_ Dm_; infer_instance
def F3_ (n : Nat) (x0 : List Int) (k105 : Nat) (l122 : List Int) (k124 : Nat) (k125 : Nat) : Option (((List Int) × Nat × Nat) ⊕ ((Nat) ⊕ ((List Int)))) :=
  iteO (decide (((k125 : Nat) : Int) < (((x0.length - k105) : Nat) : Int))) (grd (k125 < (x0.length - k105)) (grd (0 ≤ (IntKind.i64.wrap (((k125 : Nat) : Int) - 1)) ∧ (IntKind.i64.wrap (((k125 : Nat) : Int) - 1)) < ((x0.length - k105) : Nat)) (iteO (decide ((nth l122 (k105 + k125) (0 : Int)) ≠ (nth l122 (k105 + (IntKind.i64.wrap (((k125 : Nat) : Int) - 1)).toNat) (0 : Int)))) (grd (k125 < (x0.length - k105)) (grd (k124 < l122.length) (Ei_ n k125 (l122.set k124 (nth l122 (k105 + k125) (0 : Int))) (k124 + 1)))) (Ei_ n k125 l122 k124)))) (fin (grd (k124 ≤ x0.length) (grd (k124 ≤ (l122.take k124 ++ List.replicate (l122.length - k124) (0 : Int)).length) (fin (some ((l122.take k124 ++ List.replicate (l122.length - k124) (0 : Int)).take k124))))))
instance compactI_b2_le {n : Nat} {x0 : List Int} {k105 : Nat} {l122 : List Int} {k124 : Nat} {k125 : Nat} : LeC (F3_ n x0 k105 l122 k124 k125) (Dp_ x0 k105 l122 k124 k125) := by
  unfold F3_ Dp_; infer_instance
def F1_ (n : Nat) (x0 : List Int) (k105 : Nat) : Option ((Nat) ⊕ ((List Int))) :=
  iteO (decide (((k105 : Nat) : Int) < ((x0.length : Nat) : Int))) (grd (0 ≤ (IntKind.i64.wrap (((k105 : Nat) : Int) - 1)) ∧ (IntKind.i64.wrap (((k105 : Nat) : Int) - 1)) < (x0.length : Int)) (iteO (decide ((nth x0 k105 (0 : Int)) = (nth x0 ((IntKind.i64.wrap (((k105 : Nat) : Int) - 1)).toNat) (0 : Int)))) (grd (k105 ≤ x0.length) (iterX n (fun q : (List Int) × Nat × Nat => F3_ n x0 k105 q.1 q.2.1 q.2.2) (x0, k105, 1))) (nxt (k105 + 1)))) (fin (some x0))
instance compactI_b1_le {n : Nat} {x0 : List Int} {k105 : Nat} : LeC (F1_ n x0 k105) (Do_ x0 k105) := by
  unfold F1_ Do_; infer_instance
def G5_ (n : Nat) (x0 : List Int) : Option ((List Int)) :=
  iteO (decide (((x0.length : Nat) : Int) < 2)) (some x0) (iterX n (fun q : Nat => F1_ n x0 q) 1)
instance compactI_le {n : Nat} {x0 : List Int} : LeC (G5_ n x0) (compactI x0) := by
  unfold G5_ compactI; infer_instance
def intern_Sort_x (n : Nat) (x0 : List Int) : Option ((List Int)) :=
  grd (x0.length * 8 ≤ 140737488355328) (bnd (G5_ n (isortI x0)) (fun v8 => some v8))
instance intern_Sort_le {n : Nat} {x0 : List Int} : LeC (intern_Sort_x n x0) (intern_Sort x0) := by
  unfold intern_Sort_x intern_Sort; simp only [isortI_eq]; infer_instance
def intern_key_b2_x (n : Nat) (x0 : List Int) (k115 : Nat) (l126 : List UInt8) (k129 : Nat) : Option (((List UInt8) × Nat) ⊕ (((List UInt8) × Nat) ⊕ ((List UInt8)))) :=
  iteO (decide (((k129 : Nat) : Int) < 8)) (grd (0 ≤ IntKind.i64.wrap (8 * ((k129 : Nat) : Int))) (grd ((l126.length + [(toU8 (((u64shr (u64of (nth x0 k115 (0 : Int))) ((IntKind.i64.wrap (8 * ((k129 : Nat) : Int))).toNat)) : Nat) : Int))].length) * 1 ≤ 140737488355328) (nxt ((l126 ++ [(toU8 (((u64shr (u64of (nth x0 k115 (0 : Int))) ((IntKind.i64.wrap (8 * ((k129 : Nat) : Int))).toNat)) : Nat) : Int))]), (k129 + 1))))) (fin (nxt (l126, (k115 + 1))))
instance intern_key_b2_le {n : Nat} {x0 : List Int} {k115 : Nat} {l126 : List UInt8} {k129 : Nat} : LeC (intern_key_b2_x n x0 k115 l126 k129) (intern_key_b2 x0 k115 l126 k129) := by
  unfold intern_key_b2_x intern_key_b2; infer_instance
def intern_key_b1_x (n : Nat) (x0 : List Int) (l112 : List UInt8) (k115 : Nat) : Option (((List UInt8) × Nat) ⊕ ((List UInt8))) :=
  iteO (decide (((k115 : Nat) : Int) < ((x0.length : Nat) : Int))) (iterX n (fun q : (List UInt8) × Nat => intern_key_b2_x n x0 k115 q.1 q.2) (l112, 0)) (fin (some l112))
instance intern_key_b1_le {n : Nat} {x0 : List Int} {l112 : List UInt8} {k115 : Nat} : LeC (intern_key_b1_x n x0 l112 k115) (intern_key_b1 x0 l112 k115) := by
  unfold intern_key_b1_x intern_key_b1; infer_instance
def intern_key_x (n : Nat) (x0 : List Int) : Option ((List UInt8)) :=
  grd (0 ≤ IntKind.i64.wrap (8 * ((x0.length : Nat) : Int)) ∧ 1 * (IntKind.i64.wrap (8 * ((x0.length : Nat) : Int))).toNat ≤ 281474976710656) (iterX n (fun q : (List UInt8) × Nat => intern_key_b1_x n x0 q.1 q.2) (([] : List UInt8), 0))
instance intern_key_le {n : Nat} {x0 : List Int} : LeC (intern_key_x n x0) (intern_key x0) := by
  unfold intern_key_x intern_key; infer_instance
def intern_store_string_find_x (n : Nat) (x0 : IStore) (x1 : List UInt8) : Option (Int × Bool) :=
  grd (x1.length ≤ 281474976710656) (some ((x0.places.get x1 0), (x0.places.has x1)))
instance intern_store_string_find_le {n : Nat} {x0 : IStore} {x1 : List UInt8} : LeC (intern_store_string_find_x n x0 x1) (intern_store_string_find x0 x1) := by
  unfold intern_store_string_find_x intern_store_string_find; infer_instance
def intern_store_string_add_x (n : Nat) (x0 : IStore) (x1 : List UInt8) (x2 : List Int) : Option (Int × IStore) :=
  grd (x1.length ≤ 281474976710656) (grd ((x0.rows.length + [x2].length) * 24 ≤ 140737488355328) (some (((x0.rows.length : Nat) : Int), (⟨(x0.rows ++ [x2]), (x0.places.put x1 ((x0.rows.length : Nat) : Int))⟩ : IStore))))
instance intern_store_string_add_le {n : Nat} {x0 : IStore} {x1 : List UInt8} {x2 : List Int} : LeC (intern_store_string_add_x n x0 x1 x2) (intern_store_string_add x0 x1 x2) := by
  unfold intern_store_string_add_x intern_store_string_add; infer_instance
def intern_New_x (n : Nat) : Option (ITable) :=
  some (⟨(⟨([] : List (List Int)), (FM.emp : FM (List UInt8) Int)⟩ : IStore)⟩ : ITable)
instance intern_New_le {n : Nat}  : LeC (intern_New_x n) (intern_New) := by
  unfold intern_New_x intern_New; infer_instance
def intern_Table_Put_x (n : Nat) (x0 : ITable) (x1 : List Int) : Option (Int × Bool × Int × ITable) :=
  bnd (intern_Sort_x n x1) (fun v10 => bnd (intern_key_x n v10) (fun v13 => bnd (intern_store_string_find_x n (⟨x0.of.rows, x0.of.places⟩ : IStore) v13) (fun v19 => iteO v19.2 (some (v19.1, false, 0, (⟨(⟨x0.of.rows, x0.of.places⟩ : IStore)⟩ : ITable))) (iteO (decide (4096 ≤ ((x0.of.rows.length : Nat) : Int))) (some (0, false, 2, (⟨(⟨x0.of.rows, x0.of.places⟩ : IStore)⟩ : ITable))) (bnd (intern_store_string_add_x n (⟨x0.of.rows, x0.of.places⟩ : IStore) v13 v10) (fun v45 => some (v45.1, true, 0, (⟨(⟨v45.2.rows, v45.2.places⟩ : IStore)⟩ : ITable))))))))
instance intern_Table_Put_le {n : Nat} {x0 : ITable} {x1 : List Int} : LeC (intern_Table_Put_x n x0 x1) (intern_Table_Put x0 x1) := by
  unfold intern_Table_Put_x intern_Table_Put; infer_instance
def intern_Table_Row_x (n : Nat) (x0 : ITable) (x1 : Int) : Option ((List Int) × Int) :=
  iteO (decide (x1 < 0)) (some (([] : List Int), 1)) (iteO (decide (((x0.of.rows.length : Nat) : Int) ≤ x1)) (some (([] : List Int), 1)) (grd (0 ≤ x1 ∧ x1 < (x0.of.rows.length : Int)) (grd ((nth x0.of.rows x1.toNat ([] : List Int)).length * 8 ≤ 140737488355328) (some ((nth x0.of.rows x1.toNat ([] : List Int)), 0)))))
instance intern_Table_Row_le {n : Nat} {x0 : ITable} {x1 : Int} : LeC (intern_Table_Row_x n x0 x1) (intern_Table_Row x0 x1) := by
  unfold intern_Table_Row_x intern_Table_Row; infer_instance
def putKeep_x (n : Nat) (x0 : ITable) (x1 : List Int) : Option (Int × Bool × Int × ITable) :=
  bnd (intern_Sort_x n x1) (fun v10 => bnd (intern_key_x n v10) (fun v13 => bnd (intern_store_string_find_x n (⟨x0.of.rows, x0.of.places⟩ : IStore) v13) (fun v19 => iteO v19.2 (some (v19.1, false, 0, (⟨(⟨x0.of.rows, x0.of.places⟩ : IStore)⟩ : ITable))) (iteO (decide (4096 ≤ ((x0.of.rows.length : Nat) : Int))) (some (0, false, 2, (⟨(⟨x0.of.rows, x0.of.places⟩ : IStore)⟩ : ITable))) (bnd (intern_store_string_add_x n (⟨x0.of.rows, x0.of.places⟩ : IStore) v13 v10) (fun v45 => some (v45.1, true, 0, (⟨(⟨v45.2.rows, v45.2.places⟩ : IStore)⟩ : ITable))))))))
instance putKeep_le {n : Nat} {x0 : ITable} {x1 : List Int} : LeC (putKeep_x n x0 x1) (putKeep x0 x1) := by
  unfold putKeep_x putKeep; infer_instance
def intern_Table_Size_x (n : Nat) (x0 : ITable) : Option (Int) :=
  some ((x0.of.rows.length : Nat) : Int)
instance intern_Table_Size_le {n : Nat} {x0 : ITable} : LeC (intern_Table_Size_x n x0) (intern_Table_Size x0) := by
  unfold intern_Table_Size_x intern_Table_Size; infer_instance
def B7_ (n : Nat) (x0 : Nat) : Option (Int) :=
  iteO (decide (x0 = 0)) (some 64) (grd ((u64shr (u64mul (u64and x0 (u64of (-((x0 : Nat) : Int)))) 285870213051353865) 58) < 64) (some (((nth deB (u64shr (u64mul (u64and x0 (u64of (-((x0 : Nat) : Int)))) 285870213051353865) 58) (0 : UInt8)).toNat : Nat) : Int)))
instance math_bits_TrailingZeros64_le {n : Nat} {x0 : Nat} : LeC (B7_ n x0) (Ae_ x0) := by
  unfold B7_ Ae_; infer_instance
def Fa_ (n : Nat) (x0 : BSet) (k105 : Nat) : Option ((Nat) ⊕ (UInt8 × Bool)) :=
  iteO (decide (((k105 : Nat) : Int) < 4)) (grd (k105 < 4) (iteO (decide ((BSet.word x0 k105) ≠ 0)) (bnd (B7_ n (BSet.word x0 k105)) (fun v16 => fin (some ((toU8 (IntKind.i64.wrap ((IntKind.i64.wrap (64 * ((k105 : Nat) : Int))) + v16))), true)))) (nxt (k105 + 1)))) (fin (some ((0 : UInt8), false)))
instance set_First_b1_le {n : Nat} {x0 : BSet} {k105 : Nat} : LeC (Fa_ n x0 k105) (Ag_ x0 k105) := by
  unfold Fa_ Ag_; infer_instance
def Fm_ (n : Nat) (x0 : BSet) : Option (UInt8 × Bool) :=
  iterX n (fun q : Nat => Fa_ n x0 q) 0
instance set_First_le {n : Nat} {x0 : BSet} : LeC (Fm_ n x0) (B2_ x0) := by
  unfold Fm_ B2_; infer_instance
def Gd_ (n : Nat) (x1 : BSet) (z111 : BSet) (k112 : Nat) : Option ((BSet × Nat) ⊕ (BSet)) :=
  iteO (decide (((k112 : Nat) : Int) < 4)) (grd (k112 < 4) (grd (k112 < 4) (grd (k112 < 4) (grd ((u64or (BSet.word z111 k112) (BSet.word x1 k112)) < 18446744073709551616) (nxt ((BSet.setWord z111 k112 (u64or (BSet.word z111 k112) (BSet.word x1 k112))), (k112 + 1))))))) (fin (some z111))
instance set_Any_b1_le {n : Nat} {x1 : BSet} {z111 : BSet} {k112 : Nat} : LeC (Gd_ n x1 z111 k112) (Bs_ x1 z111 k112) := by
  unfold Gd_ Bs_; infer_instance
def Gm_ (n : Nat) (x0 : BSet) (x1 : BSet) : Option (BSet) :=
  iterX n (fun q : BSet × Nat => Gd_ n x1 q.1 q.2) (x0, 0)
instance set_Any_le {n : Nat} {x0 : BSet} {x1 : BSet} : LeC (Gm_ n x0 x1) (Eb_ x0 x1) := by
  unfold Gm_ Eb_; infer_instance
def Ek_ (n : Nat) (k112 : Nat) (l115 : List UInt8) : Option (((List UInt8) × Nat) ⊕ ((List UInt8))) :=
  nxt (l115, (k112 + 1))
instance part_key_j1_le {n : Nat} {k112 : Nat} {l115 : List UInt8} : LeC (Ek_ n k112 l115) (Cz_ k112 l115) := by
  unfold Ek_ Cz_; infer_instance
def F0_ (n : Nat) (x0 : List BSet) (x1 : UInt8) (l110 : List UInt8) (k112 : Nat) : Option (((List UInt8) × Nat) ⊕ ((List UInt8))) :=
  iteO (decide (((k112 : Nat) : Int) < ((x0.length : Nat) : Int))) (iteO ((nth x0 k112 BSet.zero).has x1.toNat) (grd (k112 < l110.length) (Ek_ n k112 (l110.set k112 (1 : UInt8)))) (Ek_ n k112 l110)) (fin (some l110))
instance part_key_b1_le {n : Nat} {x0 : List BSet} {x1 : UInt8} {l110 : List UInt8} {k112 : Nat} : LeC (F0_ n x0 x1 l110 k112) (Bf_ x0 x1 l110 k112) := by
  unfold F0_ Bf_; infer_instance
def G1_ (n : Nat) (x0 : List BSet) (x1 : UInt8) : Option ((List UInt8)) :=
  grd (1 * x0.length ≤ 281474976710656) (iterX n (fun q : (List UInt8) × Nat => F0_ n x0 x1 q.1 q.2) ((List.replicate x0.length (0 : UInt8)), 0))
instance part_key_le {n : Nat} {x0 : List BSet} {x1 : UInt8} : LeC (G1_ n x0 x1) (En_ x0 x1) := by
  unfold G1_ En_; infer_instance
def Dz_ (n : Nat) (k121 : Nat) (m125 : FM (List UInt8) Int) (l126 : List BSet) (i129 : Int) : Option (((FM (List UInt8) Int) × (List BSet) × Nat) ⊕ ((List BSet) × Int)) :=
  grd (0 ≤ i129 ∧ i129 < (l126.length : Int)) (grd ([(toU8 ((k121 : Nat) : Int))].length ≤ 1000000000000) (bnd (Gm_ n (nth l126 i129.toNat BSet.zero) (BSet.ofL [(toU8 ((k121 : Nat) : Int))])) (fun v52 => grd (0 ≤ i129 ∧ i129 < (l126.length : Int)) (nxt (m125, (l126.set i129.toNat v52), (k121 + 1))))))
instance part_Parts_j1_le {n : Nat} {k121 : Nat} {m125 : FM (List UInt8) Int} {l126 : List BSet} {i129 : Int} : LeC (Dz_ n k121 m125 l126 i129) (B1_ k121 m125 l126 i129) := by
  unfold Dz_ B1_; infer_instance
def Ey_ (n : Nat) (x0 : List BSet) (m116 : FM (List UInt8) Int) (l118 : List BSet) (k121 : Nat) : Option (((FM (List UInt8) Int) × (List BSet) × Nat) ⊕ ((List BSet) × Int)) :=
  iteO (decide (((k121 : Nat) : Int) < 256)) (bnd (G1_ n x0 (toU8 ((k121 : Nat) : Int))) (fun v18 => iteO (!(m116.has v18)) (grd ((l118.length + [BSet.zero].length) * 32 ≤ 140737488355328) (Dz_ n k121 (m116.put v18 ((l118.length : Nat) : Int)) (l118 ++ [BSet.zero]) ((l118.length : Nat) : Int))) (Dz_ n k121 m116 l118 (m116.get v18 0)))) (fin (some (l118, 0)))
instance part_Parts_b1_le {n : Nat} {x0 : List BSet} {m116 : FM (List UInt8) Int} {l118 : List BSet} {k121 : Nat} : LeC (Ey_ n x0 m116 l118 k121) (A0_ x0 m116 l118 k121) := by
  unfold Ey_ A0_; infer_instance
def Gh_ (n : Nat) (x0 : List BSet) : Option ((List BSet) × Int) :=
  iteO (decide (1024 < ((x0.length : Nat) : Int))) (some (([] : List BSet), 2)) (iterX n (fun q : (FM (List UInt8) Int) × (List BSet) × Nat => Ey_ n x0 q.1 q.2.1 q.2.2) ((FM.emp : FM (List UInt8) Int), ([] : List BSet), 0))
instance part_Parts_le {n : Nat} {x0 : List BSet} : LeC (Gh_ n x0) (Dh_ x0) := by
  unfold Gh_ Dh_; infer_instance
def Dt_ (n : Nat) (k146 : Nat) (l149 : List Int) : Option (((List Int) × Nat) ⊕ (((List Int) × Int × Nat) ⊕ ((List Int) × Int))) :=
  nxt (l149, (k146 + 1))
instance part_Class_j1_le {n : Nat} {k146 : Nat} {l149 : List Int} : LeC (Dt_ n k146 l149) (Ca_ k146 l149) := by
  unfold Dt_ Ca_; infer_instance
def E4_ (n : Nat) (x0 : List BSet) (k130 : Nat) (v29 : UInt8 × Bool) (l144 : List Int) (k146 : Nat) : Option (((List Int) × Nat) ⊕ (((List Int) × Int × Nat) ⊕ ((List Int) × Int))) :=
  iteO (decide (((k146 : Nat) : Int) < 256)) (iteO (!((nth x0 k130 BSet.zero).has (toU8 ((k146 : Nat) : Int)).toNat)) (Dt_ n k146 l144) (grd (k146 < l144.length) (iteO (decide (0 ≤ (nth l144 k146 (0 : Int)))) (fin (fin (some (([] : List Int), 1)))) (grd (k146 < l144.length) (Dt_ n k146 (l144.set k146 ((k130 : Nat) : Int))))))) (fin (nxt (l144, ((v29.1.toNat : Nat) : Int), (k130 + 1))))
instance part_Class_b3_le {n : Nat} {x0 : List BSet} {k130 : Nat} {v29 : UInt8 × Bool} {l144 : List Int} {k146 : Nat} : LeC (E4_ n x0 k130 v29 l144 k146) (Ai_ x0 k130 v29 l144 k146) := by
  unfold E4_ Ai_; infer_instance
def E2_ (n : Nat) (l127 : List Int) (k165 : Nat) : Option ((Nat) ⊕ ((List Int) × Int)) :=
  iteO (decide (((k165 : Nat) : Int) < (((List.replicate 256 (0 : Int)).length : Nat) : Int))) (grd (k165 < l127.length) (iteO (decide ((nth l127 k165 (0 : Int)) < 0)) (fin (some (([] : List Int), 1))) (nxt (k165 + 1)))) (fin (some (l127, 0)))
instance part_Class_b4_le {n : Nat} {l127 : List Int} {k165 : Nat} : LeC (E2_ n l127 k165) (Ak_ l127 k165) := by
  unfold E2_ Ak_; infer_instance
def Ez_ (n : Nat) (x0 : List BSet) (l127 : List Int) (i129 : Int) (k130 : Nat) : Option (((List Int) × Int × Nat) ⊕ ((List Int) × Int)) :=
  iteO (decide (((k130 : Nat) : Int) < ((x0.length : Nat) : Int))) (bnd (Fm_ n (nth x0 k130 BSet.zero)) (fun v29 => iteO (!v29.2) (fin (some (([] : List Int), 1))) (iteO (decide (((v29.1.toNat : Nat) : Int) ≤ i129)) (fin (some (([] : List Int), 1))) (iterX n (fun q : (List Int) × Nat => E4_ n x0 k130 v29 q.1 q.2) (l127, 0))))) (fin (iterX n (fun q : Nat => E2_ n l127 q) 0))
instance part_Class_b2_le {n : Nat} {x0 : List BSet} {l127 : List Int} {i129 : Int} {k130 : Nat} : LeC (Ez_ n x0 l127 i129 k130) (Ah_ x0 l127 i129 k130) := by
  unfold Ez_ Ah_; infer_instance
def Ev_ (n : Nat) (x0 : List BSet) (l110 : List Int) (k112 : Nat) : Option (((List Int) × Nat) ⊕ ((List Int) × Int)) :=
  iteO (decide (((k112 : Nat) : Int) < (((List.replicate 256 (0 : Int)).length : Nat) : Int))) (grd (k112 < l110.length) (nxt ((l110.set k112 (-1)), (k112 + 1)))) (fin (iterX n (fun q : (List Int) × Int × Nat => Ez_ n x0 q.1 q.2.1 q.2.2) (l110, (-1), 0)))
instance part_Class_b1_le {n : Nat} {x0 : List BSet} {l110 : List Int} {k112 : Nat} : LeC (Ev_ n x0 l110 k112) (A5_ x0 l110 k112) := by
  unfold Ev_ A5_; infer_instance
def Ge_ (n : Nat) (x0 : List BSet) : Option ((List Int) × Int) :=
  iterX n (fun q : (List Int) × Nat => Ev_ n x0 q.1 q.2) ((List.replicate 256 (0 : Int)), 0)
instance part_Class_le {n : Nat} {x0 : List BSet} : LeC (Ge_ n x0) (Df_ x0) := by
  unfold Ge_ Df_; infer_instance
def Ec_ (n : Nat) (x0 : List Int) (k116 : Nat) (l122 : List BSet) : Option (((List BSet) × Nat) ⊕ ((List BSet) × Int)) :=
  grd (0 ≤ (nth x0 k116 (0 : Int)) ∧ (nth x0 k116 (0 : Int)) < (l122.length : Int)) (grd ([(toU8 ((k116 : Nat) : Int))].length ≤ 1000000000000) (bnd (Gm_ n (nth l122 ((nth x0 k116 (0 : Int)).toNat) BSet.zero) (BSet.ofL [(toU8 ((k116 : Nat) : Int))])) (fun v47 => grd (0 ≤ (nth x0 k116 (0 : Int)) ∧ (nth x0 k116 (0 : Int)) < (l122.length : Int)) (nxt ((l122.set ((nth x0 k116 (0 : Int)).toNat) v47), (k116 + 1))))))
instance part_Sets_j1_le {n : Nat} {x0 : List Int} {k116 : Nat} {l122 : List BSet} : LeC (Ec_ n x0 k116 l122) (B6_ x0 k116 l122) := by
  unfold Ec_ B6_; infer_instance
def Ff_ (n : Nat) (x0 : List Int) (l113 : List BSet) (k116 : Nat) : Option (((List BSet) × Nat) ⊕ ((List BSet) × Int)) :=
  iteO (decide (((k116 : Nat) : Int) < ((x0.length : Nat) : Int))) (iteO (decide ((nth x0 k116 (0 : Int)) < 0)) (fin (some (([] : List BSet), 1))) (iteO (decide (((l113.length : Nat) : Int) < (nth x0 k116 (0 : Int)))) (fin (some (([] : List BSet), 1))) (iteO (decide ((nth x0 k116 (0 : Int)) = ((l113.length : Nat) : Int))) (grd ((l113.length + [BSet.zero].length) * 32 ≤ 140737488355328) (Ec_ n x0 k116 (l113 ++ [BSet.zero]))) (Ec_ n x0 k116 l113)))) (fin (some (l113, 0)))
instance part_Sets_b1_le {n : Nat} {x0 : List Int} {l113 : List BSet} {k116 : Nat} : LeC (Ff_ n x0 l113 k116) (Ax_ x0 l113 k116) := by
  unfold Ff_ Ax_; infer_instance
def Gr_ (n : Nat) (x0 : List Int) : Option ((List BSet) × Int) :=
  iteO (decide (((x0.length : Nat) : Int) ≠ 256)) (some (([] : List BSet), 1)) (iterX n (fun q : (List BSet) × Nat => Ff_ n x0 q.1 q.2) (([] : List BSet), 0))
instance part_Sets_le {n : Nat} {x0 : List Int} : LeC (Gr_ n x0) (Da_ x0) := by
  unfold Gr_ Da_; infer_instance
def Fc_ (n : Nat) (x0 : Dfa) (k110 : Nat) (k116 : Nat) : Option ((Nat) ⊕ ((Nat) ⊕ (Int))) :=
  iteO (decide (((k116 : Nat) : Int) < (((nth x0.next k110 ([] : List Int)).length : Nat) : Int))) (iteO (decide ((nth (nth x0.next k110 ([] : List Int)) k116 (0 : Int)) < 0)) (fin (fin (some 1))) (iteO (decide (((x0.next.length : Nat) : Int) ≤ (nth (nth x0.next k110 ([] : List Int)) k116 (0 : Int)))) (fin (fin (some 1))) (nxt (k116 + 1)))) (fin (nxt (k110 + 1)))
instance dfa_Check_b2_le {n : Nat} {x0 : Dfa} {k110 : Nat} {k116 : Nat} : LeC (Fc_ n x0 k110 k116) (Bg_ x0 k110 k116) := by
  unfold Fc_ Bg_; infer_instance
def E9_ (n : Nat) (x0 : Dfa) (v5 : (List BSet) × Int) (k110 : Nat) : Option ((Nat) ⊕ (Int)) :=
  iteO (decide (((k110 : Nat) : Int) < ((x0.next.length : Nat) : Int))) (iteO (decide ((((nth x0.next k110 ([] : List Int)).length : Nat) : Int) ≠ ((v5.1.length : Nat) : Int))) (fin (some 1)) (iterX n (fun q : Nat => Fc_ n x0 k110 q) 0)) (fin (some 0))
instance dfa_Check_b1_le {n : Nat} {x0 : Dfa} {v5 : (List BSet) × Int} {k110 : Nat} : LeC (E9_ n x0 v5 k110) (Bi_ x0 v5 k110) := by
  unfold E9_ Bi_; infer_instance
def Fh_ (n : Nat) (x0 : Dfa) : Option (Int) :=
  bnd (Gr_ n x0.cls) (fun v5 => iteO (decide (v5.2 ≠ 0)) (some 1) (iteO (decide (((x0.next.length : Nat) : Int) < 1)) (some 1) (iteO (decide (1024 < ((x0.next.length : Nat) : Int))) (some 1) (iteO (decide (((x0.fin.length : Nat) : Int) ≠ ((x0.next.length : Nat) : Int))) (some 1) (iterX n (fun q : Nat => E9_ n x0 v5 q) 0)))))
instance dfa_Check_le {n : Nat} {x0 : Dfa} : LeC (Fh_ n x0) (Db_ x0) := by
  unfold Fh_ Db_; infer_instance
def Dx_ (n : Nat) (k120 : Nat) (m124 : FM BSet Int) (l125 : List BSet) : Option (((FM BSet Int) × (List BSet) × Nat) ⊕ ((List BSet))) :=
  nxt (m124, l125, (k120 + 1))
instance dfa_unlike_j1_le {n : Nat} {k120 : Nat} {m124 : FM BSet Int} {l125 : List BSet} : LeC (Dx_ n k120 m124 l125) (Cd_ k120 m124 l125) := by
  unfold Dx_ Cd_; infer_instance
def E3_ (n : Nat) (x0 : List Arrow) (m115 : FM BSet Int) (l117 : List BSet) (k120 : Nat) : Option (((FM BSet Int) × (List BSet) × Nat) ⊕ ((List BSet))) :=
  iteO (decide (((k120 : Nat) : Int) < ((x0.length : Nat) : Int))) (iteO (!(m115.has ((nth x0 k120 Arrow.zero).set))) (grd ((l117.length + [(nth x0 k120 Arrow.zero).set].length) * 32 ≤ 140737488355328) (Dx_ n k120 (m115.put ((nth x0 k120 Arrow.zero).set) ((l117.length : Nat) : Int)) (l117 ++ [(nth x0 k120 Arrow.zero).set]))) (Dx_ n k120 m115 l117)) (fin (some l117))
instance dfa_unlike_b1_le {n : Nat} {x0 : List Arrow} {m115 : FM BSet Int} {l117 : List BSet} {k120 : Nat} : LeC (E3_ n x0 m115 l117 k120) (A6_ x0 m115 l117 k120) := by
  unfold E3_ A6_; infer_instance
def Gb_ (n : Nat) (x0 : List Arrow) : Option ((List BSet)) :=
  iterX n (fun q : (FM BSet Int) × (List BSet) × Nat => E3_ n x0 q.1 q.2.1 q.2.2) ((FM.emp : FM BSet Int), ([] : List BSet), 0)
instance dfa_unlike_le {n : Nat} {x0 : List Arrow} : LeC (Gb_ n x0) (De_ x0) := by
  unfold Gb_ De_; infer_instance
def D1_ (n : Nat) (k133 : Nat) (l136 : List Int) : Option (((List Int) × Nat) ⊕ (((List Int) × Nat) ⊕ ((List Int)))) :=
  nxt (l136, (k133 + 1))
instance dfa_behind_j1_le {n : Nat} {k133 : Nat} {l136 : List Int} : LeC (D1_ n k133 l136) (Cc_ k133 l136) := by
  unfold D1_ Cc_; infer_instance
def Es_ (n : Nat) (x0 : List (List Arrow)) (x1 : List Int) (k117 : Nat) (v4 : UInt8 × Bool) (l130 : List Int) (k133 : Nat) : Option (((List Int) × Nat) ⊕ (((List Int) × Nat) ⊕ ((List Int)))) :=
  iteO (decide (((k133 : Nat) : Int) < (((nth x0 ((nth x1 k117 (0 : Int)).toNat) ([] : List Arrow)).length : Nat) : Int))) (iteO (((nth (nth x0 ((nth x1 k117 (0 : Int)).toNat) ([] : List Arrow)) k133 Arrow.zero).set).has v4.1.toNat) (grd ((l130.length + [(nth (nth x0 ((nth x1 k117 (0 : Int)).toNat) ([] : List Arrow)) k133 Arrow.zero).to].length) * 8 ≤ 140737488355328) (D1_ n k133 (l130 ++ [(nth (nth x0 ((nth x1 k117 (0 : Int)).toNat) ([] : List Arrow)) k133 Arrow.zero).to]))) (D1_ n k133 l130)) (fin (nxt (l130, (k117 + 1))))
instance dfa_behind_b2_le {n : Nat} {x0 : List (List Arrow)} {x1 : List Int} {k117 : Nat} {v4 : UInt8 × Bool} {l130 : List Int} {k133 : Nat} : LeC (Es_ n x0 x1 k117 v4 l130 k133) (A4_ x0 x1 k117 v4 l130 k133) := by
  unfold Es_ A4_; infer_instance
def Et_ (n : Nat) (x1 : List Int) (x0 : List (List Arrow)) (v4 : UInt8 × Bool) (l114 : List Int) (k117 : Nat) : Option (((List Int) × Nat) ⊕ ((List Int))) :=
  iteO (decide (((k117 : Nat) : Int) < ((x1.length : Nat) : Int))) (grd (0 ≤ (nth x1 k117 (0 : Int)) ∧ (nth x1 k117 (0 : Int)) < (x0.length : Int)) (iterX n (fun q : (List Int) × Nat => Es_ n x0 x1 k117 v4 q.1 q.2) (l114, 0))) (fin (some l114))
instance dfa_behind_b1_le {n : Nat} {x1 : List Int} {x0 : List (List Arrow)} {v4 : UInt8 × Bool} {l114 : List Int} {k117 : Nat} : LeC (Et_ n x1 x0 v4 l114 k117) (Az_ x1 x0 v4 l114 k117) := by
  unfold Et_ Az_; infer_instance
def Gg_ (n : Nat) (x0 : List (List Arrow)) (x1 : List Int) (x2 : BSet) : Option ((List Int)) :=
  bnd (Fm_ n x2) (fun v4 => iterX n (fun q : (List Int) × Nat => Et_ n x1 x0 v4 q.1 q.2) (([] : List Int), 0))
instance dfa_behind_le {n : Nat} {x0 : List (List Arrow)} {x1 : List Int} {x2 : BSet} : LeC (Gg_ n x0 x1 x2) (Dc_ x0 x1 x2) := by
  unfold Gg_ Dc_; infer_instance
def D4_ (n : Nat) {Sy : Type} (x1 : List BSet) (Y : Sy → Int × BSet → Option (Sy × Bool)) (k111 : Nat) (s112 : Sy) : Option ((Nat × Sy) ⊕ (Sy)) :=
  iteO (decide (((k111 : Nat) : Int) < ((x1.length : Nat) : Int))) (bnd (Y s112 (((k111 : Nat) : Int), (nth x1 k111 BSet.zero))) (fun v14 => iteO (!v14.2) (fin (some v14.1)) (nxt ((k111 + 1), v14.1)))) (fin (some s112))
instance dfa_classes_1_b1_le {n : Nat} {Sy : Type} {x1 : List BSet} {Y : Sy → Int × BSet → Option (Sy × Bool)} {k111 : Nat} {s112 : Sy} {Y' : Sy → Int × BSet → Option (Sy × Bool)} [hY : ∀ s x, LeC (Y s x) (Y' s x)] : LeC (D4_ n x1 Y k111 s112) (Ad_ x1 Y' k111 s112) := by
  unfold D4_ Ad_; infer_instance
def Eu_ (n : Nat) {Sy : Type} (Y : Sy → Int × BSet → Option (Sy × Bool)) (s0 : Sy) (x1 : List BSet) : Option (Sy) :=
  iterX n (fun q : Nat × Sy => D4_ n x1 Y q.1 q.2) (0, s0)
instance dfa_classes_1_le {n : Nat} {Sy : Type} {Y : Sy → Int × BSet → Option (Sy × Bool)} {s0 : Sy} {x1 : List BSet} {Y' : Sy → Int × BSet → Option (Sy × Bool)} [hY : ∀ s x, LeC (Y s x) (Y' s x)] : LeC (Eu_ n Y s0 x1) (Bl_ Y' s0 x1) := by
  unfold Eu_ Bl_; infer_instance
def F5_ (n : Nat) (x0 : List BSet) : Option ((List BSet)) :=
  some x0
instance dfa_classes_le {n : Nat} {x0 : List BSet} : LeC (F5_ n x0) (C0_ x0) := by
  unfold F5_ C0_; infer_instance
def Gp_ (n : Nat) (l130 : List (List Arrow)) (x0 : Nfa) (k134 : Nat) : Option (((List (List Arrow)) × Nat) ⊕ (Dfa × Int)) :=
  nxt ((l130.set (((nth x0.edges k134 Arrow.zero).frm).toNat) ((nth l130 (((nth x0.edges k134 Arrow.zero).frm).toNat) ([] : List Arrow)) ++ [(nth x0.edges k134 Arrow.zero)])), (k134 + 1))
instance dfa_Of_j1_le {n : Nat} {l130 : List (List Arrow)} {x0 : Nfa} {k134 : Nat} : LeC (Gp_ n l130 x0 k134) (Ft_ l130 x0 k134) := by
  unfold Gp_ Ft_; infer_instance
def Fo_ (n : Nat) (k323 : Nat) (t335 : Bool) : Option ((Bool × Nat) ⊕ ((Int × (List (List Int)) × (FM (List UInt8) Int) × (List (List Int)) × (List Bool) × Nat) ⊕ (Dfa × Int))) :=
  nxt (t335, (k323 + 1))
instance dfa_Of_j2_le {n : Nat} {k323 : Nat} {t335 : Bool} : LeC (Fo_ n k323 t335) (D6_ k323 t335) := by
  unfold Fo_ D6_; infer_instance
def Fz_ (n : Nat) (l130 : List (List Arrow)) (v116 : (List Int) × Int) (i388 : Int) (l391 : List (List Int)) (m397 : FM (List UInt8) Int) (l401 : List Int) (y256_0 : Int) (y256_1 : BSet) : Option (Nat × (Int × (List (List Int)) × (FM (List UInt8) Int) × (List Int))) :=
  bnd (Gg_ n l130 v116.1 y256_1) (fun v161 => bnd (putKeep_x n (⟨(⟨l391, m397⟩ : IStore)⟩ : ITable) v161) (fun v162 => iteO (decide (v162.2.2.1 ≠ 0)) (some (1, (v162.2.2.1, v162.2.2.2.of.rows, v162.2.2.2.of.places, l401))) (iteO (decide (1024 ≤ v162.1)) (some (1, (2, v162.2.2.2.of.rows, v162.2.2.2.of.places, l401))) (grd (0 ≤ y256_0 ∧ y256_0 < (l401.length : Int)) (some (0, (i388, v162.2.2.2.of.rows, v162.2.2.2.of.places, (l401.set y256_0.toNat v162.1))))))))
instance dfa_Of_r256_le {n : Nat} {l130 : List (List Arrow)} {v116 : (List Int) × Int} {i388 : Int} {l391 : List (List Int)} {m397 : FM (List UInt8) Int} {l401 : List Int} {y256_0 : Int} {y256_1 : BSet} : LeC (Fz_ n l130 v116 i388 l391 m397 l401 y256_0 y256_1) (Be_ l130 v116 i388 l391 m397 l401 y256_0 y256_1) := by
  unfold Fz_ Be_; infer_instance
def F6_ (n : Nat) (l277 : List (List Int)) (l283 : List Bool) (t322 : Bool) (k286 : Nat) (jz : Nat) (i388 : Int) (l391 : List (List Int)) (m397 : FM (List UInt8) Int) (l401 : List Int) : Option ((Int × (List (List Int)) × (FM (List UInt8) Int) × (List (List Int)) × (List Bool) × Nat) ⊕ (Dfa × Int)) :=
  jsel jz (grd ((l277.length + [l401].length) * 24 ≤ 140737488355328) (grd ((l283.length + [t322].length) * 1 ≤ 140737488355328) (grd (k286 + 1 ≤ 9223372036854775807) (nxt (i388, l391, m397, (l277 ++ [l401]), (l283 ++ [t322]), (k286 + 1)))))) (fun j_ => jsel j_ (fin (some ((⟨([] : List Int), ([] : List (List Int)), ([] : List Bool)⟩ : Dfa), i388))) (fun _ => none))
instance dfa_Of_k256_le {n : Nat} {l277 : List (List Int)} {l283 : List Bool} {t322 : Bool} {k286 : Nat} {jz : Nat} {i388 : Int} {l391 : List (List Int)} {m397 : FM (List UInt8) Int} {l401 : List Int} : LeC (F6_ n l277 l283 t322 k286 jz i388 l391 m397 l401) (Dr_ l277 l283 t322 k286 jz i388 l391 m397 l401) := by
  unfold F6_ Dr_; infer_instance
def Gx_ (n : Nat) (v116 : (List Int) × Int) (l193 : List Bool) (v13 : (List BSet) × Int) (l130 : List (List Arrow)) (i264 : Int) (l268 : List (List Int)) (m274 : FM (List UInt8) Int) (l277 : List (List Int)) (l283 : List Bool) (k286 : Nat) (t322 : Bool) (k323 : Nat) : Option ((Bool × Nat) ⊕ ((Int × (List (List Int)) × (FM (List UInt8) Int) × (List (List Int)) × (List Bool) × Nat) ⊕ (Dfa × Int))) :=
  iteO (decide (((k323 : Nat) : Int) < ((v116.1.length : Nat) : Int))) (iteO t322 (Fo_ n k323 true) (grd (0 ≤ (nth v116.1 k323 (0 : Int)) ∧ (nth v116.1 k323 (0 : Int)) < (l193.length : Int)) (Fo_ n k323 (nth l193 ((nth v116.1 k323 (0 : Int)).toNat) false)))) (fin (grd (8 * v13.1.length ≤ 281474976710656) (bnd (F5_ n v13.1) (fun v153 => bnd (Eu_ n (stepY (fun (q : Int × (List (List Int)) × (FM (List UInt8) Int) × (List Int)) (x : Int × BSet) => Fz_ n l130 v116 q.1 q.2.1 q.2.2.1 q.2.2.2 x.1 x.2)) (0, (i264, l268, m274, (List.replicate v13.1.length (0 : Int)))) v153) (fun zr256 => F6_ n l277 l283 t322 k286 zr256.1 zr256.2.1 zr256.2.2.1 zr256.2.2.2.1 zr256.2.2.2.2)))))
instance dfa_Of_b4_le {n : Nat} {v116 : (List Int) × Int} {l193 : List Bool} {v13 : (List BSet) × Int} {l130 : List (List Arrow)} {i264 : Int} {l268 : List (List Int)} {m274 : FM (List UInt8) Int} {l277 : List (List Int)} {l283 : List Bool} {k286 : Nat} {t322 : Bool} {k323 : Nat} : LeC (Gx_ n v116 l193 v13 l130 i264 l268 m274 l277 l283 k286 t322 k323) (Bq_ v116 l193 v13 l130 i264 l268 m274 l277 l283 k286 t322 k323) := by
  unfold Gx_ Bq_; infer_instance
def Gv_ (n : Nat) (l193 : List Bool) (v13 : (List BSet) × Int) (l130 : List (List Arrow)) (v26 : (List Int) × Int) (i264 : Int) (l268 : List (List Int)) (m274 : FM (List UInt8) Int) (l277 : List (List Int)) (l283 : List Bool) (k286 : Nat) : Option ((Int × (List (List Int)) × (FM (List UInt8) Int) × (List (List Int)) × (List Bool) × Nat) ⊕ (Dfa × Int)) :=
  bnd (intern_Table_Size_x n (⟨(⟨l268, m274⟩ : IStore)⟩ : ITable)) (fun v112 => iteO (decide (((k286 : Nat) : Int) < v112)) (bnd (intern_Table_Row_x n (⟨(⟨l268, m274⟩ : IStore)⟩ : ITable) ((k286 : Nat) : Int)) (fun v116 => iteO (decide (v116.2 ≠ 0)) (fin (some ((⟨([] : List Int), ([] : List (List Int)), ([] : List Bool)⟩ : Dfa), v116.2))) (iterX n (fun q : Bool × Nat => Gx_ n v116 l193 v13 l130 i264 l268 m274 l277 l283 k286 q.1 q.2) (false, 0)))) (fin (some ((⟨v26.1, l277, l283⟩ : Dfa), 0))))
instance dfa_Of_b3_le {n : Nat} {l193 : List Bool} {v13 : (List BSet) × Int} {l130 : List (List Arrow)} {v26 : (List Int) × Int} {i264 : Int} {l268 : List (List Int)} {m274 : FM (List UInt8) Int} {l277 : List (List Int)} {l283 : List Bool} {k286 : Nat} : LeC (Gv_ n l193 v13 l130 v26 i264 l268 m274 l277 l283 k286) (B8_ l193 v13 l130 v26 i264 l268 m274 l277 l283 k286) := by
  unfold Gv_ B8_; infer_instance
def Gu_ (n : Nat) (x0 : Nfa) (v13 : (List BSet) × Int) (l130 : List (List Arrow)) (v26 : (List Int) × Int) (l193 : List Bool) (k195 : Nat) : Option (((List Bool) × Nat) ⊕ (Dfa × Int)) :=
  iteO (decide (((k195 : Nat) : Int) < ((x0.ends.length : Nat) : Int))) (grd (0 ≤ (nth x0.ends k195 (0 : Int)) ∧ (nth x0.ends k195 (0 : Int)) < (l193.length : Int)) (nxt ((l193.set ((nth x0.ends k195 (0 : Int)).toNat) true), (k195 + 1)))) (fin (bnd (intern_New_x n) (fun v85 => bnd (intern_Table_Put_x n (⟨(⟨v85.of.rows, v85.of.places⟩ : IStore)⟩ : ITable) x0.starts) (fun v91 => iteO (decide (v91.2.2.1 ≠ 0)) (some ((⟨([] : List Int), ([] : List (List Int)), ([] : List Bool)⟩ : Dfa), v91.2.2.1)) (iterX n (fun q : Int × (List (List Int)) × (FM (List UInt8) Int) × (List (List Int)) × (List Bool) × Nat => Gv_ n l193 v13 l130 v26 q.1 q.2.1 q.2.2.1 q.2.2.2.1 q.2.2.2.2.1 q.2.2.2.2.2) (0, v91.2.2.2.of.rows, v91.2.2.2.of.places, ([] : List (List Int)), ([] : List Bool), 0))))))
instance dfa_Of_b2_le {n : Nat} {x0 : Nfa} {v13 : (List BSet) × Int} {l130 : List (List Arrow)} {v26 : (List Int) × Int} {l193 : List Bool} {k195 : Nat} : LeC (Gu_ n x0 v13 l130 v26 l193 k195) (B5_ x0 v13 l130 v26 l193 k195) := by
  unfold Gu_ B5_; infer_instance
def Gq_ (n : Nat) (x0 : Nfa) (v13 : (List BSet) × Int) (v26 : (List Int) × Int) (l130 : List (List Arrow)) (k134 : Nat) : Option (((List (List Arrow)) × Nat) ⊕ (Dfa × Int)) :=
  iteO (decide (((k134 : Nat) : Int) < ((x0.edges.length : Nat) : Int))) (grd (0 ≤ ((nth x0.edges k134 Arrow.zero).frm) ∧ ((nth x0.edges k134 Arrow.zero).frm) < (l130.length : Int)) (grd (((nth l130 (((nth x0.edges k134 Arrow.zero).frm).toNat) ([] : List Arrow)).length + [(nth x0.edges k134 Arrow.zero)].length) * 48 ≤ 140737488355328) (grd (0 ≤ ((nth x0.edges k134 Arrow.zero).frm) ∧ ((nth x0.edges k134 Arrow.zero).frm) < (l130.length : Int)) (Gp_ n l130 x0 k134)))) (fin (grd (0 ≤ x0.states ∧ 1 * x0.states.toNat ≤ 281474976710656) (iterX n (fun q : (List Bool) × Nat => Gu_ n x0 v13 l130 v26 q.1 q.2) ((List.replicate x0.states.toNat false), 0))))
instance dfa_Of_b1_le {n : Nat} {x0 : Nfa} {v13 : (List BSet) × Int} {v26 : (List Int) × Int} {l130 : List (List Arrow)} {k134 : Nat} : LeC (Gq_ n x0 v13 v26 l130 k134) (B9_ x0 v13 v26 l130 k134) := by
  unfold Gq_ B9_; infer_instance
def Ho_ (n : Nat) (x0 : Nfa) : Option (Dfa × Int) :=
  iteO (decide ((errB (checkB x0)) ≠ 0)) (some ((⟨([] : List Int), ([] : List (List Int)), ([] : List Bool)⟩ : Dfa), 1)) (bnd (Gb_ n x0.edges) (fun v12 => bnd (Gh_ n v12) (fun v13 => iteO (decide (v13.2 ≠ 0)) (some ((⟨([] : List Int), ([] : List (List Int)), ([] : List Bool)⟩ : Dfa), v13.2)) (bnd (Ge_ n v13.1) (fun v26 => iteO (decide (v26.2 ≠ 0)) (some ((⟨([] : List Int), ([] : List (List Int)), ([] : List Bool)⟩ : Dfa), v26.2)) (grd (0 ≤ x0.states ∧ 24 * x0.states.toNat ≤ 281474976710656) (iterX n (fun q : (List (List Arrow)) × Nat => Gq_ n x0 v13 v26 q.1 q.2) ((List.replicate x0.states.toNat ([] : List Arrow)), 0))))))))
instance dfa_Of_le {n : Nat} {x0 : Nfa} : LeC (Ho_ n x0) (Fu_ x0) := by
  unfold Ho_ Fu_; infer_instance
def Gc_ (n : Nat) (x2 : List UInt8) (x0 : Dfa) (i110 : Int) (k111 : Nat) : Option ((Int × Nat) ⊕ (Int × Int)) :=
  iteO (decide (((k111 : Nat) : Int) < ((x2.length : Nat) : Int))) (grd (0 ≤ i110 ∧ i110 < (x0.next.length : Int)) (grd ((nth x2 k111 (0 : UInt8)).toNat < x0.cls.length) (grd (0 ≤ (nth x0.cls ((nth x2 k111 (0 : UInt8)).toNat) (0 : Int)) ∧ (nth x0.cls ((nth x2 k111 (0 : UInt8)).toNat) (0 : Int)) < ((nth x0.next i110.toNat ([] : List Int)).length : Int)) (nxt ((nth (nth x0.next i110.toNat ([] : List Int)) ((nth x0.cls ((nth x2 k111 (0 : UInt8)).toNat) (0 : Int)).toNat) (0 : Int)), (k111 + 1)))))) (fin (some (i110, 0)))
instance dfa_Run_b1_le {n : Nat} {x2 : List UInt8} {x0 : Dfa} {i110 : Int} {k111 : Nat} : LeC (Gc_ n x2 x0 i110 k111) (Ce_ x2 x0 i110 k111) := by
  unfold Gc_ Ce_; infer_instance
def Hf_ (n : Nat) (x0 : Dfa) (x1 : Int) (x2 : List UInt8) : Option (Int × Int) :=
  grd (x2.length ≤ 281474976710656) (bnd (Fh_ n x0) (fun v5 => iteO (decide (v5 ≠ 0)) (some (0, 1)) (iteO (decide (x1 < 0)) (some (0, 1)) (iteO (decide (((x0.next.length : Nat) : Int) ≤ x1)) (some (0, 1)) (iterX n (fun q : Int × Nat => Gc_ n x2 x0 q.1 q.2) (x1, 0))))))
instance dfa_Run_le {n : Nat} {x0 : Dfa} {x1 : Int} {x2 : List UInt8} : LeC (Hf_ n x0 x1 x2) (F9_ x0 x1 x2) := by
  unfold Hf_ F9_; infer_instance
def Gw_ (n : Nat) (x0 : Dfa) (x1 : List UInt8) : Option (Bool × Int) :=
  grd (x1.length ≤ 281474976710656) (bnd (Hf_ n x0 0 x1) (fun v6 => iteO (decide (v6.2 ≠ 0)) (some (false, v6.2)) (grd (0 ≤ v6.1 ∧ v6.1 < (x0.fin.length : Int)) (some ((nth x0.fin v6.1.toNat false), 0)))))
instance dfa_Takes_le {n : Nat} {x0 : Dfa} {x1 : List UInt8} : LeC (Gw_ n x0 x1) (Cv_ x0 x1) := by
  unfold Gw_ Cv_; infer_instance
def C1_ (n : Nat) (k155 : Nat) (l159 : List Bool) (l161 : List Int) : Option (((List Bool) × (List Int) × Nat) ⊕ (((List Bool) × (List Int) × Nat) ⊕ ((List Int)))) :=
  nxt (l159, l161, (k155 + 1))
instance mini_reached_j1_le {n : Nat} {k155 : Nat} {l159 : List Bool} {l161 : List Int} : LeC (C1_ n k155 l159 l161) (Bv_ k155 l159 l161) := by
  unfold C1_ Bv_; infer_instance
def Ee_ (n : Nat) (x0 : Dfa) (l126 : List Int) (k129 : Nat) (l150 : List Bool) (l152 : List Int) (k155 : Nat) : Option (((List Bool) × (List Int) × Nat) ⊕ (((List Bool) × (List Int) × Nat) ⊕ ((List Int)))) :=
  iteO (decide (((k155 : Nat) : Int) < (((nth x0.next ((nth l126 k129 (0 : Int)).toNat) ([] : List Int)).length : Nat) : Int))) (grd (0 ≤ (nth (nth x0.next ((nth l126 k129 (0 : Int)).toNat) ([] : List Int)) k155 (0 : Int)) ∧ (nth (nth x0.next ((nth l126 k129 (0 : Int)).toNat) ([] : List Int)) k155 (0 : Int)) < (l150.length : Int)) (iteO (!(nth l150 ((nth (nth x0.next ((nth l126 k129 (0 : Int)).toNat) ([] : List Int)) k155 (0 : Int)).toNat) false)) (grd (0 ≤ (nth (nth x0.next ((nth l126 k129 (0 : Int)).toNat) ([] : List Int)) k155 (0 : Int)) ∧ (nth (nth x0.next ((nth l126 k129 (0 : Int)).toNat) ([] : List Int)) k155 (0 : Int)) < (l150.length : Int)) (grd ((l152.length + [(nth (nth x0.next ((nth l126 k129 (0 : Int)).toNat) ([] : List Int)) k155 (0 : Int))].length) * 8 ≤ 140737488355328) (C1_ n k155 (l150.set ((nth (nth x0.next ((nth l126 k129 (0 : Int)).toNat) ([] : List Int)) k155 (0 : Int)).toNat) true) (l152 ++ [(nth (nth x0.next ((nth l126 k129 (0 : Int)).toNat) ([] : List Int)) k155 (0 : Int))])))) (C1_ n k155 l150 l152))) (fin (nxt (l150, l152, (k129 + 1))))
instance mini_reached_b2_le {n : Nat} {x0 : Dfa} {l126 : List Int} {k129 : Nat} {l150 : List Bool} {l152 : List Int} {k155 : Nat} : LeC (Ee_ n x0 l126 k129 l150 l152 k155) (Af_ x0 l126 k129 l150 l152 k155) := by
  unfold Ee_ Af_; infer_instance
def Ef_ (n : Nat) (x0 : Dfa) (l124 : List Bool) (l126 : List Int) (k129 : Nat) : Option (((List Bool) × (List Int) × Nat) ⊕ ((List Int))) :=
  iteO (decide (((k129 : Nat) : Int) < ((l126.length : Nat) : Int))) (grd (0 ≤ (nth l126 k129 (0 : Int)) ∧ (nth l126 k129 (0 : Int)) < (x0.next.length : Int)) (iterX n (fun q : (List Bool) × (List Int) × Nat => Ee_ n x0 l126 k129 q.1 q.2.1 q.2.2) (l124, l126, 0))) (fin (some l126))
instance mini_reached_b1_le {n : Nat} {x0 : Dfa} {l124 : List Bool} {l126 : List Int} {k129 : Nat} : LeC (Ef_ n x0 l124 l126 k129) (At_ x0 l124 l126 k129) := by
  unfold Ef_ At_; infer_instance
def Fb_ (n : Nat) (x0 : Dfa) : Option ((List Int)) :=
  grd (1 * x0.next.length ≤ 281474976710656) (grd (0 < (List.replicate x0.next.length false).length) (iterX n (fun q : (List Bool) × (List Int) × Nat => Ef_ n x0 q.1 q.2.1 q.2.2) (((List.replicate x0.next.length false).set 0 true), [0], 0)))
instance mini_reached_le {n : Nat} {x0 : Dfa} : LeC (Fb_ n x0) (Co_ x0) := by
  unfold Fb_ Co_; infer_instance
def F4_ (n : Nat) (x0 : List Int) (l112 : List UInt8) (k115 : Nat) : Option (((List UInt8) × Nat) ⊕ ((List UInt8))) :=
  iteO (decide (((k115 : Nat) : Int) < ((x0.length : Nat) : Int))) (grd ((l112.length + [(toU8 (ishr .i64 (nth x0 k115 (0 : Int)) 8)), (toU8 (nth x0 k115 (0 : Int)))].length) * 1 ≤ 140737488355328) (nxt ((l112 ++ [(toU8 (ishr .i64 (nth x0 k115 (0 : Int)) 8)), (toU8 (nth x0 k115 (0 : Int)))]), (k115 + 1)))) (fin (some l112))
instance mini_key_b1_le {n : Nat} {x0 : List Int} {l112 : List UInt8} {k115 : Nat} : LeC (F4_ n x0 l112 k115) (Bh_ x0 l112 k115) := by
  unfold F4_ Bh_; infer_instance
def F8_ (n : Nat) (x0 : List Int) : Option ((List UInt8)) :=
  grd (0 ≤ IntKind.i64.wrap (2 * ((x0.length : Nat) : Int)) ∧ 1 * (IntKind.i64.wrap (2 * ((x0.length : Nat) : Int))).toNat ≤ 281474976710656) (iterX n (fun q : (List UInt8) × Nat => F4_ n x0 q.1 q.2) (([] : List UInt8), 0))
instance mini_key_le {n : Nat} {x0 : List Int} : LeC (F8_ n x0) (Dg_ x0) := by
  unfold F8_ Dg_; infer_instance
def Di_ (n : Nat) (k114 : Nat) (l117 : List Int) : Option (((List Int) × Nat) ⊕ ((List Int) × Int)) :=
  nxt (l117, (k114 + 1))
instance mini_groups_j1_le {n : Nat} {k114 : Nat} {l117 : List Int} : LeC (Di_ n k114 l117) (B3_ k114 l117) := by
  unfold Di_ B3_; infer_instance
def Dj_ (n : Nat) (x1 : List Int) (k164 : Nat) (l162 : List Int) (m207 : FM (List UInt8) Int) (i209 : Int) : Option (((FM (List UInt8) Int) × (List Int) × Nat) ⊕ (((List Int) × Nat) ⊕ ((List Int) × Int))) :=
  grd (0 ≤ (nth x1 k164 (0 : Int)) ∧ (nth x1 k164 (0 : Int)) < (l162.length : Int)) (nxt (m207, (l162.set ((nth x1 k164 (0 : Int)).toNat) i209), (k164 + 1)))
instance mini_groups_j2_le {n : Nat} {x1 : List Int} {k164 : Nat} {l162 : List Int} {m207 : FM (List UInt8) Int} {i209 : Int} : LeC (Dj_ n x1 k164 l162 m207 i209) (Ba_ x1 k164 l162 m207 i209) := by
  unfold Dj_ Ba_; infer_instance
def Ep_ (n : Nat) (x0 : Dfa) (x1 : List Int) (k164 : Nat) (l138 : List Int) (m161 : FM (List UInt8) Int) (l162 : List Int) (l189 : List Int) (k192 : Nat) : Option (((List Int) × Nat) ⊕ (((FM (List UInt8) Int) × (List Int) × Nat) ⊕ (((List Int) × Nat) ⊕ ((List Int) × Int)))) :=
  iteO (decide (((k192 : Nat) : Int) < (((nth x0.next ((nth x1 k164 (0 : Int)).toNat) ([] : List Int)).length : Nat) : Int))) (grd (0 ≤ (nth (nth x0.next ((nth x1 k164 (0 : Int)).toNat) ([] : List Int)) k192 (0 : Int)) ∧ (nth (nth x0.next ((nth x1 k164 (0 : Int)).toNat) ([] : List Int)) k192 (0 : Int)) < (l138.length : Int)) (grd ((l189.length + [(nth l138 ((nth (nth x0.next ((nth x1 k164 (0 : Int)).toNat) ([] : List Int)) k192 (0 : Int)).toNat) (0 : Int))].length) * 8 ≤ 140737488355328) (nxt ((l189 ++ [(nth l138 ((nth (nth x0.next ((nth x1 k164 (0 : Int)).toNat) ([] : List Int)) k192 (0 : Int)).toNat) (0 : Int))]), (k192 + 1))))) (fin (bnd (F8_ n l189) (fun v70 => iteO (!(m161.has v70)) (Dj_ n x1 k164 l162 (m161.put v70 ((m161.n : Nat) : Int)) ((m161.n : Nat) : Int)) (Dj_ n x1 k164 l162 m161 (m161.get v70 0)))))
instance mini_groups_b4_le {n : Nat} {x0 : Dfa} {x1 : List Int} {k164 : Nat} {l138 : List Int} {m161 : FM (List UInt8) Int} {l162 : List Int} {l189 : List Int} {k192 : Nat} : LeC (Ep_ n x0 x1 k164 l138 m161 l162 l189 k192) (Aj_ x0 x1 k164 l138 m161 l162 l189 k192) := by
  unfold Ep_ Aj_; infer_instance
def Eo_ (n : Nat) (x1 : List Int) (l138 : List Int) (x0 : Dfa) (k142 : Nat) (m161 : FM (List UInt8) Int) (l162 : List Int) (k164 : Nat) : Option (((FM (List UInt8) Int) × (List Int) × Nat) ⊕ (((List Int) × Nat) ⊕ ((List Int) × Int))) :=
  iteO (decide (((k164 : Nat) : Int) < ((x1.length : Nat) : Int))) (grd (0 ≤ (nth x1 k164 (0 : Int)) ∧ (nth x1 k164 (0 : Int)) < (l138.length : Int)) (grd (0 ≤ (nth x1 k164 (0 : Int)) ∧ (nth x1 k164 (0 : Int)) < (x0.next.length : Int)) (iterX n (fun q : (List Int) × Nat => Ep_ n x0 x1 k164 l138 m161 l162 q.1 q.2) ([(nth l138 ((nth x1 k164 (0 : Int)).toNat) (0 : Int))], 0)))) (fin (iteO (decide (((m161.n : Nat) : Int) = ((k142 : Nat) : Int))) (fin (some (l162, ((k142 : Nat) : Int)))) (nxt (l162, m161.n))))
instance mini_groups_b3_le {n : Nat} {x1 : List Int} {l138 : List Int} {x0 : Dfa} {k142 : Nat} {m161 : FM (List UInt8) Int} {l162 : List Int} {k164 : Nat} : LeC (Eo_ n x1 l138 x0 k142 m161 l162 k164) (Ar_ x1 l138 x0 k142 m161 l162 k164) := by
  unfold Eo_ Ar_; infer_instance
def Em_ (n : Nat) (x0 : Dfa) (x1 : List Int) (l138 : List Int) (k142 : Nat) : Option (((List Int) × Nat) ⊕ ((List Int) × Int)) :=
  grd (8 * x0.next.length ≤ 281474976710656) (iterX n (fun q : (FM (List UInt8) Int) × (List Int) × Nat => Eo_ n x1 l138 x0 k142 q.1 q.2.1 q.2.2) ((FM.emp : FM (List UInt8) Int), (List.replicate x0.next.length (0 : Int)), 0))
instance mini_groups_b2_le {n : Nat} {x0 : Dfa} {x1 : List Int} {l138 : List Int} {k142 : Nat} : LeC (Em_ n x0 x1 l138 k142) (Al_ x0 x1 l138 k142) := by
  unfold Em_ Al_; infer_instance
def El_ (n : Nat) (x1 : List Int) (x0 : Dfa) (l112 : List Int) (k114 : Nat) : Option (((List Int) × Nat) ⊕ ((List Int) × Int)) :=
  iteO (decide (((k114 : Nat) : Int) < ((x1.length : Nat) : Int))) (grd (0 ≤ (nth x1 k114 (0 : Int)) ∧ (nth x1 k114 (0 : Int)) < (x0.fin.length : Int)) (iteO (nth x0.fin ((nth x1 k114 (0 : Int)).toNat) false) (grd (0 ≤ (nth x1 k114 (0 : Int)) ∧ (nth x1 k114 (0 : Int)) < (l112.length : Int)) (Di_ n k114 (l112.set ((nth x1 k114 (0 : Int)).toNat) 1))) (Di_ n k114 l112))) (fin (iterX n (fun q : (List Int) × Nat => Em_ n x0 x1 q.1 q.2) (l112, 0)))
instance mini_groups_b1_le {n : Nat} {x1 : List Int} {x0 : Dfa} {l112 : List Int} {k114 : Nat} : LeC (El_ n x1 x0 l112 k114) (As_ x1 x0 l112 k114) := by
  unfold El_ As_; infer_instance
def Fx_ (n : Nat) (x0 : Dfa) (x1 : List Int) : Option ((List Int) × Int) :=
  grd (8 * x0.next.length ≤ 281474976710656) (iterX n (fun q : (List Int) × Nat => El_ n x1 x0 q.1 q.2) ((List.replicate x0.next.length (0 : Int)), 0))
instance mini_groups_le {n : Nat} {x0 : Dfa} {x1 : List Int} : LeC (Fx_ n x0 x1) (Cy_ x0 x1) := by
  unfold Fx_ Cy_; infer_instance
def C2_ (n : Nat) (l125 : List Int) (k133 : Nat) (l168 : List Int) (m171 : FM (List UInt8) Int) (i172 : Int) : Option (((List Int) × (List Int) × (FM (List UInt8) Int) × Nat) ⊕ ((List Int) × (List Int))) :=
  grd ((l125.length + [i172].length) * 8 ≤ 140737488355328) (nxt ((l125 ++ [i172]), l168, m171, (k133 + 1)))
instance mini_columns_j1_le {n : Nat} {l125 : List Int} {k133 : Nat} {l168 : List Int} {m171 : FM (List UInt8) Int} {i172 : Int} : LeC (C2_ n l125 k133 l168 m171 i172) (Au_ l125 k133 l168 m171 i172) := by
  unfold C2_ Au_; infer_instance
def Ed_ (n : Nat) (x0 : List (List Int)) (k133 : Nat) (m132 : FM (List UInt8) Int) (l129 : List Int) (l125 : List Int) (l150 : List Int) (k153 : Nat) : Option (((List Int) × Nat) ⊕ (((List Int) × (List Int) × (FM (List UInt8) Int) × Nat) ⊕ ((List Int) × (List Int)))) :=
  iteO (decide (((k153 : Nat) : Int) < ((x0.length : Nat) : Int))) (grd (k133 < (nth x0 k153 ([] : List Int)).length) (grd ((l150.length + [(nth (nth x0 k153 ([] : List Int)) k133 (0 : Int))].length) * 8 ≤ 140737488355328) (nxt ((l150 ++ [(nth (nth x0 k153 ([] : List Int)) k133 (0 : Int))]), (k153 + 1))))) (fin (bnd (F8_ n l150) (fun v32 => iteO (!(m132.has v32)) (grd ((l129.length + [((k133 : Nat) : Int)].length) * 8 ≤ 140737488355328) (C2_ n l125 k133 (l129 ++ [((k133 : Nat) : Int)]) (m132.put v32 ((m132.n : Nat) : Int)) ((m132.n : Nat) : Int))) (C2_ n l125 k133 l129 m132 (m132.get v32 0)))))
instance mini_columns_b2_le {n : Nat} {x0 : List (List Int)} {k133 : Nat} {m132 : FM (List UInt8) Int} {l129 : List Int} {l125 : List Int} {l150 : List Int} {k153 : Nat} : LeC (Ed_ n x0 k133 m132 l129 l125 l150 k153) (Am_ x0 k133 m132 l129 l125 l150 k153) := by
  unfold Ed_ Am_; infer_instance
def Eg_ (n : Nat) (x0 : List (List Int)) (l125 : List Int) (l129 : List Int) (m132 : FM (List UInt8) Int) (k133 : Nat) : Option (((List Int) × (List Int) × (FM (List UInt8) Int) × Nat) ⊕ ((List Int) × (List Int))) :=
  iteO (decide (((k133 : Nat) : Int) < (((nth x0 0 ([] : List Int)).length : Nat) : Int))) (iterX n (fun q : (List Int) × Nat => Ed_ n x0 k133 m132 l129 l125 q.1 q.2) (([] : List Int), 0)) (fin (some (l125, l129)))
instance mini_columns_b1_le {n : Nat} {x0 : List (List Int)} {l125 : List Int} {l129 : List Int} {m132 : FM (List UInt8) Int} {k133 : Nat} : LeC (Eg_ n x0 l125 l129 m132 k133) (An_ x0 l125 l129 m132 k133) := by
  unfold Eg_ An_; infer_instance
def Fe_ (n : Nat) (x0 : List (List Int)) : Option ((List Int) × (List Int)) :=
  grd (0 < x0.length) (iterX n (fun q : (List Int) × (List Int) × (FM (List UInt8) Int) × Nat => Eg_ n x0 q.1 q.2.1 q.2.2.1 q.2.2.2) (([] : List Int), ([] : List Int), (FM.emp : FM (List UInt8) Int), 0))
instance mini_columns_le {n : Nat} {x0 : List (List Int)} : LeC (Fe_ n x0) (Cp_ x0) := by
  unfold Fe_ Cp_; infer_instance
def D2_ (n : Nat) (x0 : Dfa) (l154 : List Int) (k163 : Nat) (k210 : Nat) (x1 : List Int) (l207 : List Int) (l219 : List Int) (l221 : List Int) : Option (((List Int) × (List Int) × (List Int) × Nat) ⊕ (((List Int) × (List Int) × (List (List Int)) × Nat) ⊕ (Dfa))) :=
  grd (0 ≤ (nth (nth x0.next ((nth l154 k163 (0 : Int)).toNat) ([] : List Int)) k210 (0 : Int)) ∧ (nth (nth x0.next ((nth l154 k163 (0 : Int)).toNat) ([] : List Int)) k210 (0 : Int)) < (x1.length : Int)) (grd (0 ≤ (nth x1 ((nth (nth x0.next ((nth l154 k163 (0 : Int)).toNat) ([] : List Int)) k210 (0 : Int)).toNat) (0 : Int)) ∧ (nth x1 ((nth (nth x0.next ((nth l154 k163 (0 : Int)).toNat) ([] : List Int)) k210 (0 : Int)).toNat) (0 : Int)) < (l219.length : Int)) (grd ((l207.length + [(nth l219 ((nth x1 ((nth (nth x0.next ((nth l154 k163 (0 : Int)).toNat) ([] : List Int)) k210 (0 : Int)).toNat) (0 : Int)).toNat) (0 : Int))].length) * 8 ≤ 140737488355328) (nxt (l219, l221, (l207 ++ [(nth l219 ((nth x1 ((nth (nth x0.next ((nth l154 k163 (0 : Int)).toNat) ([] : List Int)) k210 (0 : Int)).toNat) (0 : Int)).toNat) (0 : Int))]), (k210 + 1)))))
instance mini_small_j1_le {n : Nat} {x0 : Dfa} {l154 : List Int} {k163 : Nat} {k210 : Nat} {x1 : List Int} {l207 : List Int} {l219 : List Int} {l221 : List Int} : LeC (D2_ n x0 l154 k163 k210 x1 l207 l219 l221) (B0_ x0 l154 k163 k210 x1 l207 l219 l221) := by
  unfold D2_ B0_; infer_instance
def Ex_ (n : Nat) (x0 : Dfa) (l154 : List Int) (k163 : Nat) (x1 : List Int) (l158 : List (List Int)) (l200 : List Int) (l202 : List Int) (l207 : List Int) (k210 : Nat) : Option (((List Int) × (List Int) × (List Int) × Nat) ⊕ (((List Int) × (List Int) × (List (List Int)) × Nat) ⊕ (Dfa))) :=
  iteO (decide (((k210 : Nat) : Int) < (((nth x0.next ((nth l154 k163 (0 : Int)).toNat) ([] : List Int)).length : Nat) : Int))) (grd (0 ≤ (nth (nth x0.next ((nth l154 k163 (0 : Int)).toNat) ([] : List Int)) k210 (0 : Int)) ∧ (nth (nth x0.next ((nth l154 k163 (0 : Int)).toNat) ([] : List Int)) k210 (0 : Int)) < (x1.length : Int)) (grd (0 ≤ (nth x1 ((nth (nth x0.next ((nth l154 k163 (0 : Int)).toNat) ([] : List Int)) k210 (0 : Int)).toNat) (0 : Int)) ∧ (nth x1 ((nth (nth x0.next ((nth l154 k163 (0 : Int)).toNat) ([] : List Int)) k210 (0 : Int)).toNat) (0 : Int)) < (l200.length : Int)) (iteO (decide ((nth l200 ((nth x1 ((nth (nth x0.next ((nth l154 k163 (0 : Int)).toNat) ([] : List Int)) k210 (0 : Int)).toNat) (0 : Int)).toNat) (0 : Int)) < 0)) (grd (0 ≤ (nth (nth x0.next ((nth l154 k163 (0 : Int)).toNat) ([] : List Int)) k210 (0 : Int)) ∧ (nth (nth x0.next ((nth l154 k163 (0 : Int)).toNat) ([] : List Int)) k210 (0 : Int)) < (x1.length : Int)) (grd (0 ≤ (nth x1 ((nth (nth x0.next ((nth l154 k163 (0 : Int)).toNat) ([] : List Int)) k210 (0 : Int)).toNat) (0 : Int)) ∧ (nth x1 ((nth (nth x0.next ((nth l154 k163 (0 : Int)).toNat) ([] : List Int)) k210 (0 : Int)).toNat) (0 : Int)) < (l200.length : Int)) (grd ((l202.length + [(nth (nth x0.next ((nth l154 k163 (0 : Int)).toNat) ([] : List Int)) k210 (0 : Int))].length) * 8 ≤ 140737488355328) (D2_ n x0 l154 k163 k210 x1 l207 (l200.set ((nth x1 ((nth (nth x0.next ((nth l154 k163 (0 : Int)).toNat) ([] : List Int)) k210 (0 : Int)).toNat) (0 : Int)).toNat) ((l202.length : Nat) : Int)) (l202 ++ [(nth (nth x0.next ((nth l154 k163 (0 : Int)).toNat) ([] : List Int)) k210 (0 : Int))]))))) (D2_ n x0 l154 k163 k210 x1 l207 l200 l202)))) (fin (grd ((l158.length + [l207].length) * 24 ≤ 140737488355328) (nxt (l200, l202, (l158 ++ [l207]), (k163 + 1)))))
instance mini_small_b3_le {n : Nat} {x0 : Dfa} {l154 : List Int} {k163 : Nat} {x1 : List Int} {l158 : List (List Int)} {l200 : List Int} {l202 : List Int} {l207 : List Int} {k210 : Nat} : LeC (Ex_ n x0 l154 k163 x1 l158 l200 l202 l207 k210) (Ap_ x0 l154 k163 x1 l158 l200 l202 l207 k210) := by
  unfold Ex_ Ap_; infer_instance
def E5_ (n : Nat) (v91 : (List Int) × (List Int)) (k320 : Nat) (l158 : List (List Int)) (l311 : List (List Int)) (l154 : List Int) (x0 : Dfa) (l317 : List Bool) (l349 : List Int) (k351 : Nat) : Option (((List Int) × Nat) ⊕ (((List (List Int)) × (List Bool) × Nat) ⊕ (Dfa))) :=
  iteO (decide (((k351 : Nat) : Int) < ((v91.2.length : Nat) : Int))) (grd (k320 < l158.length) (grd (0 ≤ (nth v91.2 k351 (0 : Int)) ∧ (nth v91.2 k351 (0 : Int)) < ((nth l158 k320 ([] : List Int)).length : Int)) (grd (k351 < l349.length) (nxt ((l349.set k351 (nth (nth l158 k320 ([] : List Int)) ((nth v91.2 k351 (0 : Int)).toNat) (0 : Int))), (k351 + 1)))))) (fin (grd ((l311.length + [l349].length) * 24 ≤ 140737488355328) (grd (0 ≤ (nth l154 k320 (0 : Int)) ∧ (nth l154 k320 (0 : Int)) < (x0.fin.length : Int)) (grd ((l317.length + [(nth x0.fin ((nth l154 k320 (0 : Int)).toNat) false)].length) * 1 ≤ 140737488355328) (nxt ((l311 ++ [l349]), (l317 ++ [(nth x0.fin ((nth l154 k320 (0 : Int)).toNat) false)]), (k320 + 1)))))))
instance mini_small_b6_le {n : Nat} {v91 : (List Int) × (List Int)} {k320 : Nat} {l158 : List (List Int)} {l311 : List (List Int)} {l154 : List Int} {x0 : Dfa} {l317 : List Bool} {l349 : List Int} {k351 : Nat} : LeC (E5_ n v91 k320 l158 l311 l154 x0 l317 l349 k351) (Ay_ v91 k320 l158 l311 l154 x0 l317 l349 k351) := by
  unfold E5_ Ay_; infer_instance
def E6_ (n : Nat) (l154 : List Int) (v91 : (List Int) × (List Int)) (l158 : List (List Int)) (x0 : Dfa) (l273 : List Int) (l311 : List (List Int)) (l317 : List Bool) (k320 : Nat) : Option (((List (List Int)) × (List Bool) × Nat) ⊕ (Dfa)) :=
  iteO (decide (((k320 : Nat) : Int) < ((l154.length : Nat) : Int))) (grd (8 * v91.2.length ≤ 281474976710656) (iterX n (fun q : (List Int) × Nat => E5_ n v91 k320 l158 l311 l154 x0 l317 q.1 q.2) ((List.replicate v91.2.length (0 : Int)), 0))) (fin (some (⟨l273, l311, l317⟩ : Dfa)))
instance mini_small_b5_le {n : Nat} {l154 : List Int} {v91 : (List Int) × (List Int)} {l158 : List (List Int)} {x0 : Dfa} {l273 : List Int} {l311 : List (List Int)} {l317 : List Bool} {k320 : Nat} : LeC (E6_ n l154 v91 l158 x0 l273 l311 l317 k320) (Aq_ l154 v91 l158 x0 l273 l311 l317 k320) := by
  unfold E6_ Aq_; infer_instance
def Eq_ (n : Nat) (x0 : Dfa) (v91 : (List Int) × (List Int)) (l154 : List Int) (l158 : List (List Int)) (l273 : List Int) (k275 : Nat) : Option (((List Int) × Nat) ⊕ (Dfa)) :=
  iteO (decide (((k275 : Nat) : Int) < ((x0.cls.length : Nat) : Int))) (grd (0 ≤ (nth x0.cls k275 (0 : Int)) ∧ (nth x0.cls k275 (0 : Int)) < (v91.1.length : Int)) (grd (k275 < l273.length) (nxt ((l273.set k275 (nth v91.1 ((nth x0.cls k275 (0 : Int)).toNat) (0 : Int))), (k275 + 1))))) (fin (iterX n (fun q : (List (List Int)) × (List Bool) × Nat => E6_ n l154 v91 l158 x0 l273 q.1 q.2.1 q.2.2) (([] : List (List Int)), ([] : List Bool), 0)))
instance mini_small_b4_le {n : Nat} {x0 : Dfa} {v91 : (List Int) × (List Int)} {l154 : List Int} {l158 : List (List Int)} {l273 : List Int} {k275 : Nat} : LeC (Eq_ n x0 v91 l154 l158 l273 k275) (A2_ x0 v91 l154 l158 l273 k275) := by
  unfold Eq_ A2_; infer_instance
def Ew_ (n : Nat) (x0 : Dfa) (x1 : List Int) (l152 : List Int) (l154 : List Int) (l158 : List (List Int)) (k163 : Nat) : Option (((List Int) × (List Int) × (List (List Int)) × Nat) ⊕ (Dfa)) :=
  iteO (decide (((k163 : Nat) : Int) < ((l154.length : Nat) : Int))) (grd (0 ≤ (nth l154 k163 (0 : Int)) ∧ (nth l154 k163 (0 : Int)) < (x0.next.length : Int)) (iterX n (fun q : (List Int) × (List Int) × (List Int) × Nat => Ex_ n x0 l154 k163 x1 l158 q.1 q.2.1 q.2.2.1 q.2.2.2) (l152, l154, ([] : List Int), 0))) (fin (bnd (Fe_ n l158) (fun v91 => grd (8 * x0.cls.length ≤ 281474976710656) (iterX n (fun q : (List Int) × Nat => Eq_ n x0 v91 l154 l158 q.1 q.2) ((List.replicate x0.cls.length (0 : Int)), 0)))))
instance mini_small_b2_le {n : Nat} {x0 : Dfa} {x1 : List Int} {l152 : List Int} {l154 : List Int} {l158 : List (List Int)} {k163 : Nat} : LeC (Ew_ n x0 x1 l152 l154 l158 k163) (A1_ x0 x1 l152 l154 l158 k163) := by
  unfold Ew_ A1_; infer_instance
def E1_ (n : Nat) (x2 : Int) (x1 : List Int) (x0 : Dfa) (l114 : List Int) (k116 : Nat) : Option (((List Int) × Nat) ⊕ (Dfa)) :=
  iteO (decide (((k116 : Nat) : Int) < (((List.replicate x2.toNat (0 : Int)).length : Nat) : Int))) (grd (k116 < l114.length) (nxt ((l114.set k116 (-1)), (k116 + 1)))) (fin (grd (0 < x1.length) (grd (0 ≤ (nth x1 0 (0 : Int)) ∧ (nth x1 0 (0 : Int)) < (l114.length : Int)) (iterX n (fun q : (List Int) × (List Int) × (List (List Int)) × Nat => Ew_ n x0 x1 q.1 q.2.1 q.2.2.1 q.2.2.2) ((l114.set ((nth x1 0 (0 : Int)).toNat) 0), [0], ([] : List (List Int)), 0)))))
instance mini_small_b1_le {n : Nat} {x2 : Int} {x1 : List Int} {x0 : Dfa} {l114 : List Int} {k116 : Nat} : LeC (E1_ n x2 x1 x0 l114 k116) (A3_ x2 x1 x0 l114 k116) := by
  unfold E1_ A3_; infer_instance
def Gi_ (n : Nat) (x0 : Dfa) (x1 : List Int) (x2 : Int) : Option (Dfa) :=
  grd (0 ≤ x2 ∧ 8 * x2.toNat ≤ 281474976710656) (iterX n (fun q : (List Int) × Nat => E1_ n x2 x1 x0 q.1 q.2) ((List.replicate x2.toNat (0 : Int)), 0))
instance mini_small_le {n : Nat} {x0 : Dfa} {x1 : List Int} {x2 : Int} : LeC (Gi_ n x0 x1 x2) (Dd_ x0 x1 x2) := by
  unfold Gi_ Dd_; infer_instance
def G3_ (n : Nat) (x0 : Dfa) : Option (Dfa × Int) :=
  bnd (Fh_ n x0) (fun v5 => iteO (decide (v5 ≠ 0)) (some ((⟨([] : List Int), ([] : List (List Int)), ([] : List Bool)⟩ : Dfa), 1)) (bnd (Fb_ n x0) (fun v12 => bnd (Fx_ n x0 v12) (fun v13 => bnd (Gi_ n x0 v13.1 v13.2) (fun v22 => some (v22, 0))))))
instance mini_Min_le {n : Nat} {x0 : Dfa} : LeC (G3_ n x0) (Cw_ x0) := by
  unfold G3_ Cw_; infer_instance
end Go.Proofs.YtnpbfjdpglfdkaaGreatDoor
end

section
namespace Go.Proofs.YtnpbfjdpglfdkaaGreatDoor
open Go Go.E
theorem ex_ite {α : Type} {b : Bool} {x y : Option α} (h1 : b = true → ∃ r, x = some r) (h2 : b = false → ∃ r, y = some r) : ∃ r, iteO b x y = some r := by
  cases b with
  | true => exact h1 rfl
  | false => exact h2 rfl
theorem ex_some {α : Type} (x : α) : ∃ r, some x = some r := ⟨x, rfl⟩
theorem few15_j3 (t : Fst) (i : Int) : ∃ r, Bb_ t i = some r := by
  unfold Bb_
  exact ex_ite (fun _ => ex_ite (fun _ => ex_some _) (fun _ => ex_some _)) (fun _ => ex_some _)
theorem few15_j2 (t : Fst) (i : Int) : ∃ r, Bc_ t i = some r := by
  unfold Bc_
  obtain ⟨r, h, -⟩ := iter_up (step := fun q : Int × Nat => Ab_ t q.1 q.2) (fun (s : Int) k => (s, k)) t.arcs.length (fun _ _ => True) (fun _ => True)
    (fun k s hk _ => by
      show (∃ s', Ab_ t s k = _ ∧ _) ∨ ∃ r, Ab_ t s k = _ ∧ _
      unfold Ab_
      rw [iteO_dt (by omega)]
      by_cases h : s ≤ 60
      · rw [iteO_dt h]; exact .inl ⟨_, rfl, trivial⟩
      · rw [iteO_df h]; obtain ⟨r, hr⟩ := few15_j3 t s; exact .inr ⟨r, by rw [hr]; rfl, trivial⟩)
    (fun s _ => by
      show ∃ r, Ab_ t s _ = _ ∧ _
      unfold Ab_
      rw [iteO_df (by omega)]
      obtain ⟨r, hr⟩ := few15_j3 t s; exact ⟨r, by rw [hr]; rfl, trivial⟩) (s0 := i) trivial
  exact ⟨r, h⟩
theorem few15_j1 (t : Fst) (i : Int) : ∃ r, Bd_ t i = some r := by
  unfold Bd_
  obtain ⟨r, h, -⟩ := iter_up (step := fun q : Int × Nat => Aa_ t q.1 q.2) (fun (s : Int) k => (s, k)) t.ends.length (fun _ _ => True) (fun _ => True)
    (fun k s hk _ => by
      show (∃ s', Aa_ t s k = _ ∧ _) ∨ ∃ r, Aa_ t s k = _ ∧ _
      unfold Aa_
      rw [iteO_dt (by omega)]
      by_cases h : s ≤ 60
      · rw [iteO_dt h]; exact .inl ⟨_, rfl, trivial⟩
      · rw [iteO_df h]; obtain ⟨r, hr⟩ := few15_j2 t s; exact .inr ⟨r, by rw [hr]; rfl, trivial⟩)
    (fun s _ => by
      show ∃ r, Aa_ t s _ = _ ∧ _
      unfold Aa_
      rw [iteO_df (by omega)]
      obtain ⟨r, hr⟩ := few15_j2 t s; exact ⟨r, by rw [hr]; rfl, trivial⟩) (s0 := i) trivial
  exact ⟨r, h⟩
theorem few15_total (t : Fst) : ∃ r, Cn_ t = some r := by
  unfold Cn_
  obtain ⟨r, h, -⟩ := iter_up (step := fun q : Int × Nat => Ac_ t q.1 q.2) (fun (s : Int) k => (s, k)) t.starts.length (fun _ _ => True) (fun _ => True)
    (fun k s hk _ => by
      show (∃ s', Ac_ t s k = _ ∧ _) ∨ ∃ r, Ac_ t s k = _ ∧ _
      unfold Ac_
      rw [iteO_dt (by omega)]
      by_cases h : s ≤ 60
      · rw [iteO_dt h]; exact .inl ⟨_, rfl, trivial⟩
      · rw [iteO_df h]; obtain ⟨r, hr⟩ := few15_j1 t s; exact .inr ⟨r, by rw [hr]; rfl, trivial⟩)
    (fun s _ => by
      show ∃ r, Ac_ t s _ = _ ∧ _
      unfold Ac_
      rw [iteO_df (by omega)]
      obtain ⟨r, hr⟩ := few15_j1 t s; exact ⟨r, by rw [hr]; rfl, trivial⟩) trivial
  exact ⟨r, h⟩
end Go.Proofs.YtnpbfjdpglfdkaaGreatDoor
end

section
namespace Go.Proofs.YtnpbfjdpglfdkaaGreatDoor
open Go Go.E
def t18 : Fst := ⟨3, [⟨0, []⟩], [⟨2, []⟩], [⟨0, 1, BSet.ofL [97], [], false⟩, ⟨0, 2, BSet.ofL [98], [], false⟩]⟩
theorem t18_b : fstB t18 = true := by kernel_rfl
theorem use0 : useB t18 0 = true := useB_iff.2 ⟨.base ⟨⟨0, []⟩, by simp [t18], rfl⟩, .step (a := 2) (.base ⟨⟨2, []⟩, by simp [t18], rfl⟩) ⟨⟨0, 2, BSet.ofL [98], [], false⟩, by simp [t18], rfl, rfl⟩⟩
theorem use2 : useB t18 2 = true := useB_iff.2 ⟨.step (a := 0) (.base ⟨⟨0, []⟩, by simp [t18], rfl⟩) ⟨⟨0, 2, BSet.ofL [98], [], false⟩, by simp [t18], rfl, rfl⟩, .base ⟨⟨2, []⟩, by simp [t18], rfl⟩⟩
theorem back18 {s : Int} (h : Rch (enS t18) (arB t18) s) : s ≠ 1 := by
  cases h with
  | base h =>
    obtain ⟨x, hx, rfl⟩ := h
    simp only [t18, List.mem_cons, List.not_mem_nil, or_false] at hx
    rw [hx]; decide
  | step _ he =>
    obtain ⟨x, hx, -, rfl⟩ := he
    simp only [t18, List.mem_cons, List.not_mem_nil, or_false] at hx
    rcases hx with rfl | rfl <;> decide
theorem use1 : useB t18 1 = false := by
  cases h : useB t18 1
  · rfl
  · exact absurd rfl (back18 (useB_iff.1 h).2)
theorem keep_of {p : Nat → Bool} (h0 : p 0 = true) (h1 : p 1 = false) (h2 : p 2 = true) : keepF p t18 = ⟨2, [⟨0, []⟩], [⟨1, []⟩], [⟨0, 1, BSet.ofL [98], [], false⟩]⟩ := by
  have n0 : numB p 0 = 0 := by unfold numB; rw [show (0 : Int).toNat = 0 from rfl, h0]; rfl
  have n1 : numB p 1 = -1 := by unfold numB; rw [show (1 : Int).toNat = 1 from rfl, h1]; rfl
  have n2 : numB p 2 = 1 := by unfold numB; rw [show (2 : Int).toNat = 2 from rfl, h2]; simp [cntB, h0, h1]
  have c3 : cntB p 3 = 2 := by simp [cntB, h0, h1, h2]
  show (⟨((cntB p 3 : Nat) : Int), _, _, _⟩ : Fst) = _
  rw [c3]
  simp only [t18, keepT, keepA, List.filterMap_cons, List.filterMap_nil, n0, n1, n2]
  rfl
theorem keep18 : keepF (useB t18) t18 = ⟨2, [⟨0, []⟩], [⟨1, []⟩], [⟨0, 1, BSet.ofL [98], [], false⟩]⟩ := keep_of use0 use1 use2
theorem trim18 : trimD t18 = ⟨2, [⟨0, []⟩], [⟨1, []⟩], [⟨0, 1, BSet.ofL [98], [], false⟩]⟩ := by
  unfold trimD
  rw [keep18]
  unfold srt
  rw [Gf_ cmpTip_good (List.pairwise_singleton ..), Gf_ cmpTip_good (List.pairwise_singleton ..), Gf_ cmpArc_good (List.pairwise_singleton ..)]
theorem in18 : G0_ t18 = some (⟨3, [0], [2], [⟨0, 1, BSet.ofL [97]⟩, ⟨0, 2, BSet.ofL [98]⟩]⟩, 0) := by
  rw [in_eq, if_pos t18_b]
  unfold inN
  rw [show t18.starts.map Tip.state = [0] from rfl, show t18.ends.map Tip.state = [2] from rfl, Gf_ cmpI_good (List.pairwise_singleton ..), Gf_ cmpI_good (List.pairwise_singleton ..)]
  rfl
def d18 : Dfa := ⟨List.replicate 97 0 ++ 1 :: 2 :: List.replicate 157 0, [[1, 2, 3], [1, 1, 1], [1, 1, 1], [1, 1, 1]], [false, false, false, true]⟩
theorem of18 : Ho_ 300 ⟨3, [0], [2], [⟨0, 1, BSet.ofL [97]⟩, ⟨0, 2, BSet.ofL [98]⟩]⟩ = some (d18, 0) := by kernel_rfl
def m18 : Dfa := ⟨List.replicate 98 0 ++ 1 :: List.replicate 157 0, [[1, 2], [1, 1], [1, 1]], [false, false, true]⟩
theorem min18 : G3_ 300 d18 = some (m18, 0) := by kernel_rfl
theorem take18 : Gw_ 300 m18 [98] = some (true, 0) := by kernel_rfl
theorem domain18 : Bu_ t18 = some (m18, 0) := by
  unfold Bu_
  rw [in18, bnd_mk]
  dsimp only
  rw [iteO_df (by simp), show Fu_ _ = some (d18, 0) from LeC.le _ of18, bnd_mk]
  dsimp only
  rw [iteO_df (by simp), show Cw_ d18 = some (m18, 0) from LeC.le _ min18, bnd_mk]
theorem awake18 : Av_ = some true := by
  unfold Av_
  rw [grd_mk (by decide), grd_mk (by decide)]
  show bnd (Ea_ t18) (fun v17 => bnd (Bu_ t18) _) = _
  rw [trim_eq, if_pos t18_b, bnd_mk, domain18, bnd_mk, show Cv_ m18 [98] = some (true, 0) from LeC.le _ take18, bnd_mk, trim18]
  rfl
theorem small18_total (t : Fst) : ∃ b, A8_ t = some b := by
  unfold A8_
  obtain ⟨b, hb⟩ := few15_total t
  rw [bnd_some hb]
  exact ex_ite (fun _ => ex_ite (fun _ => ex_some _) (fun _ => ex_some _)) (fun _ => ex_some _)
end Go.Proofs.YtnpbfjdpglfdkaaGreatDoor
end

section
namespace Go.Proofs.YtnpbfjdpglfdkaaGreatDoor
open Go Go.E Go.E.OpVal Go.E.OpOk
end Go.Proofs.YtnpbfjdpglfdkaaGreatDoor
end

section
namespace Go.Proofs.YtnpbfjdpglfdkaaGreatDoor
open Go Go.E
structure GB (F : Fst) : Prop where
  sN : F.starts.length ≤ 1024
  eN : F.ends.length ≤ 1024
  aN : F.arcs.length ≤ 16384
  s : ∀ x ∈ F.starts, x.out.length ≤ 1024
  e : ∀ x ∈ F.ends, x.out.length ≤ 1024
  a : ∀ x ∈ F.arcs, x.out.length ≤ 1024
def Gr (g : Grow) (F : Fst) : Prop := g.over = true ∨ g = ⟨F, false⟩ ∧ GB F
theorem Gr.st {g : Grow} {F : Fst} (h : Gr g F) (x : Tip) : Gr (growSt g x) ⟨F.states, F.starts ++ [x], F.ends, F.arcs⟩ := by
  unfold growSt
  split
  · exact .inl rfl
  · rename_i hn
    rcases h with h | ⟨rfl, h⟩
    · exact absurd (.inl h) hn
    · simp only [Bool.false_eq_true, false_or, not_or, Nat.not_le, Nat.not_lt] at hn
      refine .inr ⟨rfl, ?_, h.eN, h.aN, fun y hy => ?_, h.e, h.a⟩
      · simp only [List.length_append, List.length_singleton]; omega
      · rcases List.mem_append.1 hy with hy | hy
        · exact h.s y hy
        · rw [List.mem_singleton.1 hy]; exact hn.2
section
variable {a b : Fst} (ha : FstOk a) (hb : FstOk b) {v48 : List (List Arc)} {l147 : List (List Tip)} (h48 : Grp Arc.frm id b.states.toNat v48 b.arcs) (h147 : Grp Tip.state id b.states.toNat l147 b.ends)
include ha hb h48 h147
end
section
variable {a : Fst} (ha : FstOk a) {v47 : List (List Arc)} (h47 : Grp Arc.frm id a.states.toNat v47 a.arcs)
include ha h47
end
end Go.Proofs.YtnpbfjdpglfdkaaGreatDoor
end

section
namespace Go.Proofs.YtnpbfjdpglfdkaaGreatDoor
open Go Go.E
end Go.Proofs.YtnpbfjdpglfdkaaGreatDoor
end

section
namespace Go.Proofs.YtnpbfjdpglfdkaaGreatDoor
open Go Go.E Go.E.OpVal Go.E.OpOk
end Go.Proofs.YtnpbfjdpglfdkaaGreatDoor
end

section
namespace Go.Proofs.YtnpbfjdpglfdkaaGreatDoor
open Go Go.E
abbrev ltB (x y : List UInt8) : Prop := Lib.compareBytes x y < 0
structure Gath (o : List Tip) (S : List FPair) : Prop where
  nd : o.Nodup
  sub : ∀ y ∈ o, tp y ∈ S
  len : o.length ≤ 4097
  all : o.length ≤ 4096 → ∀ q ∈ S, ∃ y ∈ o, tp y = q
theorem Gath.more {o : List Tip} {S : List FPair} (h : Gath o S) (hl : o.length ≤ 4096) (x : Tip) : Gath (if x ∈ o then o else o ++ [x]) (S ++ [tp x]) := by
  by_cases hx : x ∈ o
  · rw [if_pos hx]
    refine ⟨h.nd, fun y hy => List.mem_append_left _ (h.sub y hy), h.len, fun h4 q hq => ?_⟩
    rw [List.mem_append, List.mem_singleton] at hq
    rcases hq with hq | rfl
    · exact h.all h4 q hq
    · exact ⟨x, hx, rfl⟩
  · rw [if_neg hx]
    refine ⟨?_, fun y hy => ?_, by rw [List.length_append, List.length_singleton]; omega, fun h4 q hq => ?_⟩
    · rw [List.nodup_append]
      exact ⟨h.nd, by simp, fun a ha b hb => by rw [List.mem_singleton.1 hb]; intro e; subst e; exact hx ha⟩
    · rw [List.mem_append, List.mem_singleton] at *
      rcases hy with hy | rfl
      · exact .inl (h.sub y hy)
      · exact .inr rfl
    · rw [List.mem_append, List.mem_singleton] at hq
      rcases hq with hq | rfl
      · obtain ⟨y, hy, e⟩ := h.all hl q hq
        exact ⟨y, List.mem_append_left _ hy, e⟩
      · exact ⟨x, by simp, rfl⟩
theorem Gath.full {o : List Tip} {S T : List FPair} (h : Gath o S) (hl : 4096 < o.length) (hs : ∀ q ∈ S, q ∈ T) : Gath o T := ⟨h.nd, fun y hy => hs _ (h.sub y hy), h.len, fun h4 => by omega⟩
end Go.Proofs.YtnpbfjdpglfdkaaGreatDoor
end

section
namespace Go.Proofs.YtnpbfjdpglfdkaaGreatDoor
open Go Go.E Go.E.OpVal Go.E.OpOk
end Go.Proofs.YtnpbfjdpglfdkaaGreatDoor
end

section
namespace Go.Proofs.YtnpbfjdpglfdkaaGreatDoor
open Go Go.E Go.E.OpVal Go.E.OpOk
end Go.Proofs.YtnpbfjdpglfdkaaGreatDoor
end

section
namespace Go.Proofs.YtnpbfjdpglfdkaaGreatDoor
open Go Go.E
end Go.Proofs.YtnpbfjdpglfdkaaGreatDoor
end

section
namespace Go.Proofs.YtnpbfjdpglfdkaaGreatDoor
open Go Go.E
def dltN (d : Dfa) (s : Int) (b : Nat) : Int := nth (nth d.next s.toNat ([] : List Int)) ((nth d.cls b (0 : Int)).toNat) (0 : Int)
end Go.Proofs.YtnpbfjdpglfdkaaGreatDoor
end

section
namespace Go.Proofs.YtnpbfjdpglfdkaaGreatDoor
open Go Go.E Go.E.OpVal Go.E.OpOk
end Go.Proofs.YtnpbfjdpglfdkaaGreatDoor
end

section
namespace Go.Proofs.YtnpbfjdpglfdkaaGreatDoor
open Go Go.Shelf
end Go.Proofs.YtnpbfjdpglfdkaaGreatDoor
end

section
namespace Go.E
open Go
def _root_.Go.Result.w {α : Type} : Result α → World
  | .ok _ w => w
  | .halt _ w => w
def _root_.Go.GStep.w : GStep → World
  | .go _ w _ => w
  | .comm _ _ _ _ w _ => w
  | .spawn _ _ w _ => w
  | .count _ w _ => w
  | .timer _ _ w _ => w
  | .alone _ _ w _ => w
  | .newcoro _ _ _ w _ => w
  | .coroswitch _ _ _ w _ => w
  | .collect _ w _ => w
  | .watch _ w _ => w
  | .ended _ w _ => w
end Go.E
end

section
namespace Go.E
open Go Go.RowKit Go.Maps Go.Sort Go.Shelf Go.Proofs
end Go.E
namespace Go.E
open Go Go.RowKit Go.Maps Go.Sort Go.Shelf Go.Proofs
abbrev RK : Value → Option (DataW Unit × List MemPlace) := fun _ => some (.lit (.bool true), [])
def KeysIn {V : Type} (m : FM Int V) : Prop := ∀ k, m.f k ≠ none → (Lit.int .i64 k).wf = true
noncomputable instance {V : Type} (m : FM Int V) : Decidable (KeysIn m) := Classical.propDecidable _
end Go.E
end

section
namespace Go.Proofs.YtnpbfjdpglfdkaaGreatDoor
open Go Go.E Go.E.OpVal Go.E.OpOk
end Go.Proofs.YtnpbfjdpglfdkaaGreatDoor
end

section
namespace Go.Proofs.YtnpbfjdpglfdkaaGreatDoor
open Go Go.E
def lsetK (d : Dfa) (y : Int) (s : BSet) (k : Nat) (z : Int) : BSet := BSet.make fun b => decide (b < k) && (s.has b && decide (dltN d y b = z))
structure StK (d : Dfa) (y : Int) (s : BSet) (k : Nat) (m : FM Int BSet) : Prop where
  f : ∀ z, m.f z = if lsetK d y s k z = BSet.zero then none else some (lsetK d y s k z)
  n : m.n ≤ k
theorem StK.get {d : Dfa} {y : Int} {s : BSet} {k : Nat} {m : FM Int BSet} (h : StK d y s k m) (z : Int) : m.get z BSet.zero = lsetK d y s k z := by
  unfold FM.get
  rw [h.f z]
  by_cases e : lsetK d y s k z = BSet.zero
  · rw [if_pos e, e]; rfl
  · rw [if_neg e]; rfl
section
variable {t : Fst} {d : Dfa} (ht : FstOk t) (hd : rightD d = true) (hN : t.states * ((d.next.length : Nat) : Int) ≤ 1024)
include ht hd hN
end
end Go.Proofs.YtnpbfjdpglfdkaaGreatDoor
end

section
namespace Go.Proofs.YtnpbfjdpglfdkaaGreatDoor
open Go Go.E
theorem drop_nthT (l : List UInt8) {i : Nat} (hi : i < l.length) : l.drop i = nth l i 0 :: l.drop (i + 1) := by
  rw [List.drop_eq_getElem_cons hi]
  have := getD_some l hi (0 : UInt8)
  rw [List.getElem?_eq_getElem hi] at this
  rw [Option.some.inj this]
theorem tk_loop {d : Dfa} (h : rightD d = true) (l : List UInt8) : ∀ (m k : Nat) (q : Int), l.length - k = m → k ≤ l.length → okS d q → iter (fun q : Int × Nat => Ce_ l d q.1 q.2) (q, k) = some (runD d q (l.drop k), 0)
  | 0, k, q, hm, hk, hq => by
    have e : k = l.length := by omega
    subst e
    refine iter_done ?_
    simp only [Ce_]
    rw [iteO_df (by omega), List.drop_length]; rfl
  | m + 1, k, q, hm, hk, hq => by
    have hs := dlt_ok h hq (nth l k (0 : UInt8))
    rw [drop_nthT l (by omega), runD, List.foldl_cons]
    refine iter_next ?_ (tk_loop h l m (k + 1) (dlt d q (nth l k 0)) (by omega) (by omega) hs.nx)
    simp only [Ce_]
    rw [iteO_dt (by omega), grd_mk (show 0 ≤ q ∧ q < (d.next.length : Int) from hq), grd_mk hs.cl, grd_mk hs.c]
    rfl
theorem tk_eq (d : Dfa) (l : List UInt8) (hl : l.length ≤ 281474976710656) : Cv_ d l = some (if rightD d = true then (nth d.fin (runD d 0 l).toNat false, 0) else (false, 1)) := by
  unfold Cv_ F9_
  rw [grd_mk hl, grd_mk hl, dcheck_eq, bnd_mk]
  by_cases h : rightD d = true
  · obtain ⟨m, hm1, hm2, hn1, hn2, hfl, _⟩ := right_parts h
    rw [if_pos h, if_pos h, iteO_df (by omega), iteO_df (by omega), iteO_df (by omega), tk_loop h l _ 0 0 rfl (Nat.zero_le _) (ok0 h), bnd_mk]
    have hq := runD_ok h l (ok0 h)
    rw [List.drop_zero]
    simp only []
    rw [iteO_df (by omega), grd_mk (by rw [hfl]; exact hq)]
  · rw [if_neg h, if_neg h]
    rfl
end Go.Proofs.YtnpbfjdpglfdkaaGreatDoor
end

section
namespace Go.Proofs.YtnpbfjdpglfdkaaGreatDoor
open Go Go.E Go.E.OpVal Go.E.OpOk Go.Proofs.Tryz
private theorem ag25 : Go.E.aggOf Tryz.prog 25 = some true := by kernel_rfl
private theorem ag31 : Go.E.aggOf Tryz.prog 31 = some true := by kernel_rfl
private theorem pf5 : Go.E.plainF Tryz.prog 5 = true := by kernel_rfl
private theorem pf6 : Go.E.plainF Tryz.prog 6 = true := by kernel_rfl
private theorem pf7 : Go.E.plainF Tryz.prog 7 = true := by kernel_rfl
private theorem pf8 : Go.E.plainF Tryz.prog 8 = true := by kernel_rfl
private theorem pf9 : Go.E.plainF Tryz.prog 9 = true := by kernel_rfl
private theorem sz25 : Go.E.szOf Tryz.prog 25 = some 4 := by kernel_rfl
private theorem sz31 : Go.E.szOf Tryz.prog 31 = some 3 := by kernel_rfl
private theorem ze31 : Go.E.zeroOf Tryz.prog 31 = some (.agg #[.slice none 0 0, .slice none 0 0, .slice none 0 0]) := by kernel_rfl
noncomputable def Bt_ (x0 : Fst) (x1 : List UInt8) : Option (Bool) :=
 grd (x1.length ≤ 281474976710656) (bnd (A8_ x0) (fun v4 => iteO (!v4) (some true) (iteO (decide (4 < ((x1.length : Nat) : Int))) (some true) (bnd (Bu_ x0) (fun v13 => bnd (Ga_ x0 x1) (fun v22 => iteO (decide (v13.2 ≠ 0)) (bnd (Av_) (fun v34 => some v34)) (iteO (decide (v22.2 ≠ 0)) (bnd (Av_) (fun v34 => some v34)) (bnd (Cv_ v13.1 x1) (fun v38 => bnd (Av_) (fun v44 => iteO v44 (iteO (decide (v38.2 = 0)) (some (v38.1 == (decide (0 < ((v22.1.length : Nat) : Int))))) (some false)) (some false)))))))))))
theorem Fd_ {σ : Store} {x0 : Fst} {a0_0 : Option Addr} {c0_0 : Nat} {a0_1 : Option Addr} {c0_1 : Nat} {a0_2 : Option Addr} {c0_2 : Nat} {x1 : List UInt8} (hgl : GT σ 1 encU8 deB) (f0_0 : RS σ 2 encTip (.slice a0_0 x0.starts.length c0_0) x0.starts) (f0_1 : RS σ 2 encTip (.slice a0_1 x0.ends.length c0_1) x0.ends) (f0_2 : RS σ 8 encArc (.slice a0_2 x0.arcs.length c0_2) x0.arcs) {r : Bool} (hh : Bt_ x0 x1 = some r) :
  Con Tryz.prog 3 #[.agg #[.int .i64 x0.states, .slice a0_0 x0.starts.length c0_0, .slice a0_1 x0.ends.length c0_1, .slice a0_2 x0.arcs.length c0_2], .string (bs x1)] σ [] (PureP (.bool r) σ) := by
 dsimp only [Bt_] at hh
 have f0_0b := f0_0.rv.big
 have f0_1b := f0_1.rv.big
 have f0_2b := f0_2.rv.big
 refine Con.mk (n := 55) Tryz.func3 z z z (fun w0 => ?_)
 have x1b := grd_c hh
 replace hh := grd_t hh
 refine TC.a (TL.op z (boxA z z z z (fun b101 => ?_)))
 refine TL.j z z (TL.en (TC.seq (TC.a (TL.w z (loadAll z ag25 sz25 z (i := 0) z z) ?_))))
 obtain ⟨v4, u4, hh⟩ := bnd_e hh
 refine TL.op z (callP (Go_ (x0 := x0) f0_0 f0_1 f0_2 u4) z z pf5 z z z ?_)
 refine TL.w z (OpVal.not z z) (TL.j z z (TL.split 14 z (fun h103 => ?_) (fun h103 => ?_)))
 ·replace hh := iteO_t h103 hh
  refine TL.f z (TL.f z (TL.f z (TL.w z (pickTB z z z) (TL.en (TC.t z (TC.a (TL.j z z (TL.en (TC.rt 0 (S.r ?_))))))))))
  obtain rfl := so hh
  exact rq [4] ⟨z, z, z⟩
 ·replace hh := iteO_f h103 hh
  refine TL.g z (moveStr (.inl z) z) (TL.g z (lenBs z underlying9 z) (TL.g z (OpVal.gtr z z z) (TL.w z (pickFB z z z) (TL.en (TC.cD z hh (fun h104 hh => ?_) (fun h104 hh => ?_))))))
  ·refine TC.a (TL.j z z (TL.en (TC.rt 0 (S.r ?_))))
   obtain rfl := so hh
   exact rq [4] ⟨z, z, z⟩
  ·refine TC.skip (S.n (TC.a (TL.w z (loadAll z ag25 sz25 z (i := 0) z z) ?_)))
   obtain ⟨v13, u13, hh⟩ := bnd_e hh
   refine TL.op z (OpOk.call (Gk_ (x0 := x0) hgl f0_0 f0_1 f0_2 u13) z z pf6 z z z z ?_)
   rintro _ τ105 _ hle105 ⟨a105_1, c105_1, a105_2, c105_2, a105_3, c105_3, rfl, hr105_0, hr105_1, hr105_2, rfl⟩
   replace f0_0 := f0_0.mono hle105
   replace f0_1 := f0_1.mono hle105
   replace f0_2 := f0_2.mono hle105
   replace hgl := hgl.mono hle105
   have hr105_0b := hr105_0.rv.big
   have hr105_1b := hr105_1.big
   have hr105_2b := hr105_2.rv.big
   refine TL.w z (moveT (.inl z) z) (TL.w z (OpVal.extract z z z) (TL.w z (OpVal.extract z z z) (TL.op z (OpOk.alloc z ze31 z z (fun b106 => ?_)))))
   refine TL.op z (storeAll z sz31 z z z z z z ?_)
   refine TL.i z z (TL.en (TC.a (TL.w z (loadAll z ag25 sz25 z (i := 1) z z) (TL.w z (moveStr (.inl z) z) ?_))))
   obtain ⟨v22, u22, hh⟩ := bnd_e hh
   refine TL.op z (OpOk.call (Ii_ (x0 := x0) f0_0 f0_1 f0_2 u22) z z pf7 z z z z ?_)
   rintro _ τ108 _ hle108 ⟨a108_1, c108_1, rfl, hr108_0, rfl⟩
   replace hgl := hgl.mono hle108
   replace hr105_0 := hr105_0.mono hle108
   replace hr105_1 := hr105_1.mono hle108
   replace hr105_2 := hr105_2.mono hle108
   have hr108_0b := hr108_0.rv.big
   refine TL.w z (moveT (.inl z) z) (TL.w z (OpVal.extract z z z) (TL.w z (OpVal.extract z z z) (TL.s z z (TL.i z z (TL.en (TC.seq (TC.a (TL.i z z (TL.w z (OpVal.neq z z z) (TL.j z z (TL.split 32 z (fun h109 => ?_) (fun h109 => ?_))))))))))))
   ·replace hh := iteO_t h109 hh
    replace h109 := of_decide_eq_true h109
    refine TL.f z (TL.f z (TL.w z (pickTB z z z) (TL.en (TC.t z (TC.a ?_)))))
    obtain ⟨v34, u34, hh⟩ := bnd_e hh
    refine TL.op z (callP (Cx_ hgl u34) z z pf8 z z z ?_)
    refine TL.j z z (TL.en (TC.ofSub (Sub.pre 0 z) (TC.back (TC.ret (S.r ?_)))))
    obtain rfl := so hh
    exact rq [4] ⟨z, z, z⟩
   ·replace hh := iteO_f h109 hh
    replace h109 := of_decide_eq_false h109
    refine TL.g z (moveI (.inl z) z) (TL.g z (OpVal.neq z z z) (TL.w z (pickFB z z z) (TL.en (TC.cD z hh (fun h110 hh => ?_) (fun h110 hh => ?_)))))
    ·refine TC.a ?_
     obtain ⟨v34, u34, hh⟩ := bnd_e hh
     refine TL.op z (callP (Cx_ hgl u34) z z pf8 z z z ?_)
     refine TL.j z z (TL.en (TC.ofSub (Sub.pre 0 z) (TC.back (TC.ret (S.r ?_)))))
     obtain rfl := so hh
     exact rq [4] ⟨z, z, z⟩
    ·refine TC.skip (S.n (TC.a (TL.w z (loadAll z ag31 sz31 z (i := 0) z z) (TL.w z (moveStr (.inl z) z) ?_))))
     obtain ⟨v38, u38, hh⟩ := bnd_e hh
     refine TL.op z (callP (G7_ (x0 := v13.1) hr105_0 hr105_1 hr105_2 u38) z z pf9 z z z ?_)
     refine TL.w z (moveT (.inl z) z) (TL.w z (OpVal.extract z z z) (TL.w z (OpVal.extract z z z) (TL.j z z (TL.i z z (TL.en (TC.a ?_))))))
     obtain ⟨v44, u44, hh⟩ := bnd_e hh
     refine TL.op z (callP (Cx_ hgl u44) z z pf8 z z z ?_)
     refine TL.j z z (TL.split 44 z (fun h111 => ?_) (fun h111 => ?_))
     ·replace hh := iteO_t h111 hh
      refine TL.g z (moveI (.inl z) z) (TL.g z (OpVal.eql z z z) (TL.w z (pickTB z z z) (TL.j z z (TL.split 48 z (fun h112 => ?_) (fun h112 => ?_)))))
      ·replace hh := iteO_t h112 hh
       replace h112 := of_decide_eq_true h112
       refine TL.g z (moveB (.inl z) z) (TL.g z (moveSl (.inl z) z) (TL.g z (lenC z underlying35 z) (TL.g z (OpVal.gtr z z z) (TL.g z (eqlB z z z underlying4) (TL.w z (pickTB z z z) (TL.j z z (TL.en (TC.ofSub (Sub.pre 0 z) (TC.back (TC.ret ?_))))))))))
       obtain rfl := so hh
       exact rq [4] ⟨z, z, z⟩
      ·replace hh := iteO_f h112 hh
       replace h112 := of_decide_eq_false h112
       refine TL.f z (TL.f z (TL.f z (TL.f z (TL.f z (TL.w z (pickFB z z z) (TL.j z z (TL.en (TC.ofSub (Sub.pre 0 z) (TC.back (TC.ret ?_))))))))))
       obtain rfl := so hh
       exact rq [4] ⟨z, z, z⟩
     ·replace hh := iteO_f h111 hh
      refine TL.f z (TL.f z (TL.w z (pickFB z z z) (TL.j z z (TL.f z (TL.f z (TL.f z (TL.f z (TL.f z (TL.w z (pickFB z z z) (TL.j z z (TL.en (TC.ofSub (Sub.pre 0 z) (TC.back (TC.ret ?_))))))))))))))
      obtain rfl := so hh
      exact rq [4] ⟨z, z, z⟩
end Go.Proofs.YtnpbfjdpglfdkaaGreatDoor
end

section
namespace Go.Proofs.YtnpbfjdpglfdkaaGreatDoor
open Go Go.E
theorem nrun_way {t : Fst} : ∀ (w : List UInt8) (P : Int → Prop) (q : Int), nrun (inN t) P w q ↔ ∃ s, P s ∧ ∃ o, Wy t s w o q
  | [], P, q => ⟨fun h => ⟨q, h, [], .nil q⟩, fun ⟨s, h, o, hw⟩ => by
    obtain ⟨-, rfl⟩ := hw.nil_inv
    exact h⟩
  | b :: w, P, q => by
    show nrun (inN t) (nst (inN t) P b) w q ↔ _
    rw [nrun_way w]
    constructor
    · rintro ⟨s, ⟨e, he, h1, h2, rfl⟩, o, hw⟩
      obtain ⟨a, ha, rfl⟩ := List.mem_map.1 (show e ∈ t.arcs.map fun a => (⟨a.frm, a.to, a.set⟩ : Arrow) from he)
      exact ⟨a.frm, h1, em a b ++ o, .cons a b ha h2 hw⟩
    · rintro ⟨s, h1, o, hw⟩
      obtain ⟨a, ha, rfl, h2, o', hw', -⟩ := hw.cons_inv
      exact ⟨a.to, ⟨⟨a.frm, a.to, a.set⟩, List.mem_map.2 ⟨a, ha, rfl⟩, h1, h2, rfl⟩, o', hw'⟩
theorem in_takes {t : Fst} (w : List UInt8) : (∃ q ∈ (inN t).ends, nrun (inN t) (fun q => q ∈ (inN t).starts) w q) ↔ ∃ o, Rel t w o := by
  constructor
  · rintro ⟨q, hq, h⟩
    obtain ⟨s, hs, o, hw⟩ := (nrun_way w _ q).1 h
    have hs' : s ∈ onceL 0 cmpI (t.starts.map Tip.state) := hs
    have hq' : q ∈ onceL 0 cmpI (t.ends.map Tip.state) := hq
    rw [mem_onceL] at hs' hq'
    obtain ⟨x, hx, rfl⟩ := List.mem_map.1 hs'
    obtain ⟨e, he, rfl⟩ := List.mem_map.1 hq'
    exact ⟨_, x, hx, e, he, o, hw, rfl⟩
  · rintro ⟨o, x, hx, e, he, m, hw, -⟩
    refine ⟨e.state, ?_, (nrun_way w _ _).2 ⟨x.state, ?_, m, hw⟩⟩
    · show e.state ∈ onceL 0 cmpI (t.ends.map Tip.state)
      rw [mem_onceL]; exact List.mem_map.2 ⟨e, he, rfl⟩
    · show x.state ∈ onceL 0 cmpI (t.starts.map Tip.state)
      rw [mem_onceL]; exact List.mem_map.2 ⟨x, hx, rfl⟩
theorem inN_ns {t : Fst} (ht : FstOk t) (h5 : t.states ≤ 5) : NS (inN t) := by
  refine ⟨ht.st0, ?_, ?_, fun e he => ?_, fun x hx => ?_, ?_, fun x hx => ?_⟩
  · show t.states ≤ 20
    omega
  · show (t.arcs.map _).length ≤ 16384
    rw [List.length_map]; exact ht.arcsN
  · obtain ⟨a, ha, rfl⟩ := List.mem_map.1 (show e ∈ t.arcs.map fun a => (⟨a.frm, a.to, a.set⟩ : Arrow) from he)
    exact ⟨(ht.arcs a ha).1, (ht.arcs a ha).2.1⟩
  · have hx' : x ∈ onceL 0 cmpI (t.starts.map Tip.state) := hx
    rw [mem_onceL] at hx'
    obtain ⟨y, hy, rfl⟩ := List.mem_map.1 hx'
    exact (ht.starts y hy).1
  · show (onceL 0 cmpI (t.starts.map Tip.state)).length ≤ 1000000
    have h1 := H2_ (d := (0 : Int)) (cf := cmpI) (t.starts.map Tip.state)
    rw [List.length_map] at h1
    have := ht.startsN
    omega
  · have hx' : x ∈ onceL 0 cmpI (t.ends.map Tip.state) := hx
    rw [mem_onceL] at hx'
    obtain ⟨y, hy, rfl⟩ := List.mem_map.1 hx'
    exact (ht.ends y hy).1
theorem small18_st {t : Fst} (h : A8_ t = some true) : t.states ≤ 5 ∨ 1024 < t.states := by
  unfold A8_ at h
  obtain ⟨b, hb⟩ := few15_total t
  rw [bnd_some hb] at h
  cases b with
  | false => cases h
  | true =>
    rw [iteO_true] at h
    by_cases c : t.states ≤ 5
    · exact .inl c
    · rw [iteO_df c] at h
      exact .inr (of_decide_eq_true (Option.some.inj h))
theorem domain_any {t : Fst} (hs : t.states ≤ 5 ∨ 1024 < t.states) : ∃ r, Bu_ t = some r ∧ (r.2 ≠ 0 ∨ FstOk t ∧ r.2 = 0 ∧ rightD r.1 = true ∧ ∀ w, nth r.1.fin (runD r.1 0 w).toNat false = true ↔ ∃ o, Rel t w o) := by
  unfold Bu_
  rw [in_eq, bnd_mk]
  by_cases h : fstB t = true
  · have ht := (fstB_iff t).1 h
    have h1 := ht.st1
    have hns := inN_ns ht (by omega)
    obtain ⟨r, e, hr⟩ := of_go hns
    rw [if_pos h]
    dsimp only
    rw [iteO_df (by simp), bnd_some e]
    by_cases c : r.2 ≠ 0
    · rw [iteO_dt c]; exact ⟨_, rfl, .inl c⟩
    · obtain ⟨d, e2⟩ := r
      obtain rfl : e2 = 0 := by
        apply Decidable.byContradiction
        exact fun q => c q
      rw [iteO_df c]
      obtain ⟨m, em, hm⟩ := min_any d
      rw [bnd_some em]
      rcases hm with hm | ⟨h2, h3, h4, h5⟩
      · exact ⟨_, rfl, .inl hm⟩
      · exact ⟨_, rfl, .inr ⟨ht, h2, h4, fun w => by rw [h5 w, of_takes hr w, in_takes w]⟩⟩
  · rw [if_neg h]
    exact ⟨_, rfl, .inl (by decide)⟩
theorem pruneDomain_eq (t : Fst) (w : List UInt8) (hw0 : w.length ≤ 281474976710656) : Bt_ t w = some true := by
  unfold Bt_
  rw [grd_mk hw0]
  obtain ⟨b, hb⟩ := small18_total t
  rw [bnd_some hb]
  cases b with
  | false => rfl
  | true =>
  have hst := small18_st hb
  rw [Bool.not_true, iteO_false]
  by_cases hw : 4 < ((w.length : Nat) : Int)
  · rw [iteO_dt hw]
  have haw : (bnd Av_ fun v => some v) = some true := by rw [awake18, bnd_mk]
  obtain ⟨r, e, hr⟩ := domain_any hst
  rw [iteO_df hw, bnd_some e, outs_eq t w hw0, bnd_mk, haw]
  rcases hr with hr | ⟨ht, h1, h2, h3⟩
  · rw [iteO_dt hr]
  · rw [iteO_df (fun h => h h1), if_pos ((fstB_iff t).2 ht), if_pos (by omega)]
    by_cases hf : fitsB t w = true
    · rw [if_pos hf]
      dsimp only
      rw [iteO_df (by simp), tk_eq _ w hw0, bnd_mk, if_pos h2, awake18, bnd_mk, iteO_true]
      dsimp only
      rw [iteO_dt rfl]
      have : nth r.1.fin (runD r.1 0 w).toNat false = decide (0 < (((outsL t w).length : Nat) : Int)) := by
        rw [Bool.eq_iff_iff, h3 w, decide_eq_true_eq]
        constructor
        · rintro ⟨o, ho⟩
          have := List.length_pos_of_mem (mem_outs_rel.2 ho)
          omega
        · intro h
          obtain ⟨o, ho⟩ := List.exists_mem_of_length_pos (l := outsL t w) (by omega)
          exact ⟨o, mem_outs_rel.1 ho⟩
      rw [this, show ∀ b : Bool, (b == b) = true from fun b => beq_self_eq_true b]
    · rw [if_neg hf]
      dsimp only
      rw [iteO_dt (by decide)]
end Go.Proofs.YtnpbfjdpglfdkaaGreatDoor
end

section
namespace Go.E
open Go Go.ChangeShapes Go.WideShapes
def laidB {H : Type} (l : List UInt8) : DataW H := .agg (l.map fun b => .lit (.int .u8 ((b.toNat : Nat) : Int)))
theorem getElem_drop1 {α : Type} (l : List α) (i : Nat) : ((l.drop (i * 1)).take 1) = (l[i]?).toList := by
  rw [Nat.mul_one]
  cases h : l[i]? with
  | none => rw [List.drop_of_length_le (by simpa using h)]; rfl
  | some x =>
    obtain ⟨hi, rfl⟩ := List.getElem?_eq_some_iff.1 h
    rw [List.drop_eq_getElem_cons hi]; rfl
theorem laid_gt {P : Program} {W : World} {name : String} {g T E : Nat} {l : List UInt8} (h : laidMetH P [(name, laidB l)] W) (hg : P.globalNamed name = some g) (hT : (P.globals[g]?).map (·.type) = some T)
    (hu : P.underlying T = some (.array l.length E)) (hE : P.underlying E = some (.int .u8)) (hc : P.cellsOf E = 1) (hcT : P.cellsOf T = l.length) (hl : 0 < l.length) : GT (heapS W) g encU8 l := by
  rw [MakeChecks.laidMetH_plain _ _ _ (by simp [laidB, DataW.handleName?])] at h
  obtain ⟨ps, ⟨g0, t0, cs, fu, p, q, hg0, ht0, hv0, hd0, _, hps⟩, _, hok⟩ := h
  obtain rfl := Option.some.inj (hg.symm.trans hg0)
  obtain rfl := Option.some.inj (hT.symm.trans ht0)
  obtain ⟨xs, m, rfl, hx, hlen, hn, hel⟩ := DataW.trod_array hu hd0
  rw [hcT] at hlen
  have hx1 : xs.map (·.1) = l.map fun b => (.lit (.int .u8 ((b.toNat : Nat) : Int)) : DataW Unit) := by
    have := congrArg Prod.fst hx
    simp only [laidB, DataW.agg.injEq] at this
    exact this.symm
  have hcs : cs.toList = l.flatMap encU8 := by
    apply List.ext_getElem?
    intro i
    by_cases hi : i < l.length
    · have h1 := hel i hi
      rw [hc, getElem_drop1] at h1
      have hxi : i < xs.length := by omega
      rw [List.getElem?_eq_getElem hxi] at h1
      obtain ⟨k, e1, e2, _⟩ := DataW.trod_int hE h1
      have h2 : (xs.map (·.1))[i]? = some (.lit (.int .u8 k)) := by rw [List.getElem?_map, List.getElem?_eq_getElem hxi, e2]; rfl
      rw [hx1, List.getElem?_map, List.getElem?_eq_getElem hi] at h2
      simp only [Option.map_some, Option.some.injEq, DataW.lit.injEq, Lit.int.injEq, true_and] at h2
      have h3 : cs.toList[i]? = some (.int .u8 k) := by
        cases hz : cs.toList[i]? with
        | none => rw [hz] at e1; cases e1
        | some z => rw [hz] at e1; simp at e1; rw [e1]
      rw [h3, flat_one (enc := encU8) (fun _ => rfl) (0 : UInt8) l i hi, ← h2]
      have h4 := getD_some l hi (0 : UInt8)
      rw [List.getElem?_eq_getElem hi] at h4
      rw [← Option.some.inj h4]; rfl
    · rw [List.getElem?_eq_none (by omega), List.getElem?_eq_none (by rw [flatMap_len (size := 1) (fun _ => rfl)]; omega)]
  have hmem : MemPlace.cell g 0 ∈ ps := by
    rw [hps]
    refine List.mem_append_left _ (List.mem_append_left _ ?_)
    simp only [MemPlace.row, List.mem_map, List.mem_range]
    exact ⟨0, by have : cs.size = l.length := by rw [← Array.length_toList, hlen]
                 omega, by simp⟩
  obtain ⟨⟨c, t, hb⟩, _⟩ := hok g 0 hmem
  refine ⟨t, ?_⟩
  show W.heap[g]? = _
  have hv : W.var? P name = some c := by unfold World.var?; rw [hg]; simp [hb]
  rw [hv0] at hv
  rw [hb, ← Option.some.inj hv, ← hcs]
end Go.E
end

section
/- PruneDomain: for every input the law returns true, and each argument reads afterwards as it read before. No condition of ours. -/
namespace Go.Proofs.YtnpbfjdpglfdkaaGreatDoor
open Go Go.E Go.ChangeShapes Go.WideShapes Go.ChangeAt Go.RowKit
theorem pruneDomain_own : ownKnob Tryz.prog.godebug = none := by kernel_rfl
theorem pruneDomain_laidOut : laidOutB Tryz.prog = true := by kernel_rfl
def pruneDomain_laid : List (String × DataW Unit) := [("math/bits.deBruijn64tab", Rows.laid_math_bits_deBruijn64tab)]
theorem pruneDomain_g0 : Tryz.prog.globalNamed "math/bits.deBruijn64tab" = some 1 := by kernel_rfl
theorem pruneDomain_t0 : (Tryz.prog.globals[1]?).map (·.type) = some 182 := by kernel_rfl
theorem pruneDomain_door (os : Os) (args : Array Value) : laidMetH Tryz.prog pruneDomain_laid ((World.doorLaid Tryz.prog 400 os).forCall (fun _ _ => 0) ⟨#[], args, []⟩).memory :=
  laidMetH_of_parts3 (fuel := 8) (laidMet_of_run' 8 (by kernel_rfl) (by kernel_rfl)) (by kernel_rfl) (by kernel_rfl)
theorem pruneDomain_cells3 : Tryz.prog.cellsOf 3 = 1 := by kernel_rfl
theorem pruneDomain_cells4 : Tryz.prog.cellsOf 4 = 1 := by kernel_rfl
theorem pruneDomain_cells9 : Tryz.prog.cellsOf 9 = 1 := by kernel_rfl
theorem pruneDomain_cells22 : Tryz.prog.cellsOf 22 = 1 := by kernel_rfl
theorem pruneDomain_cells23 : Tryz.prog.cellsOf 23 = 1 := by kernel_rfl
theorem pruneDomain_cells25 : Tryz.prog.cellsOf 25 = 4 := by kernel_rfl
theorem pruneDomain_cells55 : Tryz.prog.cellsOf 55 = 1 := by kernel_rfl
theorem pruneDomain_cells57 : Tryz.prog.cellsOf 57 = 4 := by kernel_rfl
theorem pruneDomain_cells59 : Tryz.prog.cellsOf 59 = 8 := by kernel_rfl
theorem pruneDomain_cells62 : Tryz.prog.cellsOf 62 = 2 := by kernel_rfl
theorem pruneDomain_bytes59 : Tryz.prog.bytesOf 59 = 72 := by kernel_rfl
theorem pruneDomain_bytes62 : Tryz.prog.bytesOf 62 = 24 := by kernel_rfl
theorem pruneDomain_opn3 {w : World} : Opn Tryz.prog w 3 (fun cs (x : Int) => cs = [.int .i64 x]) := Opn.mono (Opn.int Tryz.underlying3) id fun cs x h => h.1
theorem pruneDomain_opn9 {w : World} : Opn Tryz.prog w 9 (fun cs (x : List UInt8) => cs = [.string (bs x)]) := Opn.mono (Opn.str Tryz.underlying9) id fun cs x h => h.1
theorem pruneDomain_opn62 {w : World} : Opn Tryz.prog w 62 (fun cs (x : Tip) => cs = encTip x) := by
  intro H enc held fuel cs d ps ht hs
  obtain ⟨hl, hp⟩ := open_struct Tryz.underlying62 ht hs
  rw [pruneDomain_cells62] at hl
  obtain ⟨x0, h0⟩ := hp 0 _ rfl pruneDomain_opn3
  replace h0 : (cs.drop 0).take (Tryz.prog.cellsOf 3) = [.int .i64 x0] := h0
  rw [pruneDomain_cells3] at h0
  obtain ⟨x1, h1⟩ := hp 1 _ rfl pruneDomain_opn9
  replace h1 : (cs.drop 1).take (Tryz.prog.cellsOf 9) = [.string (bs x1)] := h1
  rw [pruneDomain_cells9] at h1
  have e : cs = ((cs.drop 0).take 1 ++ ((cs.drop 1).take 1 ++ cs.drop 2)) := by
    rw [split_at cs 1 1]; rw [split_at cs 0 1]; rfl
  rw [h0, h1, List.drop_of_length_le (by omega)] at e
  exact ⟨⟨x0, x1⟩, e⟩
theorem pruneDomain_opn22 {w : World} : Opn Tryz.prog w 22 (fun cs (x : List Tip) => ∃ (a0 : Option Addr) (c0 : Nat), cs = [.slice a0 x.length c0] ∧ RS (heapS w) 2 encTip (.slice a0 x.length c0) x) := Opn.slice Tryz.underlying22 pruneDomain_opn62 pruneDomain_cells62 (by rw [pruneDomain_bytes62]; decide) encTip_len encTip_one
theorem pruneDomain_opn57 {w : World} : Opn Tryz.prog w 57 (fun cs (x : BSet) => cs = (setA x).toList) := Opn.set Tryz.underlying57 Tryz.underlying55 pruneDomain_cells57 pruneDomain_cells55
theorem pruneDomain_opn4 {w : World} : Opn Tryz.prog w 4 (fun cs (x : Bool) => cs = [.bool x]) := Opn.bool Tryz.underlying4
theorem pruneDomain_opn59 {w : World} : Opn Tryz.prog w 59 (fun cs (x : Arc) => cs = encArc x) := by
  intro H enc held fuel cs d ps ht hs
  obtain ⟨hl, hp⟩ := open_struct Tryz.underlying59 ht hs
  rw [pruneDomain_cells59] at hl
  obtain ⟨x0, h0⟩ := hp 0 _ rfl pruneDomain_opn3
  replace h0 : (cs.drop 0).take (Tryz.prog.cellsOf 3) = [.int .i64 x0] := h0
  rw [pruneDomain_cells3] at h0
  obtain ⟨x1, h1⟩ := hp 1 _ rfl pruneDomain_opn3
  replace h1 : (cs.drop 1).take (Tryz.prog.cellsOf 3) = [.int .i64 x1] := h1
  rw [pruneDomain_cells3] at h1
  obtain ⟨x2, h2⟩ := hp 2 _ rfl pruneDomain_opn57
  replace h2 : (cs.drop 2).take (Tryz.prog.cellsOf 57) = (setA x2).toList := h2
  rw [pruneDomain_cells57] at h2
  obtain ⟨x3, h3⟩ := hp 3 _ rfl pruneDomain_opn9
  replace h3 : (cs.drop 6).take (Tryz.prog.cellsOf 9) = [.string (bs x3)] := h3
  rw [pruneDomain_cells9] at h3
  obtain ⟨x4, h4⟩ := hp 4 _ rfl pruneDomain_opn4
  replace h4 : (cs.drop 7).take (Tryz.prog.cellsOf 4) = [.bool x4] := h4
  rw [pruneDomain_cells4] at h4
  have e : cs = ((cs.drop 0).take 1 ++ ((cs.drop 1).take 1 ++ ((cs.drop 2).take 4 ++ ((cs.drop 6).take 1 ++ ((cs.drop 7).take 1 ++ cs.drop 8))))) := by
    rw [split_at cs 7 1]; rw [split_at cs 6 1]; rw [split_at cs 2 4]; rw [split_at cs 1 1]; rw [split_at cs 0 1]; rfl
  rw [h0, h1, h2, h3, h4, List.drop_of_length_le (by omega)] at e
  exact ⟨⟨x0, x1, x2, x3, x4⟩, e⟩
theorem pruneDomain_opn23 {w : World} : Opn Tryz.prog w 23 (fun cs (x : List Arc) => ∃ (a0 : Option Addr) (c0 : Nat), cs = [.slice a0 x.length c0] ∧ RS (heapS w) 8 encArc (.slice a0 x.length c0) x) := Opn.slice Tryz.underlying23 pruneDomain_opn59 pruneDomain_cells59 (by rw [pruneDomain_bytes59]; decide) encArc_len encArc_one
theorem pruneDomain_opn25 {w : World} : Opn Tryz.prog w 25 (fun cs (x : Fst) => ∃ (a0 : Option Addr) (c0 : Nat), ∃ (a1 : Option Addr) (c1 : Nat), ∃ (a2 : Option Addr) (c2 : Nat), cs = [.int .i64 x.states, .slice a0 x.starts.length c0, .slice a1 x.ends.length c1, .slice a2 x.arcs.length c2] ∧ RS (heapS w) 2 encTip (.slice a0 x.starts.length c0) x.starts ∧ RS (heapS w) 2 encTip (.slice a1 x.ends.length c1) x.ends ∧ RS (heapS w) 8 encArc (.slice a2 x.arcs.length c2) x.arcs) := by
  intro H enc held fuel cs d ps ht hs
  obtain ⟨hl, hp⟩ := open_struct Tryz.underlying25 ht hs
  rw [pruneDomain_cells25] at hl
  obtain ⟨x0, h0⟩ := hp 0 _ rfl pruneDomain_opn3
  replace h0 : (cs.drop 0).take (Tryz.prog.cellsOf 3) = [.int .i64 x0] := h0
  rw [pruneDomain_cells3] at h0
  obtain ⟨x1, a1_a0, c1_c0, h1, f1_a0⟩ := hp 1 _ rfl pruneDomain_opn22
  replace h1 : (cs.drop 1).take (Tryz.prog.cellsOf 22) = [.slice a1_a0 x1.length c1_c0] := h1
  rw [pruneDomain_cells22] at h1
  obtain ⟨x2, a2_a0, c2_c0, h2, f2_a0⟩ := hp 2 _ rfl pruneDomain_opn22
  replace h2 : (cs.drop 2).take (Tryz.prog.cellsOf 22) = [.slice a2_a0 x2.length c2_c0] := h2
  rw [pruneDomain_cells22] at h2
  obtain ⟨x3, a3_a0, c3_c0, h3, f3_a0⟩ := hp 3 _ rfl pruneDomain_opn23
  replace h3 : (cs.drop 3).take (Tryz.prog.cellsOf 23) = [.slice a3_a0 x3.length c3_c0] := h3
  rw [pruneDomain_cells23] at h3
  have e : cs = ((cs.drop 0).take 1 ++ ((cs.drop 1).take 1 ++ ((cs.drop 2).take 1 ++ ((cs.drop 3).take 1 ++ cs.drop 4)))) := by
    rw [split_at cs 3 1]; rw [split_at cs 2 1]; rw [split_at cs 1 1]; rw [split_at cs 0 1]; rfl
  rw [h0, h1, h2, h3, List.drop_of_length_le (by omega)] at e
  exact ⟨⟨x0, x1, x2, x3⟩, a1_a0, c1_c0, a2_a0, c2_c0, a3_a0, c3_c0, e, f1_a0, f2_a0, f3_a0⟩
set_option maxRecDepth 100000 in
theorem pruneDomain_lifted (os : Os) (started : os.Started) (H : Type) (enc : TypeId × Value → H) :
    ReturnsInHanded {} Tryz.checked os 3 .any (fun w args => (Rows.pruneDomainSpec.pre enc Tryz.prog Tryz.f3 [] false w args ∧ laidMetH Tryz.prog pruneDomain_laid w) ∧ sizedMet enc Tryz.prog Tryz.f3 (OpenSpec.ofChange Rows.pruneDomainSpec) false w args)
      (Rows.pruneDomainSpec.post enc Tryz.prog Tryz.f3 false true false false) := by
  refine returnsInHanded_of_change_and (C := Tryz.checked) (X := fun w _ => laidMetH Tryz.prog pruneDomain_laid w) (fun _ _ _ hh h => h.of_heap hh) pruneDomain_own started (by kernel_rfl) Tryz.func3
    (ChangeSpec.witness_shaped (enc := enc) (C := Tryz.checked) (os := os) (X := fun w _ => laidMetH Tryz.prog pruneDomain_laid w) false (World.doorLaid Tryz.prog 400 os) #[.agg #[.int .i64 0, .slice none 0 0, .slice none 0 0, .slice none 0 0], .string ⟨#[]⟩] 8 rfl (World.shaped_of_RefB (by kernel_rfl) (by kernel_rfl)) (by kernel_rfl) (by kernel_rfl) (by kernel_rfl) (pruneDomain_door os _)) ?_
  intro W base args ds gs before hval0 hW _ hsz0 hL _
  have hgl := laid_gt (P := Tryz.prog) (l := deB) (by exact hL) pruneDomain_g0 pruneDomain_t0 (by exact Tryz.underlying182) Tryz.underlying5 (by kernel_rfl) (by kernel_rfl) (by decide)
  have hsz1 : (DataW.weightsEach Tryz.prog (Tryz.f3.params.toList ++ Rows.pruneDomainSpec.plain.varTypes Tryz.prog) (ds ++ gs)).all (· ≤ reachBytes) = true := hsz0
  have hval : ∀ (j : Nat) t v, Tryz.f3.params[j]? = some t → args[j]? = some v → Value.okWide Tryz.prog W .any base t v := hval0
  have hW' := hW
  obtain ⟨p, q, hA0, hV, rfl, hfz, hnd⟩ := hW
  have hA : DataW.TrodAll enc Tryz.prog W 0 (fun _ => true) true Tryz.f3.params.toList args.toList ds p := hA0
  rw [Tryz.params3] at hA hval hsz1
  have hsm := small_of hsz1
  obtain ⟨v0, vs0, d0, ds0, p0, q0, hargs, rfl, rfl, h0, r0⟩ := trodAll_cons hA
  obtain ⟨v1, vs1, d1, ds1, p1, q1, rfl, rfl, rfl, h1, r1⟩ := trodAll_cons r0
  obtain ⟨rfl, rfl, rfl⟩ := trodAll_nil r1
  obtain rfl : args = #[v0, v1] := by cases args; simp_all
  obtain ⟨rfl, rfl⟩ := trodVars_none hV
  clear hA0 hval0 hsz0 hsz1
  have s0 := weights_at (P := Tryz.prog) (i := 0) rfl rfl hsm
  have k0 := h0
  have lt0 : ∀ x ∈ p0, x.block < W.heap.size := by obtain ⟨m, hm⟩ := k0; exact DataW.trod_lt m _ _ _ hm
  obtain ⟨n0, rfl⟩ := okWide_agg Tryz.underlying25 (.inl ⟨_, rfl⟩) (hval 0 25 v0 rfl rfl)
  obtain ⟨x0, a0_0, c0_0, a0_1, c0_1, a0_2, c0_2, e0, f0_0, f0_1, f0_2⟩ := pruneDomain_opn25.arg h0 s0
  replace e0 := agg_of e0
  have g0 : ∀ W', Below W.heap.size W W' → DataW.Trod enc Tryz.prog W' 0 (fun b => decide (b < W.heap.size)) true 25 _ d0 p0 := fun W' bel => Below.trod pruneDomain_laidOut (by kernel_rfl) (of_decide_eq_true (by kernel_rfl)) k0 bel lt0
  have s1 := weights_at (P := Tryz.prog) (i := 1) rfl rfl hsm
  have k1 := h1
  have lt1 : ∀ x ∈ p1, x.block < W.heap.size := by obtain ⟨m, hm⟩ := k1; exact DataW.trod_lt m _ _ _ hm
  obtain ⟨n1, rfl⟩ := okWide_string Tryz.underlying9 (hval 1 9 v1 rfl rfl)
  obtain ⟨x1, e1, b1⟩ := Opn.arg (Opn.str Tryz.underlying9) h1 s1
  simp only [Value.cells] at e1
  replace e1 := List.head_eq_of_cons_eq e1
  have g1 : ∀ W', Below W.heap.size W W' → DataW.Trod enc Tryz.prog W' 0 (fun b => decide (b < W.heap.size)) true 9 _ d1 p1 := fun W' bel => Below.trod pruneDomain_laidOut (by kernel_rfl) (of_decide_eq_true (by kernel_rfl)) k1 bel lt1
  have hcall : Calls Tryz.prog 3 #[.agg ([.int .i64 x0.states, .slice a0_0 x0.starts.length c0_0, .slice a0_1 x0.ends.length c0_1, .slice a0_2 x0.arcs.length c0_2]).toArray, .string (bs x1)] W fun e w' => e = .returned (.bool true) ∧ Below W.heap.size W w' := Con.below (Fd_ hgl f0_0 f0_1 f0_2 (pruneDomain_eq x0 x1 (Nat.le_trans b1 (by decide))))
  have hcall2 : Calls Tryz.prog 3 #[(.agg n0), (.string n1)] W fun e w' => e = .returned (.bool true) ∧ Below W.heap.size W w' := by
    rw [e0, e1]; exact hcall
  refine hcall2.mono fun e W' ⟨he, bel⟩ => ?_
  subst he
  exact ⟨_, rfl, _, _, _, [], _, [], hW', trodAll_mk1 (shut_bool Tryz.underlying4 _), (trodAll_cons_mk (g0 W' bel) (trodAll_cons_mk (g1 W' bel) trodAll_mk0)), rfl, bel.frame _, fun h => by cases h⟩
theorem pruneDomain_over : Rows.pruneDomainRow.holds Tryz.pinned (OpenSpec.ofChange Rows.pruneDomainSpec) :=
  OpenClaim.holds_of_wide 3 Tryz.f3 rfl rfl rfl rfl rfl rfl rfl ⟨rfl, rfl, rfl, rfl, rfl⟩ rfl rfl rfl rfl rfl (by kernel_rfl) Tryz.func3 (by kernel_rfl)
    (of_decide_eq_true (by kernel_rfl)) (by unfold Func.isWrapper; first | (rw [if_pos (by decide +kernel)]; kernel_rfl) | (rw [if_neg (by decide +kernel)]; exact ⟨rfl, rfl⟩))
    (fun os started H enc _ => pruneDomain_lifted os started H enc)
theorem pruneDomain_row : Rows.PruneDomainSaid := pruneDomain_over
#print axioms pruneDomain_row
theorem pruneDomain_plain : ∀ (j : Nat) (t : TypeId), Tryz.f3.params[j]? = some t → Tryz.prog.wantsStandIn t = false := fun j t ht => by
  rw [Tryz.params3] at ht
  have hm : t ∈ [25, 9] := by simpa using Array.mem_of_getElem? ht
  have hall : ([25, 9].all fun u => !Tryz.prog.wantsStandIn u) = true := by kernel_rfl
  exact (show Tryz.prog.wantsStandIn t = false by simpa using List.all_eq_true.1 hall t hm)
theorem pruneDomain_holds : Rows.PruneDomainCardSaid :=
  Claim7.holds_tied_plain_at .later [] [.data] true (true, "5bff0d10015e8d0f9719458ee5262314827b9f177fc02a5f39dacb07f361863a") false
    pruneDomain_row (fun _ h => by cases h) (by kernel_rfl) (fun _ h => by cases h) pruneDomain_row_tie rfl ⟨rfl, rfl⟩ (by kernel_rfl) rfl
    (fun f fn hf hfn => by
      obtain rfl : f = 3 := Option.some.inj ((show Tryz.prog.funcNamed "whittle/whittlelaw18.PruneDomain" = some 3 by kernel_rfl).symm.trans hf) |>.symm
      obtain rfl : fn = Tryz.f3 := (Option.some.inj (Tryz.func3.symm.trans hfn)).symm
      exact ⟨by kernel_rfl, pruneDomain_plain⟩)
    (by kernel_rfl)
#print axioms pruneDomain_holds
end Go.Proofs.YtnpbfjdpglfdkaaGreatDoor
end
