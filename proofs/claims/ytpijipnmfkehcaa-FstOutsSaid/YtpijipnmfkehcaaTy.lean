/- Facts on the types and functions of the program, each computed. No condition. -/
import Derived.Test.YtpijipnmfkehcaaProg
import Derived.Test.YtpijipnmfkehcaaEng5
namespace Go.Proofs.Ytpijipnmfkehcaa
open Go
theorem ag3 : Go.E.aggOf Try.prog 3 = some false := by kernel_rfl
theorem ag37 : Go.E.aggOf Try.prog 37 = some false := by kernel_rfl
theorem ag39 : Go.E.aggOf Try.prog 39 = some true := by kernel_rfl
theorem ag47 : Go.E.aggOf Try.prog 47 = some false := by kernel_rfl
theorem ag48 : Go.E.aggOf Try.prog 48 = some false := by kernel_rfl
theorem ag5 : Go.E.aggOf Try.prog 5 = some false := by kernel_rfl
theorem ag82 : Go.E.aggOf Try.prog 82 = some true := by kernel_rfl
theorem by3 : Go.E.byOf Try.prog 3 = some 8 := by kernel_rfl
theorem eg39 : Try.prog.eqGuardType Try.prog.depth 39 = false := by kernel_rfl
theorem fo50_0 : Go.E.foOf Try.prog 50 0 = some 0 := by kernel_rfl
theorem fo50_1 : Go.E.foOf Try.prog 50 1 = some 1 := by kernel_rfl
theorem fo50_2 : Go.E.foOf Try.prog 50 2 = some 2 := by kernel_rfl
theorem fo50_3 : Go.E.foOf Try.prog 50 3 = some 3 := by kernel_rfl
theorem fo82_0 : Go.E.foOf Try.prog 82 0 = some 0 := by kernel_rfl
theorem fo82_1 : Go.E.foOf Try.prog 82 1 = some 1 := by kernel_rfl
theorem fo82_2 : Go.E.foOf Try.prog 82 2 = some 2 := by kernel_rfl
theorem pf39 : Go.E.plainF Try.prog 39 = true := by kernel_rfl
theorem pf40 : Go.E.plainF Try.prog 40 = true := by kernel_rfl
theorem pf63 : Go.E.plainF Try.prog 63 = true := by kernel_rfl
theorem sz3 : Go.E.szOf Try.prog 3 = some 1 := by kernel_rfl
theorem sz37 : Go.E.szOf Try.prog 37 = some 1 := by kernel_rfl
theorem sz39 : Go.E.szOf Try.prog 39 = some 4 := by kernel_rfl
theorem sz5 : Go.E.szOf Try.prog 5 = some 1 := by kernel_rfl
theorem sz82 : Go.E.szOf Try.prog 82 = some 6 := by kernel_rfl
theorem ze3 : Go.E.zeroOf Try.prog 3 = some (.int .i64 0) := by kernel_rfl
theorem ze39 : Go.E.zeroOf Try.prog 39 = some (.agg #[.int .u64 0, .int .u64 0, .int .u64 0, .int .u64 0]) := by kernel_rfl
theorem ze82 : Go.E.zeroOf Try.prog 82 = some (.agg #[.int .i64 0, .int .i64 0, .int .u64 0, .int .u64 0, .int .u64 0, .int .u64 0]) := by kernel_rfl
end Go.Proofs.Ytpijipnmfkehcaa
