/- Facts on the types and functions of the program, each computed. No condition. -/
import Derived.Test.YtpijipnmfkehcaaGreatProg
import Derived.Test.YtpijipnmfkehcaaGreatEng5
namespace Go.Proofs.YtpijipnmfkehcaaGreat
open Go
theorem ag41 : Go.E.aggOf Tryz.prog 41 = some false := by kernel_rfl
theorem ag43 : Go.E.aggOf Tryz.prog 43 = some true := by kernel_rfl
theorem ag5 : Go.E.aggOf Tryz.prog 5 = some false := by kernel_rfl
theorem by3 : Go.E.byOf Tryz.prog 3 = some 8 := by kernel_rfl
theorem sz3 : Go.E.szOf Tryz.prog 3 = some 1 := by kernel_rfl
theorem sz41 : Go.E.szOf Tryz.prog 41 = some 1 := by kernel_rfl
theorem sz43 : Go.E.szOf Tryz.prog 43 = some 4 := by kernel_rfl
theorem sz5 : Go.E.szOf Tryz.prog 5 = some 1 := by kernel_rfl
theorem ze3 : Go.E.zeroOf Tryz.prog 3 = some (.int .i64 0) := by kernel_rfl
theorem ze43 : Go.E.zeroOf Tryz.prog 43 = some (.agg #[.int .u64 0, .int .u64 0, .int .u64 0, .int .u64 0]) := by kernel_rfl
end Go.Proofs.YtpijipnmfkehcaaGreat
