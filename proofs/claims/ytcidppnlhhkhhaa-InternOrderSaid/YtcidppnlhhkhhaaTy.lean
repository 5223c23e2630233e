/- Facts on the types and functions of the program, each computed. No condition. -/
import Derived.Test.YtcidppnlhhkhhaaProg
import Derived.Test.YtcidppnlhhkhhaaEng5
namespace Go.Proofs.Ytcidppnlhhkhhaa
open Go
theorem ag22 : Go.E.aggOf Try.prog 22 = some false := by kernel_rfl
theorem ag23 : Go.E.aggOf Try.prog 23 = some false := by kernel_rfl
theorem ag25 : Go.E.aggOf Try.prog 25 = some true := by kernel_rfl
theorem ag26 : Go.E.aggOf Try.prog 26 = some false := by kernel_rfl
theorem ag28 : Go.E.aggOf Try.prog 28 = some true := by kernel_rfl
theorem ag3 : Go.E.aggOf Try.prog 3 = some false := by kernel_rfl
theorem ag4 : Go.E.aggOf Try.prog 4 = some false := by kernel_rfl
theorem ag47 : Go.E.aggOf Try.prog 47 = some false := by kernel_rfl
theorem ag5 : Go.E.aggOf Try.prog 5 = some false := by kernel_rfl
theorem ag80 : Go.E.aggOf Try.prog 80 = some true := by kernel_rfl
theorem by3 : Go.E.byOf Try.prog 3 = some 8 := by kernel_rfl
theorem by4 : Go.E.byOf Try.prog 4 = some 1 := by kernel_rfl
theorem by80 : Go.E.byOf Try.prog 80 = some 48 := by kernel_rfl
theorem eg28 : Try.prog.eqGuardType Try.prog.depth 28 = false := by kernel_rfl
theorem fo25_0 : Go.E.foOf Try.prog 25 0 = some 0 := by kernel_rfl
theorem fo25_1 : Go.E.foOf Try.prog 25 1 = some 1 := by kernel_rfl
theorem fo25_2 : Go.E.foOf Try.prog 25 2 = some 2 := by kernel_rfl
theorem fo25_3 : Go.E.foOf Try.prog 25 3 = some 3 := by kernel_rfl
theorem fo74_0 : Go.E.foOf Try.prog 74 0 = some 0 := by kernel_rfl
theorem fo80_0 : Go.E.foOf Try.prog 80 0 = some 0 := by kernel_rfl
theorem fo80_1 : Go.E.foOf Try.prog 80 1 = some 1 := by kernel_rfl
theorem fo80_2 : Go.E.foOf Try.prog 80 2 = some 2 := by kernel_rfl
theorem pf18 : Go.E.plainF Try.prog 18 = true := by kernel_rfl
theorem pf46 : Go.E.plainF Try.prog 46 = true := by kernel_rfl
theorem pf52 : Go.E.plainF Try.prog 52 = true := by kernel_rfl
theorem pf53 : Go.E.plainF Try.prog 53 = true := by kernel_rfl
theorem pf55 : Go.E.plainF Try.prog 55 = true := by kernel_rfl
theorem pf56 : Go.E.plainF Try.prog 56 = true := by kernel_rfl
theorem pf57 : Go.E.plainF Try.prog 57 = true := by kernel_rfl
theorem pf59 : Go.E.plainF Try.prog 59 = true := by kernel_rfl
theorem pf60 : Go.E.plainF Try.prog 60 = true := by kernel_rfl
theorem pf61 : Go.E.plainF Try.prog 61 = true := by kernel_rfl
theorem pf62 : Go.E.plainF Try.prog 62 = true := by kernel_rfl
theorem pf63 : Go.E.plainF Try.prog 63 = true := by kernel_rfl
theorem pf64 : Go.E.plainF Try.prog 64 = true := by kernel_rfl
theorem pf65 : Go.E.plainF Try.prog 65 = true := by kernel_rfl
theorem pf67 : Go.E.plainF Try.prog 67 = true := by kernel_rfl
theorem pf68 : Go.E.plainF Try.prog 68 = true := by kernel_rfl
theorem pf69 : Go.E.plainF Try.prog 69 = true := by kernel_rfl
theorem pf70 : Go.E.plainF Try.prog 70 = true := by kernel_rfl
theorem pf71 : Go.E.plainF Try.prog 71 = true := by kernel_rfl
theorem pf72 : Go.E.plainF Try.prog 72 = true := by kernel_rfl
theorem pf82 : Go.E.plainF Try.prog 82 = true := by kernel_rfl
theorem pf83 : Go.E.plainF Try.prog 83 = true := by kernel_rfl
theorem pf84 : Go.E.plainF Try.prog 84 = true := by kernel_rfl
theorem pf85 : Go.E.plainF Try.prog 85 = true := by kernel_rfl
theorem pf86 : Go.E.plainF Try.prog 86 = true := by kernel_rfl
theorem pf92 : Go.E.plainF Try.prog 92 = true := by kernel_rfl
theorem pl25 : Go.E.plOf Try.prog 25 = some #[(0, 1), (1, 1), (2, 1), (3, 1)] := by kernel_rfl
theorem pl74 : Go.E.plOf Try.prog 74 = some #[(0, 1)] := by kernel_rfl
theorem pl80 : Go.E.plOf Try.prog 80 = some #[(0, 1), (1, 1), (2, 4)] := by kernel_rfl
theorem sz22 : Go.E.szOf Try.prog 22 = some 1 := by kernel_rfl
theorem sz23 : Go.E.szOf Try.prog 23 = some 1 := by kernel_rfl
theorem sz25 : Go.E.szOf Try.prog 25 = some 4 := by kernel_rfl
theorem sz26 : Go.E.szOf Try.prog 26 = some 1 := by kernel_rfl
theorem sz28 : Go.E.szOf Try.prog 28 = some 4 := by kernel_rfl
theorem sz3 : Go.E.szOf Try.prog 3 = some 1 := by kernel_rfl
theorem sz4 : Go.E.szOf Try.prog 4 = some 1 := by kernel_rfl
theorem sz47 : Go.E.szOf Try.prog 47 = some 1 := by kernel_rfl
theorem sz5 : Go.E.szOf Try.prog 5 = some 1 := by kernel_rfl
theorem sz80 : Go.E.szOf Try.prog 80 = some 6 := by kernel_rfl
theorem ze25 : Go.E.zeroOf Try.prog 25 = some (.agg #[.int .i64 0, .slice none 0 0, .slice none 0 0, .slice none 0 0]) := by kernel_rfl
theorem ze28 : Go.E.zeroOf Try.prog 28 = some (.agg #[.int .u64 0, .int .u64 0, .int .u64 0, .int .u64 0]) := by kernel_rfl
theorem ze3 : Go.E.zeroOf Try.prog 3 = some (.int .i64 0) := by kernel_rfl
theorem ze4 : Go.E.zeroOf Try.prog 4 = some (.bool false) := by kernel_rfl
theorem ze47 : Go.E.zeroOf Try.prog 47 = some (.slice none 0 0) := by kernel_rfl
theorem ze5 : Go.E.zeroOf Try.prog 5 = some (.int .u8 0) := by kernel_rfl
theorem ze74 : Go.E.zeroOf Try.prog 74 = some (.agg #[.slice none 0 0]) := by kernel_rfl
theorem ze80 : Go.E.zeroOf Try.prog 80 = some (.agg #[.int .i64 0, .int .i64 0, .int .u64 0, .int .u64 0, .int .u64 0, .int .u64 0]) := by kernel_rfl
end Go.Proofs.Ytcidppnlhhkhhaa
