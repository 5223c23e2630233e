/- The library's sort of numbers at this program. Conditions: none. -/
import Derived.Test.YtcidppnlhhkhhaaLI
import Derived.Test.YtcidppnlhhkhhaaDec11
set_option linter.unusedVariables false
set_option linter.unusedSimpArgs false
namespace Go.Proofs.Ytcidppnlhhkhhaa
open Go Go.E
set_option maxRecDepth 100000
theorem sortInt_con {σ : Store} {a : Option Addr} {c : Nat} {l : List Int} : Con Try.prog 79 #[.slice a l.length c] σ [Res.rowS 3 1 Go.E.encI (.slice a l.length c) l] (SortP 3 1 Go.E.encI a c l (l.mergeSort fun x y => decide (x ≤ y)) σ) := Con.sortInt layInt rfl
end Go.Proofs.Ytcidppnlhhkhhaa
