/- Contracts of package nfa and of its reference, part one: what is right. -/
import Derived.Test.YtpijipnmfkehcaaGreatLow1
import Derived.Test.YtpijipnmfkehcaaGreatNfaSpec
set_option linter.unusedVariables false
set_option linter.unusedSimpArgs false
namespace Go.Proofs.YtpijipnmfkehcaaGreat
open Go Go.E
set_option maxRecDepth 100000

end Go.Proofs.YtpijipnmfkehcaaGreat
