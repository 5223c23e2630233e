/- Tables of rows, as plain data. No program, no condition. -/
import Derived.Test.YtcidppnlhhkhhaaData
import Derived.Test.YtcidppnlhhkhhaaDec8
set_option linter.unusedVariables false
set_option linter.unusedSimpArgs false
namespace Go.E
open Go
structure IStore where
  rows : List (List Int)
  places : FM (List UInt8) Int
structure ITable where
  of : IStore
structure RTable where
  l : List (List Int)
def ITable.zero : ITable := ⟨⟨[], FM.emp⟩⟩
def RTable.zero : RTable := ⟨[]⟩
end Go.E
