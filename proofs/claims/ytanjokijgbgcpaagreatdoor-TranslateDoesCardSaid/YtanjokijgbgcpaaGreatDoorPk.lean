/-
  The law of chapter 23 about uniform quantifiers.
-/
import Derived.Test.YtanjokijgbgcpaaGreatDoorPi
set_option linter.unusedSimpArgs false
set_option linter.unusedVariables false
namespace Go.Mdl
open Go

end Go.Mdl
