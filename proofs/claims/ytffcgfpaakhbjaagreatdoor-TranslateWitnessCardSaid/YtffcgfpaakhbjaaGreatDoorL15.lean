/- Part of the proof of TranslateWitness: layer. -/
import Derived.Below
import Derived.Test.YtffcgfpaakhbjaaGreatDoorL14
set_option linter.all false
namespace Go.jX
open Go Go.RowKit
end Go.jX
